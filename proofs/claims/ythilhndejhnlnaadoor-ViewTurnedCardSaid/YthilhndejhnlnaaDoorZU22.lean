/- Texts joined: M4. -/
import Derived.Test.YthilhndejhnlnaaDoorZU19
import Derived.Test.YthilhndejhnlnaaDoorZU20
import Derived.Test.YthilhndejhnlnaaDoorZU21
section
/- The makers' plain law, 4: a byte of the source; a number out of it. -/
namespace Go.Proofs.YthilhndejhnlnaaDoor.Mk
open Go.RowKit Go.Proofs.YthilhndejhnlnaaDoor.QAll Go.Proofs.YthilhndejhnlnaaDoorW.PrintWords Go.Proofs.YthilhndejhnlnaaDoorW.PrintLast Go.Proofs.YthilhndejhnlnaaDoorW.PrintMore Go.Proofs.YthilhndejhnlnaaDoor.Hand
set_option linter.unusedVariables false
def BytesOk (B : List Int) : Prop := (∀ x ∈ B, 0 ≤ x ∧ x < 256) ∧ B.length ≤ 1099511627776
theorem rd_byte {B : List Int} (h : BytesOk B) (i : Int) (h0 : 0 ≤ i) (h1 : i < B.length) : 0 ≤ rd B i ∧ rd B i < 256 := by
  have hk : i.toNat < B.length := by omega
  have e : rd B i = B[i.toNat] := by unfold rd; rw [List.getD_eq_getElem?_getD, List.getElem?_eq_getElem hk]; rfl
  rw [e]; exact h.1 _ (List.getElem_mem hk)
/-- The next byte, and the place behind it; behind the end 0. -/
theorem next_f {B : List Int} (h : BytesOk B) (i : Int) (h0 : 0 ≤ i) (h1 : i ≤ B.length) :
    ∃ c j : Int, transomhand05_Source_next.f B i = some (c, j) ∧ 0 ≤ c ∧ c < 256 ∧ i ≤ j ∧ j ≤ B.length ∧ (i < B.length → j = i + 1) ∧ (i = B.length → c = 0 ∧ j = i) := by
  have hl := h.2
  unfold transomhand05_Source_next.f
  by_cases c : i ≥ (B.length : Int)
  · rw [if_pos c]; exact ⟨0, i, rfl, by decide, by decide, by omega, h1, by omega, fun _ => ⟨rfl, rfl⟩⟩
  · have e1 : wrap64 (i + 1) = i + 1 := by unfold wrap64; omega
    have e2 : wrap64 (i + 1 - 1) = i := by unfold wrap64; omega
    have hb := rd_byte h i h0 (by omega)
    rw [if_neg c, e1, e2, if_pos h0, if_pos (by omega), w64 _ hb.1 hb.2]
    exact ⟨_, _, rfl, hb.1, hb.2, by omega, by omega, fun _ => rfl, by omega⟩
theorem range_u64 (x : Int) : 0 ≤ IntKind.u64.wrap x ∧ IntKind.u64.wrap x < 18446744073709551616 := by rw [IntKind.wrap_u64]; omega
theorem bits_u64 (op : BinOp) (x y : Int) : 0 ≤ Go.bits op .u64 x y ∧ Go.bits op .u64 x y < 18446744073709551616 := range_u64 _
section
variable {en : List S58} {B : List Int} {st : List S50} {root : Int}
theorem number_l0 (hE : EnOk en) (hB : BytesOk B) (kd rf ls : Int) (h1 : 1 ≤ kd) (h2 : kd ≤ 10) (hr : kd = 10 → 0 ≤ rf ∧ rf < en.length) :
    ∀ (d : Nat) (q n i : Int), q + d = 8 → 0 ≤ q → 0 ≤ n → n < 18446744073709551616 → 0 ≤ i → i ≤ B.length →
      ∃ m j : Int, Ev (fun k => transomhand05_number.l0 k n q B i st en root kd rf ls) (m, j) ∧ numB st en root kd rf 0 m = true ∧ 0 ≤ m ∧ m < 18446744073709551616 ∧ i ≤ j ∧ j ≤ B.length := by
  intro d
  induction d with
  | zero =>
    intro q n i hq q0 n0 n1 i0 i1
    obtain ⟨m, hm, hn, m0, m1⟩ := number_ok hE kd rf n h1 h2 hr n0 n1 ls
    refine ⟨m, i, Ev.step (f := fun k => (transomhand05_Number.f k st en root kd rf ls n).bind fun t => some (t, i)) (fun k => ?_) (Ev.bind (Ev.of (transomhand05_Number.mono _ _ _ _ _ _ _) (hm st root)) (Ev.now (m, i))), hn st root, m0, m1, by omega, i1⟩
    simp only [transomhand05_number.l0]; rw [if_neg (by omega)]
  | succ d ih =>
    intro q n i hq q0 n0 n1 i0 i1
    obtain ⟨c, j, hc, c0, c1, j0, j1, -, -⟩ := next_f hB i i0 i1
    have hb := bits_u64 .or (IntKind.u64.wrap (n * 256)) (IntKind.u64.wrap c)
    obtain ⟨m, j', hm, hn, m0, m1, y0, y1⟩ := ih (q + 1) _ j (by omega) (by omega) hb.1 hb.2 (by omega) j1
    refine ⟨m, j', Ev.step (fun k => ?_) hm, hn, m0, m1, by omega, y1⟩
    simp only [transomhand05_number.l0]; rw [if_pos (by omega), hc]; simp only [Option.bind_some]
    rw [show wrap64 (q + 1) = q + 1 from by unfold wrap64; omega]
theorem number_src (hE : EnOk en) (hB : BytesOk B) (kd rf ls : Int) (h1 : 1 ≤ kd) (h2 : kd ≤ 10) (hr : kd = 10 → 0 ≤ rf ∧ rf < en.length) (i c d : Int) (i0 : 0 ≤ i) (i1 : i ≤ B.length) (c0 : 0 ≤ c) (c1 : c < 256)
    (d0 : 0 ≤ d) (d1 : d < 18446744073709551616) (hd : numB st en root kd rf 0 d = true) (nm : ByteArray) (x1 x2 x3 : Int) :
    ∃ (k : Nat) (m j : Int), transomhand05_number.f k st en root kd rf ls B i c nm x1 x2 x3 d = some (m, j) ∧ numB st en root kd rf 0 m = true ∧ 0 ≤ m ∧ m < 18446744073709551616 ∧ i ≤ j ∧ j ≤ B.length := by
  have hN := fun n (n0 : 0 ≤ n) (n1 : n < 18446744073709551616) => number_ok hE kd rf n h1 h2 hr n0 n1 ls
  unfold transomhand05_number.f
  rw [tm c 5 c0 (by decide)]
  by_cases e0 : c % 5 = 0
  · exact ⟨0, d, i, by rw [if_pos e0], hd, d0, d1, by omega, i1⟩
  by_cases e1 : c % 5 = 1
  · obtain ⟨m, hm, hn, m0, m1⟩ := hN 18446744073709551615 (by decide) (by decide)
    exact ⟨7, m, i, by rw [if_neg e0, if_pos e1, hm]; rfl, hn _ _, m0, m1, by omega, i1⟩
  by_cases e2 : c % 5 = 2
  · have hs := szB_in kd h1 h2
    obtain ⟨m, hm, hn, m0, m1⟩ := hN (shl .u64 1 (wrap64 (wrap64 (8 * szB kd) - 1))) (by unfold shl; exact (range_u64 _).1) (by unfold shl; exact (range_u64 _).2)
    refine ⟨7, m, i, ?_, hn _ _, m0, m1, by omega, i1⟩
    rw [if_neg e0, if_neg e1, if_pos e2, w64 kd (by omega) (by omega), at_rounds (transomref01_Size.mono kd) (show 6 ≤ 7 by decide) (rsize_f kd (by omega) (by omega))]
    simp only [Option.bind_some]
    rw [if_pos (by unfold wrap64; omega), hm]; rfl
  by_cases e3 : c % 5 = 3
  · obtain ⟨c', j, hc, c0', c1', j0, j1, -, -⟩ := next_f hB i i0 i1
    obtain ⟨m, hm, hn, m0, m1⟩ := hN (IntKind.u64.wrap c') (range_u64 _).1 (range_u64 _).2
    exact ⟨7, m, j, by rw [if_neg e0, if_neg e1, if_neg e2, if_pos e3, hc]; simp only [Option.bind_some]; rw [hm]; rfl, hn _ _, m0, m1, j0, j1⟩
  · obtain ⟨m, j, hm, hn, m0, m1, y0, y1⟩ := number_l0 (st := st) (root := root) hE hB kd rf ls h1 h2 hr 8 0 0 i rfl (by decide) (by decide) (by decide) i0 i1
    obtain ⟨k, hk⟩ := hm.rounds
    exact ⟨k, m, j, by rw [if_neg e0, if_neg e1, if_neg e2, if_neg e3]; exact hk, hn, m0, m1, y0, y1⟩
end
end Go.Proofs.YthilhndejhnlnaaDoor.Mk
end
