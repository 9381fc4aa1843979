/- Layer 13, scan: the document's reader: a text in quotes. -/
import Derived.Test.YtonekmigcpgdeaaDoorE3
import Derived.Test.YtonekmigcpgdeaaDoorEUtf
namespace Go.Proofs.YtonekmigcpgdeaaDoor.Hand
open Go.RowKit Go.Proofs.YtonekmigcpgdeaaDoor.QAll Go.Proofs.YtonekmigcpgdeaaDoorW.PrintWords Go.Proofs.YtonekmigcpgdeaaDoorW.PrintLast Go.Proofs.YtonekmigcpgdeaaDoorW.PrintMore Go.Proofs.YtonekmigcpgdeaaDoor.Runes
set_option linter.unusedVariables false
set_option linter.unusedSimpArgs false
set_option maxHeartbeats 800000 in
theorem reftext_any (A : Option Addr) (c : Nat) (l : List Int) (w : World) (hT : Tabs w) (hr : Kd.C (Kd.int .u8) w A l.length l) (hc : l.length ≤ c) (hb : ∀ x ∈ l, 0 ≤ x ∧ x < 256) (hl : l.length ≤ 100000) (v : Bool) (hv : v = (U l.length l).isNone) :
    Calls Tryd.prog 22 #[.slice A l.length c] w fun e w' => e = .returned (.bool v) ∧ Below w.heap.size w w' := by
  obtain ⟨x, hx⟩ : ∃ x, at_ (U l.length l) = x := ⟨_, rfl⟩
  have HU := Aside0.mk (refutf8_any A c l w hT hr hc hb hl l.length (Nat.le_refl _) x hx)
  have hd : decide (x < 0) = v := by
    rw [← hx, hv]
    cases U l.length l with
    | none => rfl
    | some p => show decide ((p : Int) < 0) = false; exact decide_eq_false (by omega)
  clear hx hT hr hc hb hl hv
  go_enter Tryd.func22, Tryd.ntmps22
  go_wp2_with (go_at_call 32; (with_reducible refine HU.out.mono ?_); rintro e w2 ⟨rfl, hb⟩; have HB2 := Aside0.mk hb; clear hb)
  go_ret
  exact ⟨by first | rfl | rw [hd] | simp [hd], HB2.out⟩
section rtext
variable {w0 w : World} {r : Nat} {A : Option Addr} {c : Nat} {b : List Int} {i : Nat}
theorem Tabs.keep {w w' : World} {r : Nat} (h : Tabs w) (hk : KeepBut w w' r none) (h0 : r ≠ 0) (h1 : r ≠ 1) : Tabs w' := by
  have key : ∀ (a : Addr) (u : Value), a.block ≠ r → w.cell? a = some u → w'.cell? a = some u := by
    intro a u hne hc
    have hlt := World.block_lt_of_cell? w a hc
    exact (World.cell?_of_block (hk.2 a.block hlt hne (by simp))).trans hc
  refine ⟨fun c hc => key _ _ ?_ (h.1 c hc), fun i hi => ⟨key _ _ ?_ (h.2 i hi).1, key _ _ ?_ (h.2 i hi).2⟩⟩
  all_goals first | exact fun e => h0 e.symm | exact fun e => h1 e.symm
theorem own_keep {W W' : World} {r B e s n : Nat} {v : Value} {xs : List Value} (h : W.ownsRow B e s v n xs) (hk : KeepBut W W' r none) (hr : r < B) : W'.ownsRow B e s v n xs := by
  refine ⟨h.1, ?_⟩
  rcases h.2 with hn | ⟨k, cap, cur, rfl, hbb, hgg, rest⟩
  · exact .inl hn
  · exact .inr ⟨k, cap, cur, rfl, hbb, (hk.2 k (blk_lt hgg) (by omega) (by simp)).trans hgg, rest⟩
theorem keep_grown {w W W' : World} {r : Nat} {row : Option Nat} (h : KeepBut w W r none) (hg : W.grownBy W' row) (hrow : ∀ k, row = some k → w.heap.size ≤ k) : KeepBut w W' r none :=
  ⟨Nat.le_trans h.1 hg.size, fun k hk h1 h2 => (hg.block k (Nat.lt_of_lt_of_le hk h.1) (fun e => by have := hrow k e.symm; omega)).trans (h.2 k hk h1 h2)⟩
theorem RS.grown {W W' : World} {row : Option Nat} (h : RS w0 W r b i) (hg : W.grownBy W' row) (hrow : ∀ k, row = some k → r < k ∧ w0.heap.size ≤ k) : RS w0 W' r b i := by
  obtain ⟨A0, c0, A1, c1, A3, c3, hh, hg2, h0, h1, h3⟩ := h.is
  refine ⟨⟨A0, c0, A1, c1, A3, c3, (hg.block r (blk_lt hh) (fun e => by have := (hrow r e.symm).1; omega)).trans hh, hg2, h0, h1, h3⟩, ?_, h.byte, h.lim⟩
  exact ⟨hg.os.trans h.base.os, hg.tape.trans h.base.tape, hg.output.trans h.base.output, Nat.le_trans h.base.size hg.size, fun k hk => (hg.block k (Nat.lt_of_lt_of_le hk h.base.size) (fun e => by have := (hrow k e.symm).2; omega)).trans (h.base.block k hk)⟩
/-- What the reader's Text tells. -/
def RTextPost (R : Option (List Int × Nat)) (w0 w : World) (r : Nat) (b : List Int) (e : Ending) (w' : World) : Prop :=
  ∃ (A : Option Addr) (L : List Int) (c : Nat), e = .returned (.tuple #[.slice A L.length c, .bool R.isSome]) ∧ Kd.C (Kd.int .u8) w' A L.length L ∧ (∃ j, RS w0 w' r b j ∧ ∀ p, R = some p → L = p.1 ∧ j = p.2) ∧ KeepBut w w' r none
theorem RS.of (hd : Rdr w r A c b i) (hby : ∀ x ∈ b, 0 ≤ x ∧ x < 256) (hb : Below w0.heap.size w0 w) (hr : w0.heap.size ≤ r) (hC : Kd.C (Kd.int .u8) w0 A b.length b) : RS w0 w r b i :=
  ⟨⟨none, 0, none, 0, A, c, hd.sc, hr, Kd.C_nil _ _, Kd.C_nil _ _, hC⟩, hb, hby, hd.lim.1⟩
theorem keep_two {w w' : World} (ht : Two r r w w') : KeepBut w w' r none := ⟨ht.size, fun i hi h1 _ => ht.block i hi h1 h1⟩
theorem textF_byte : ∀ (k : Nat) (b : List Int) (i : Nat) (out : List Int) (p : List Int × Nat), (∀ x ∈ b, 0 ≤ x ∧ x < 256) → (∀ x ∈ out, 0 ≤ x ∧ x < 256) → textF k b i out = some p → ∀ x ∈ p.1, 0 ≤ x ∧ x < 256
  | 0, b, i, out, p, _, _, h => by cases h
  | k + 1, b, i, out, p, hb, ho, h => by
    unfold textF at h
    split at h
    · cases h
    rename_i hn
    split at h
    · split at h
      · injection h with h; subst h; exact ho
      · cases h
    · split at h
      · split at h
        · cases h
        · rename_i q hq
          exact textF_byte k b _ _ p hb (by
            intro x hx
            rcases List.mem_append.1 hx with hx | hx
            · exact ho x hx
            · exact Lib.encodeRuneZ_byte _ x hx) h
      · exact textF_byte k b _ _ p hb (by
          intro x hx
          rcases List.mem_append.1 hx with hx | hx
          · exact ho x hx
          · rw [List.mem_singleton.1 hx]
            have hlt : i < b.length := by omega
            unfold hereB; rw [dif_pos hlt]; exact hb _ (List.getElem_mem hlt)) h
end rtext
end Go.Proofs.YtonekmigcpgdeaaDoor.Hand
