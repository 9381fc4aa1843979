/- Layer 13, scan: the document's reader: what is next, blanks, a sign. -/
import Derived.Test.YtonekmigcpgdeaaDoorS8
namespace Go.Proofs.YtonekmigcpgdeaaDoor.Hand
open Go.RowKit Go.Proofs.YtonekmigcpgdeaaDoor.QAll Go.Proofs.YtonekmigcpgdeaaDoorW.PrintWords Go.Proofs.YtonekmigcpgdeaaDoorW.PrintLast Go.Proofs.YtonekmigcpgdeaaDoorW.PrintMore Go.Proofs.YtonekmigcpgdeaaDoor.Runes
set_option linter.unusedVariables false
set_option linter.unusedSimpArgs false
/-- A reader over bytes, at a place. -/
structure Rdr (w : World) (r : Nat) (A : Option Addr) (c : Nat) (b : List Int) (i : Nat) : Prop where
  sc : w.heap[r]? = some (.cells #[.slice none 0 0, .slice none 0 0, .int .i64 0, .slice A b.length c, .int .i64 i, .bool false] 32 (0, 0))
  bytes : ∀ W, Two r r w W → Kd.C (Kd.int .u8) W A b.length b
  cap : b.length ≤ c
  lim : b.length ≤ 1000000 ∧ i ≤ b.length + 1
section rdr
variable {w w' : World} {r : Nat} {A : Option Addr} {c : Nat} {b : List Int} {i : Nat}
theorem Rdr.c3 (h : Rdr w r A c b i) : w.cell? ⟨r, 3, none⟩ = some (.slice A b.length c) := (blk_cell h.sc 3).trans rfl
theorem Rdr.c4 (h : Rdr w r A c b i) : w.cell? ⟨r, 4, none⟩ = some (.int .i64 i) := (blk_cell h.sc 4).trans rfl
theorem Rdr.kept (h : Rdr w r A c b i) (hb : Below w.heap.size w w') : Rdr w' r A c b i :=
  ⟨(hb.block _ (blk_lt h.sc)).trans h.sc, fun W hW => h.bytes W ((Two.of_below r r hb).trans hW), h.cap, h.lim⟩
theorem Rdr.move (h : Rdr w r A c b i) (j : Nat) (hj : j ≤ b.length + 1) : Rdr (w.setCell ⟨r, 4, none⟩ (.int .i64 j)) r A c b j :=
  ⟨blk_set h.sc 4 _, fun W hW => h.bytes W ((Two.setg r r 4 w _).trans hW), h.cap, ⟨h.lim.1, hj⟩⟩
theorem Rdr.at_ (h : Rdr w r A c b i) (hi : i < b.length) : ∃ ad, A = some ad ∧ w.cell? (ad.add i) = some (.int .u8 b[i]) := by
  have hR := Kd.reads_of_C (enc := Value.int .u8) (d := (0 : Int)) (h1 := fun _ => rfl) (h.bytes w (Two.refl _ _ _))
  obtain ⟨ad, e, hc⟩ := hR.2.2 (by omega)
  have := hc i hi
  rw [List.getD_eq_getElem?_getD, List.getElem?_eq_getElem hi] at this
  exact ⟨ad, e, this⟩
/-- The byte that is next, or -1. -/
def hereZ (b : List Int) (i : Nat) : Int := if h : i < b.length then b[i] else -1
theorem hereZ_B {b : List Int} {i : Nat} (h : i < b.length) : hereZ b i = hereB b i := by unfold hereZ hereB; rw [dif_pos h, dif_pos h]
theorem hereZ_no {b : List Int} {i : Nat} (h : ¬ i < b.length) : hereZ b i = -1 ∧ hereB b i = 0 := by unfold hereZ hereB; rw [dif_neg h, dif_neg h]; exact ⟨rfl, rfl⟩
set_option maxHeartbeats 800000 in
theorem rhere_any (hby : ∀ x ∈ b, 0 ≤ x ∧ x < 256) (h : Rdr w r A c b i) :
    Calls Tryd.prog 21 #[.pointer (some ⟨r, 0, none⟩)] w fun e w' => e = .returned (.int .i64 (hereZ b i)) ∧ Drawn0 w w' := by
  have c3 := h.c3
  have c4 := h.c4
  by_cases hi : i < b.length
  · obtain ⟨ad, rfl, hx⟩ := h.at_ hi
    have hbb := hby _ (List.getElem_mem hi)
    have hh : hereZ b i = b[i] := by unfold hereZ; rw [dif_pos hi]
    obtain ⟨x, hxx⟩ : ∃ x, b[i] = x := ⟨_, rfl⟩
    rw [hxx] at hx hh hbb
    rw [hh]
    have wx : IntKind.i64.wrap x = x := by rw [IntKind.wrap_i64]; omega
    have d0 : decide (i < b.length) = true := decide_eq_true hi
    have d1 : decide ((i : Int) < (b.length : Int)) = true := decide_eq_true (by omega)
    have k0 : (0 : Int) ≤ (i : Int) := Int.natCast_nonneg _
    have k1 : (i : Int) < (b.length : Int) := by omega
    clear h hh hxx hby hbb
    go_enter Tryd.func21, Tryd.ntmps21
    go_wp2
    go_quiet (fail)
    go_wp2
    go_quiet (fail)
    go_wp2
    go_ret
    exact ⟨rfl, ((Drawn0.refl _).step _).step _⟩
  · have hh : hereZ b i = -1 := (hereZ_no hi).1
    rw [hh]
    have d0 : decide (i < b.length) = false := decide_eq_false hi
    have d1 : decide ((i : Int) < (b.length : Int)) = false := decide_eq_false (by omega)
    clear h hh hby
    go_enter Tryd.func21, Tryd.ntmps21
    go_wp2
    go_quiet (fail)
    go_wp2
    go_ret
    exact ⟨rfl, ⟨_, rfl⟩⟩
theorem isBl_Z (b : List Int) (i : Nat) : isBl (hereZ b i) = isBl (hereB b i) := by
  by_cases h : i < b.length
  · rw [hereZ_B h]
  · rw [(hereZ_no h).1, (hereZ_no h).2]; rfl
set_option maxHeartbeats 3200000 in
set_option maxRecDepth 100000 in
theorem rblank_any (hby : ∀ x ∈ b, 0 ≤ x ∧ x < 256) (h : Rdr w r A c b i) :
    Calls Tryd.prog 31 #[.pointer (some ⟨r, 0, none⟩)] w fun e w' => e = .returned (.tuple #[]) ∧ Rdr w' r A c b (skip b i) ∧ Two r r w w' := by
  have H := Aside0.mk h
  have HBY := Aside0.mk hby
  obtain ⟨fin, hfin⟩ : ∃ fin, skip b i = fin := ⟨_, rfl⟩
  rw [hfin]
  have HST : Aside0 (skipF (b.length + 1) b i = fin) := ⟨hfin⟩
  clear h hfin hby
  go_enter Tryd.func31, Tryd.ntmps31
  go_wp2
  go_loopg [] (b.length + 1) (fun kq wr => ∃ (i1 : Nat), Aside0 (skipF kq b i1 = fin) ∧ Aside0 (b.length < kq + i1) ∧ Aside0 (Rdr wr r A c b i1) ∧ Aside0 (Two r r w wr))
  case atStart => exact ⟨i, HST, ⟨by omega⟩, H, ⟨Two.refl _ _ _⟩⟩
  case round =>
    obtain ⟨i1, HF, HK, HS, HT⟩ := hrel
    obtain ⟨x, hx⟩ : ∃ x, hereZ b i1 = x := ⟨_, rfl⟩
    have hbl := isBl_Z b i1
    rw [hx] at hbl
    have HX := Aside0.mk hx
    have w4 : (isBl x = false ∧ (x == 32) = false ∧ (x == 9) = false ∧ (x == 10) = false ∧ (x == 13) = false) ∨ (isBl x = true ∧ (x == 32) = true) ∨ (isBl x = true ∧ (x == 32) = false ∧ (x == 9) = true) ∨ (isBl x = true ∧ (x == 32) = false ∧ (x == 9) = false ∧ (x == 10) = true) ∨ (isBl x = true ∧ (x == 32) = false ∧ (x == 9) = false ∧ (x == 10) = false ∧ (x == 13) = true) := by
      unfold isBl; cases (x == 32) <;> cases (x == 9) <;> cases (x == 10) <;> cases (x == 13) <;> simp
    clear hx
    rcases w4 with ⟨hb, a1, a2, a3, a4⟩ | ⟨hb, a1⟩ | ⟨hb, a1, a2⟩ | ⟨hb, a1, a2, a3⟩ | ⟨hb, a1, a2, a3, a4⟩
    · have HE : Aside0 (i1 = fin) := ⟨by
        have := HF.out
        cases gk with
        | zero => exact this
        | succ n => unfold skipF at this; rw [← hbl, hb, if_neg (by decide)] at this; exact this⟩
      clear hb hbl
      have HH : Aside0 (∀ W, Rdr W r A c b i1 → Calls Tryd.prog 21 #[.pointer (some ⟨r, 0, none⟩)] W fun e w' => e = .returned (.int .i64 x) ∧ Drawn0 W w') := ⟨fun W hW => by have h := rhere_any HBY.out hW; rw [HX.out] at h; exact h⟩
      go_wp2_with (go_at_call 21; (with_reducible refine (HH.out _ HS.out).mono ?_); rintro e w6 ⟨rfl, hd⟩; have HS6 := Aside0.mk (HS.out.kept hd.below); have HT6 := Aside0.mk (HT.out.trans (Two.of_below r r hd.below)); clear hd HS HT; have HS := HS6; have HT := HT6; clear HS6 HT6)
      first | go_end0 | ((try simp only [Exit.inBlock, Exit.then]); refine bodyPost_ret (results_none rfl _ _ _) rfl ?_)
      exact ⟨rfl, by rw [← HE.out]; exact HS.out, HT.out⟩
    all_goals
      have hlt : i1 < b.length := hereB_blank (by rw [← hbl]; exact hb)
      obtain ⟨n, rfl⟩ : ∃ n, gk = n + 1 := ⟨gk - 1, by have := HK.out; omega⟩
      have HE : Aside0 (skipF n b (i1 + 1) = fin) := ⟨by
        have := HF.out
        unfold skipF at this; rw [← hbl, hb, if_pos rfl] at this; exact this⟩
      have HLT := Aside0.mk hlt
      have wi : IntKind.i64.wrap ((i1 : Int) + 1) = (i1 : Int) + 1 := by rw [IntKind.wrap_i64]; have := HS.out.lim; omega
      have HH : Aside0 (∀ W, Rdr W r A c b i1 → Calls Tryd.prog 21 #[.pointer (some ⟨r, 0, none⟩)] W fun e w' => e = .returned (.int .i64 x) ∧ Drawn0 W w') := ⟨fun W hW => by have h := rhere_any HBY.out hW; rw [HX.out] at h; exact h⟩
      clear hb hlt hbl
      go_upto_region 1 with (go_at_call 21; (with_reducible refine (HH.out _ HS.out).mono ?_); rintro e w6 ⟨rfl, hd⟩; have HS6 := Aside0.mk (HS.out.kept hd.below); have HT6 := Aside0.mk (HT.out.trans (Two.of_below r r hd.below)); clear hd HS HT; have HS := HS6; have HT := HT6; clear HS6 HT6)
      have y1 := HS.out.c4
      have yf := blk_frozen HS.out.sc 4
      go_wp2_with (fail)
      go_roundg n
      case measure => omega
      case rel => exact ⟨i1 + 1, HE, ⟨by have := HK.out; omega⟩, ⟨HS.out.move (i1 + 1) (by have := HLT.out; omega)⟩, ⟨HT.out.trans (Two.setg r r 4 _ _)⟩⟩
/-- A sign of the reader. -/
def rsignB (b : List Int) (i : Nat) (x : Int) : Bool := hereZ b (skip b i) == x
theorem rsign_eq (b : List Int) (i : Nat) (x : Int) (hx : 0 ≤ x) : rsignB b i x = signB b i x := by
  unfold rsignB signB
  by_cases h : skip b i < b.length
  · rw [hereZ_B h, decide_eq_true h]; rfl
  · rw [(hereZ_no h).1, decide_eq_false h, Bool.false_and]
    exact beq_eq_false_iff_ne.mpr (by omega)
set_option maxHeartbeats 3200000 in
set_option maxRecDepth 100000 in
theorem rsign_any (x : Int) (hx : 0 ≤ x) (hby : ∀ x ∈ b, 0 ≤ x ∧ x < 256) (h : Rdr w r A c b i) :
    Calls Tryd.prog 20 #[.pointer (some ⟨r, 0, none⟩), .int .i64 x] w fun e w' => e = .returned (.bool (signB b i x)) ∧ Rdr w' r A c b (if signB b i x = true then skip b i + 1 else skip b i) ∧ Two r r w w' := by
  have HBL := Aside0.mk (rblank_any hby h)
  have HBY := Aside0.mk hby
  rw [← rsign_eq b i x hx]
  have HLE : Aside0 (rsignB b i x = true → skip b i < b.length) := ⟨fun e => by rw [rsign_eq b i x hx] at e; unfold signB at e; simp at e; exact e.1⟩
  have HLIM := Aside0.mk h.lim
  unfold rsignB at HLE ⊢
  obtain ⟨j, hj⟩ : ∃ j, skip b i = j := ⟨_, rfl⟩
  rw [hj] at HBL HLE ⊢
  obtain ⟨y, hy⟩ : ∃ y, hereZ b j = y := ⟨_, rfl⟩
  have HH : Aside0 (∀ W, Rdr W r A c b j → Calls Tryd.prog 21 #[.pointer (some ⟨r, 0, none⟩)] W fun e w' => e = .returned (.int .i64 y) ∧ Drawn0 W w') := ⟨fun W hW => by have h := rhere_any HBY.out hW; rw [hy] at h; exact h⟩
  rw [hy] at HLE ⊢
  clear h hj hy hx hby
  by_cases e : y = x
  · have e1 : (y == x) = true := by simp [e]
    have e2 : (y != x) = false := by simp [e]
    rw [e1] at HLE ⊢
    have HLT := Aside0.mk (HLE.out rfl)
    have wi : IntKind.i64.wrap ((j : Int) + 1) = (j : Int) + 1 := by rw [IntKind.wrap_i64]; have := HLIM.out; have := HLT.out; omega
    clear e
    go_enter Tryd.func20, Tryd.ntmps20
    go_upto_region 4 with (first
      | (go_at_call 31; (with_reducible refine HBL.out.mono ?_); rintro e w1 ⟨rfl, hs, ht⟩; have HS := Aside0.mk hs; have HT := Aside0.mk ht; clear hs ht)
      | (go_at_call 21; (with_reducible refine (HH.out _ HS.out).mono ?_); rintro e w6 ⟨rfl, hd⟩; have HS6 := Aside0.mk (HS.out.kept hd.below); have HT6 := Aside0.mk (HT.out.trans (Two.of_below r r hd.below)); clear hd))
    have y1 := HS6.out.c4
    have yf := blk_frozen HS6.out.sc 4
    go_wp2_with (fail)
    go_ret
    exact ⟨rfl, HS6.out.move (j + 1) (by have := HLT.out; omega), HT6.out.trans (Two.setg r r 4 _ _)⟩
  · have e1 : (y == x) = false := by simp [e]
    have e2 : (y != x) = true := by simp [e]
    rw [e1]
    clear e
    go_enter Tryd.func20, Tryd.ntmps20
    go_wp2_with (first
      | (go_at_call 31; (with_reducible refine HBL.out.mono ?_); rintro e w1 ⟨rfl, hs, ht⟩; have HS := Aside0.mk hs; have HT := Aside0.mk ht; clear hs ht)
      | (go_at_call 21; (with_reducible refine (HH.out _ HS.out).mono ?_); rintro e w6 ⟨rfl, hd⟩; have HS6 := Aside0.mk (HS.out.kept hd.below); have HT6 := Aside0.mk (HT.out.trans (Two.of_below r r hd.below)); clear hd))
    go_ret
    exact ⟨rfl, HS6.out, HT6.out⟩
end rdr
end Go.Proofs.YtonekmigcpgdeaaDoor.Hand
