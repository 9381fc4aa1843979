/- Layer 13, scan: the second half of a pair. -/
import Derived.Test.YtonekmigcpgdeaaDoorS3
namespace Go.Proofs.YtonekmigcpgdeaaDoor.Hand
open Go.RowKit Go.Proofs.YtonekmigcpgdeaaDoor.QAll Go.Proofs.YtonekmigcpgdeaaDoorW.PrintWords Go.Proofs.YtonekmigcpgdeaaDoorW.PrintLast Go.Proofs.YtonekmigcpgdeaaDoorW.PrintMore
set_option linter.unusedVariables false
set_option linter.unusedSimpArgs false
theorem two_eq : ((strOfNums [92, 117]).toList == [92, 117]) = true := by
  refine beq_iff_eq.mpr ?_
  have h1 : ∀ p q : UInt8, (⟨#[p, q]⟩ : ByteArray).toList = [p, q] := by
    intro p q
    unfold ByteArray.toList
    rw [ByteArray.toList.loop, if_pos (by show (0 : Nat) < 2; decide), ByteArray.toList.loop, if_pos (by show (0 + 1 : Nat) < 2; decide), ByteArray.toList.loop, if_neg (by show ¬ (0 + 1 + 1 : Nat) < 2; decide)]
    rfl
  have h2 : strOfNums [92, 117] = ⟨#[UInt8.ofNat (92 : Int).toNat, UInt8.ofNat (117 : Int).toNat]⟩ := rfl
  rw [h2, h1]
  rfl
section esc
variable {w : World} {g m : Nat} {A : Option Addr} {c : Nat} {b : List Int} {i : Nat} {left : Int}
set_option maxHeartbeats 6400000 in
set_option maxRecDepth 100000 in
/-- The first half of a pair, announced, and no second half. -/
theorem esc_pair_bad (h : Scn w g m A c b i left) (hi : i ≤ b.length) (hx : hereB b i = 117) (r : Int) (hu : unitV b (i + 1) = some r) (h54 : r / 1024 = 54) (hyes : i + 7 ≤ b.length ∧ hereB b (i + 5) = 92 ∧ hereB b (i + 6) = 117) (hl : unitV b (i + 7) = none ∨ ∃ l, unitV b (i + 7) = some l ∧ l / 1024 ≠ 55) :
    Calls Tryd.prog 18 #[.pointer (some ⟨g, 0, none⟩)] w (EscPost none g m A c b i w) := by
  have H := Aside0.mk h
  have HH := here_any h
  rw [hx] at HH
  have HHR := Aside0.mk HH
  have HI := Aside0.mk hi
  have hul : i < b.length := by
    by_cases q : i < b.length
    · exact q
    · unfold hereB at hx; rw [dif_neg q] at hx; exact absurd hx (by decide)
  have HUL := Aside0.mk hul
  have wi : IntKind.i64.wrap ((i : Int) + 1) = (i : Int) + 1 := by rw [IntKind.wrap_i64]; have := h.lim; omega
  have hbd := unitV_bound hu
  have a1 : (r / 1024 == 55) = false := by simp [h54]
  have a2 : (r / 1024 != 54) = false := by simp [h54]
  have a3 : (r / 1024 == 54) = true := by simp [h54]
  have HU := Aside0.mk hu
  obtain ⟨r0, r1⟩ := hbd
  have hu5 : i + 5 ≤ b.length := by
    unfold unitV at hu; split at hu
    · omega
    · cases hu
  obtain ⟨ad, hA, hx0⟩ := h.at_ hul
  clear hx0
  subst hA
  have two : ∀ j : Nat, j = i + 5 → (j + 2 ≤ b.length) ∧ (∀ W, Kd.C (Kd.int .u8) W (some ad) b.length b → Kd.C (Kd.int .u8) W (some (ad.add j)) 2 [92, 117]) := by
    intro j hj
    have q : j + 2 ≤ b.length := by have := hyes.1; omega
    have e1 : hereB b (i + 5) = b[j] := by subst hj; unfold hereB; rw [dif_pos (by omega)]
    have e2 : hereB b (i + 6) = b[j + 1] := by subst hj; unfold hereB; rw [dif_pos (by omega)]
    refine ⟨q, fun W hW => ?_⟩
    have := C_two q hW
    rw [← e1, ← e2, hyes.2.1, hyes.2.2] at this
    exact this
  have low : (unitV b (i + 7) = none) ∨ ∃ l, unitV b (i + 7) = some l ∧ (l / 1024 != 55) = true ∧ 0 ≤ l ∧ l < 65536 := by
    rcases hl with h1 | ⟨l, h1, h2⟩
    · exact .inl h1
    · exact .inr ⟨l, h1, by simp [h2], unitV_bound h1⟩
  have LOW := Aside0.mk low
  have hyz := two_eq
  have H2W := Aside0.mk two
  clear h HH hi hx hu hul h54 hyes two hu5 low hl
  go_enter Tryd.func18, Tryd.ntmps18
  go_upto_region 3 with (go_at_call 15; (with_reducible refine HHR.out.mono ?_); rintro e w1 ⟨rfl, hd⟩; have H1 := Aside0.mk (H.out.kept hd.below); have HT1 := Aside0.mk (Two.of_below g m hd.below); have c1 := H1.out.c1; have f1 := blk_frozen H1.out.sc 1; clear hd)
  obtain ⟨w2, hw2⟩ : ∃ w2, w1.setCell ⟨g, 1, none⟩ (.int .i64 ((i : Int) + 1)) = w2 := ⟨_, rfl⟩
  have H2 : Aside0 (Scn w2 g m (some ad) c b (i + 1) left) := ⟨by rw [← hw2]; have := H1.out.move (i + 1) (by have := HI.out; omega) (by omega); exact this⟩
  have HT2 : Aside0 (Two g m w w2) := ⟨by rw [← hw2]; exact HT1.out.trans (Two.setg g m 1 _ _)⟩
  rw [hw2]
  clear hw2 c1 f1
  have HUN := Aside0.mk (unit_any H2.out)
  have HUN2 := HUN.out
  unfold UnitPost at HUN2
  rw [HU.out] at HUN2
  simp only [Option.getD_some, Option.isSome_some] at HUN2
  have HUN3 := Aside0.mk HUN2
  clear HUN2
  go_upto_region 24 with (go_at_call 28; (with_reducible refine HUN3.out.mono ?_); rintro e w3 ⟨rfl, ⟨j, lf, hs3, hij, hj4⟩, ht3⟩; have HJ4 : Aside0 (j = i + 1 + 4) := ⟨by first | exact hj4 rfl | exact hj4 trivial | exact hj4⟩; have HS3 := Aside0.mk hs3; have HT3 := Aside0.mk (HT2.out.trans ht3); clear hs3 hij hj4 ht3)
  have hj5 : j = i + 5 := by have := HJ4.out; omega
  have HJ5 := Aside0.mk hj5
  clear hj5
  have c0 := HS3.out.c0
  have c1 := HS3.out.c1
  have f1 := blk_frozen HS3.out.sc 1
  obtain ⟨q, hcy⟩ := H2W.out j HJ5.out
  have HQ := Aside0.mk q
  have HCY := Aside0.mk hcy
  clear q hcy
  have wj : IntKind.i64.wrap ((j : Int) + 2) = (j : Int) + 2 := by rw [IntKind.wrap_i64]; have := HS3.out.lim; omega
  go_quiet ((go_at_call 29; exact quietD (part_ok ad c b j 2 _ (HS3.out.bytes _ (Two.of_below g m (Drawn0.below ⟨⟨_, rfl⟩⟩))) HS3.out.cap HS3.out.lim.1 HQ.out (by decide))))
  rename_i nq
  have vs : ∀ k : Nat, (convert 22 9 (.slice (some (ad.add j)) 2 2)).run Tryd.prog (w3.drewN k) = .ok (.string (strOfNums [92, 117])) (w3.drewN k) := fun k => Kd.C_string (P := Tryd.prog) (c := 2) Tryd.underlying22 Tryd.underlying5 Tryd.underlying9 (HCY.out _ (HS3.out.bytes _ (Two.of_below g m (Drawn0.below ⟨⟨_, rfl⟩⟩))))
  go_wp2_with (fail)
  obtain ⟨w4, hw4⟩ : ∃ w4, (w3.drewN nq).setCell ⟨g, 1, none⟩ (.int .i64 ((j : Int) + 2)) = w4 := ⟨_, rfl⟩
  have H4 : Aside0 (Scn w4 g m (some ad) c b (j + 2) lf) := ⟨by rw [← hw4]; have := (HS3.out.kept (Drawn0.below (w' := w3.drewN nq) ⟨⟨_, rfl⟩⟩)).move (j + 2) (by have := HQ.out; omega) (by omega); exact this⟩
  have HT4 : Aside0 (Two g m w w4) := ⟨by rw [← hw4]; exact (HT3.out.trans (Two.of_below g m (Drawn0.below (w' := w3.drewN nq) ⟨⟨_, rfl⟩⟩))).trans (Two.setg g m 1 _ _)⟩
  rw [hw4]
  clear hw4 c0 c1 f1
  have HUN9 := Aside0.mk (unit_any H4.out)
  have e7 : Aside0 (i + 7 = j + 2) := ⟨by have := HJ5.out; omega⟩
  rcases LOW.out with hv | ⟨l, hv, hl1, l0, l1⟩
  all_goals
    rw [e7.out] at hv
    have HUN5 := HUN9.out
    unfold UnitPost at HUN5
    rw [hv] at HUN5
    simp only [Option.getD_none, Option.getD_some, Option.isSome_none, Option.isSome_some] at HUN5
    (with_reducible refine HUN5.mono ?_)
    clear hv HUN5
    rintro e w5 ⟨rfl, ⟨j5, lf5, hs5, hij5, hj5⟩, ht5⟩
    have HS5 := Aside0.mk hs5
    have HIJ5 := Aside0.mk hij5
    have HT5 := Aside0.mk (HT4.out.trans ht5)
    clear hs5 hij5 hj5 ht5
    go_wp2_with (fail)
    go_ret2
    exact ⟨rfl, ⟨j5, lf5, HS5.out, by have := HIJ5.out; have := HJ5.out; omega, fun p hp => by cases hp⟩, HT5.out⟩
set_option maxHeartbeats 6400000 in
set_option maxRecDepth 100000 in
/-- The first half of a pair, announced, and the second half. -/
theorem esc_pair_good (h : Scn w g m A c b i left) (hi : i ≤ b.length) (hx : hereB b i = 117) (r : Int) (hu : unitV b (i + 1) = some r) (h54 : r / 1024 = 54) (hyes : i + 7 ≤ b.length ∧ hereB b (i + 5) = 92 ∧ hereB b (i + 6) = 117) (l : Int) (hl : unitV b (i + 7) = some l) (h55 : l / 1024 = 55) :
    Calls Tryd.prog 18 #[.pointer (some ⟨g, 0, none⟩)] w (EscPost (some (65536 + (r - 55296) * 1024 + l - 56320, i + 11)) g m A c b i w) := by
  have H := Aside0.mk h
  have HH := here_any h
  rw [hx] at HH
  have HHR := Aside0.mk HH
  have HI := Aside0.mk hi
  have hul : i < b.length := by
    by_cases q : i < b.length
    · exact q
    · unfold hereB at hx; rw [dif_neg q] at hx; exact absurd hx (by decide)
  have HUL := Aside0.mk hul
  have wi : IntKind.i64.wrap ((i : Int) + 1) = (i : Int) + 1 := by rw [IntKind.wrap_i64]; have := h.lim; omega
  have hbd := unitV_bound hu
  have a1 : (r / 1024 == 55) = false := by simp [h54]
  have a2 : (r / 1024 != 54) = false := by simp [h54]
  have a3 : (r / 1024 == 54) = true := by simp [h54]
  have HU := Aside0.mk hu
  obtain ⟨r0, r1⟩ := hbd
  have hu5 : i + 5 ≤ b.length := by
    unfold unitV at hu; split at hu
    · omega
    · cases hu
  obtain ⟨ad, hA, hx0⟩ := h.at_ hul
  clear hx0
  subst hA
  have two : ∀ j : Nat, j = i + 5 → (j + 2 ≤ b.length) ∧ (∀ W, Kd.C (Kd.int .u8) W (some ad) b.length b → Kd.C (Kd.int .u8) W (some (ad.add j)) 2 [92, 117]) := by
    intro j hj
    have q : j + 2 ≤ b.length := by have := hyes.1; omega
    have e1 : hereB b (i + 5) = b[j] := by subst hj; unfold hereB; rw [dif_pos (by omega)]
    have e2 : hereB b (i + 6) = b[j + 1] := by subst hj; unfold hereB; rw [dif_pos (by omega)]
    refine ⟨q, fun W hW => ?_⟩
    have := C_two q hW
    rw [← e1, ← e2, hyes.2.1, hyes.2.2] at this
    exact this
  have b1 : (l / 1024 != 55) = false := by simp [h55]
  obtain ⟨l0, l1⟩ := unitV_bound hl
  have LOW := Aside0.mk hl
  have hyz := two_eq
  have H2W := Aside0.mk two
  clear h HH hi hx hu hul h54 hyes two hu5 hl
  go_enter Tryd.func18, Tryd.ntmps18
  go_upto_region 3 with (go_at_call 15; (with_reducible refine HHR.out.mono ?_); rintro e w1 ⟨rfl, hd⟩; have H1 := Aside0.mk (H.out.kept hd.below); have HT1 := Aside0.mk (Two.of_below g m hd.below); have c1 := H1.out.c1; have f1 := blk_frozen H1.out.sc 1; clear hd)
  obtain ⟨w2, hw2⟩ : ∃ w2, w1.setCell ⟨g, 1, none⟩ (.int .i64 ((i : Int) + 1)) = w2 := ⟨_, rfl⟩
  have H2 : Aside0 (Scn w2 g m (some ad) c b (i + 1) left) := ⟨by rw [← hw2]; have := H1.out.move (i + 1) (by have := HI.out; omega) (by omega); exact this⟩
  have HT2 : Aside0 (Two g m w w2) := ⟨by rw [← hw2]; exact HT1.out.trans (Two.setg g m 1 _ _)⟩
  rw [hw2]
  clear hw2 c1 f1
  have HUN := Aside0.mk (unit_any H2.out)
  have HUN2 := HUN.out
  unfold UnitPost at HUN2
  rw [HU.out] at HUN2
  simp only [Option.getD_some, Option.isSome_some] at HUN2
  have HUN3 := Aside0.mk HUN2
  clear HUN2
  go_upto_region 24 with (go_at_call 28; (with_reducible refine HUN3.out.mono ?_); rintro e w3 ⟨rfl, ⟨j, lf, hs3, hij, hj4⟩, ht3⟩; have HJ4 : Aside0 (j = i + 1 + 4) := ⟨by first | exact hj4 rfl | exact hj4 trivial | exact hj4⟩; have HS3 := Aside0.mk hs3; have HT3 := Aside0.mk (HT2.out.trans ht3); clear hs3 hij hj4 ht3)
  have hj5 : j = i + 5 := by have := HJ4.out; omega
  have HJ5 := Aside0.mk hj5
  clear hj5
  have c0 := HS3.out.c0
  have c1 := HS3.out.c1
  have f1 := blk_frozen HS3.out.sc 1
  obtain ⟨q, hcy⟩ := H2W.out j HJ5.out
  have HQ := Aside0.mk q
  have HCY := Aside0.mk hcy
  clear q hcy
  have wj : IntKind.i64.wrap ((j : Int) + 2) = (j : Int) + 2 := by rw [IntKind.wrap_i64]; have := HS3.out.lim; omega
  go_quiet ((go_at_call 29; exact quietD (part_ok ad c b j 2 _ (HS3.out.bytes _ (Two.of_below g m (Drawn0.below ⟨⟨_, rfl⟩⟩))) HS3.out.cap HS3.out.lim.1 HQ.out (by decide))))
  rename_i nq
  have vs : ∀ k : Nat, (convert 22 9 (.slice (some (ad.add j)) 2 2)).run Tryd.prog (w3.drewN k) = .ok (.string (strOfNums [92, 117])) (w3.drewN k) := fun k => Kd.C_string (P := Tryd.prog) (c := 2) Tryd.underlying22 Tryd.underlying5 Tryd.underlying9 (HCY.out _ (HS3.out.bytes _ (Two.of_below g m (Drawn0.below ⟨⟨_, rfl⟩⟩))))
  go_wp2_with (fail)
  obtain ⟨w4, hw4⟩ : ∃ w4, (w3.drewN nq).setCell ⟨g, 1, none⟩ (.int .i64 ((j : Int) + 2)) = w4 := ⟨_, rfl⟩
  have H4 : Aside0 (Scn w4 g m (some ad) c b (j + 2) lf) := ⟨by rw [← hw4]; have := (HS3.out.kept (Drawn0.below (w' := w3.drewN nq) ⟨⟨_, rfl⟩⟩)).move (j + 2) (by have := HQ.out; omega) (by omega); exact this⟩
  have HT4 : Aside0 (Two g m w w4) := ⟨by rw [← hw4]; exact (HT3.out.trans (Two.of_below g m (Drawn0.below (w' := w3.drewN nq) ⟨⟨_, rfl⟩⟩))).trans (Two.setg g m 1 _ _)⟩
  rw [hw4]
  clear hw4 c0 c1 f1
  have HUN9 := Aside0.mk (unit_any H4.out)
  have e7 : Aside0 (i + 7 = j + 2) := ⟨by have := HJ5.out; omega⟩
  have hv := LOW.out
  rw [e7.out] at hv
  have HUN5 := HUN9.out
  unfold UnitPost at HUN5
  rw [hv] at HUN5
  simp only [Option.getD_none, Option.getD_some, Option.isSome_none, Option.isSome_some] at HUN5
  (with_reducible refine HUN5.mono ?_)
  clear hv HUN5
  rintro e w5 ⟨rfl, ⟨j5, lf5, hs5, hij5, hj5⟩, ht5⟩
  have HS5 := Aside0.mk hs5
  have HJ9 : Aside0 (j5 = j + 2 + 4) := ⟨by first | exact hj5 rfl | exact hj5 trivial | exact hj5⟩
  have HT5 := Aside0.mk (HT4.out.trans ht5)
  clear hs5 hij5 hj5 ht5
  go_wp2_with (fail)
  go_ret2
  exact ⟨rfl, ⟨j5, lf5, HS5.out, by have := HJ9.out; have := HJ5.out; omega, fun p hp => by cases hp; have := HJ9.out; have := HJ5.out; show j5 = i + 11; omega⟩, HT5.out⟩
/-- A sign of one unit or of two, at u. -/
def pairV (b : List Int) (i : Nat) : Option (Int × Nat) :=
  match unitV b (i + 1) with
  | none => none
  | some r =>
    if r / 1024 = 55 then none
    else if r / 1024 ≠ 54 then some (r, i + 5)
    else if i + 7 ≤ b.length ∧ hereB b (i + 5) = 92 ∧ hereB b (i + 6) = 117 then
      match unitV b (i + 7) with
      | none => none
      | some l => if l / 1024 = 55 then some (65536 + (r - 55296) * 1024 + l - 56320, i + 11) else none
    else none
/-- What stands behind a backslash: the sign and the place behind it. -/
def escV (b : List Int) (i : Nat) : Option (Int × Nat) :=
  if hereB b i = 34 then some (34, i + 1)
  else if hereB b i = 92 then some (92, i + 1)
  else if hereB b i = 47 then some (47, i + 1)
  else if hereB b i = 98 then some (8, i + 1)
  else if hereB b i = 102 then some (12, i + 1)
  else if hereB b i = 110 then some (10, i + 1)
  else if hereB b i = 114 then some (13, i + 1)
  else if hereB b i = 116 then some (9, i + 1)
  else if hereB b i = 117 then pairV b i
  else none
theorem esc_any (h : Scn w g m A c b i left) (hby : ∀ x ∈ b, 0 ≤ x ∧ x < 256) (hi : i ≤ b.length) :
    Calls Tryd.prog 18 #[.pointer (some ⟨g, 0, none⟩)] w (EscPost (escV b i) g m A c b i w) := by
  unfold escV
  split
  · exact esc_simple h hi _ _ (by assumption) (by simp)
  split
  · exact esc_simple h hi _ _ (by assumption) (by simp)
  split
  · exact esc_simple h hi _ _ (by assumption) (by simp)
  split
  · exact esc_simple h hi _ _ (by assumption) (by simp)
  split
  · exact esc_simple h hi _ _ (by assumption) (by simp)
  split
  · exact esc_simple h hi _ _ (by assumption) (by simp)
  split
  · exact esc_simple h hi _ _ (by assumption) (by simp)
  split
  · exact esc_simple h hi _ _ (by assumption) (by simp)
  split
  · rename_i hx
    unfold pairV
    cases hu : unitV b (i + 1) with
    | none => exact esc_u_none h hi hx (.inl hu)
    | some r =>
      dsimp only
      split
      · rename_i h55; exact esc_u_none h hi hx (.inr ⟨r, hu, h55⟩)
      · rename_i h55
        split
        · rename_i h54; exact esc_u_one h hi hx r hu h55 h54
        · rename_i h54
          have h54 : r / 1024 = 54 := Decidable.of_not_not h54
          split
          · rename_i hyes
            cases hl : unitV b (i + 7) with
            | none => exact esc_pair_bad h hi hx r hu h54 hyes (.inl hl)
            | some l =>
              dsimp only
              split
              · rename_i q; exact esc_pair_good h hi hx r hu h54 hyes l hl q
              · rename_i q; exact esc_pair_bad h hi hx r hu h54 hyes (.inr ⟨l, hl, q⟩)
          · rename_i hno; exact esc_pair_no h hby hi hx r hu h54 hno
  · exact esc_other h hi _ rfl ⟨by assumption, by assumption, by assumption, by assumption, by assumption, by assumption, by assumption, by assumption, by assumption⟩
end esc
end Go.Proofs.YtonekmigcpgdeaaDoor.Hand
