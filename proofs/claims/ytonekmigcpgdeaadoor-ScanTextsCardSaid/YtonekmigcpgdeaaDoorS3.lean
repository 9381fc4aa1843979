/- Layer 13, scan: what stands behind a backslash. -/
import Derived.Test.YtonekmigcpgdeaaDoorS2
namespace Go.Proofs.YtonekmigcpgdeaaDoor.Hand
open Go.RowKit Go.Proofs.YtonekmigcpgdeaaDoor.QAll Go.Proofs.YtonekmigcpgdeaaDoorW.PrintWords Go.Proofs.YtonekmigcpgdeaaDoorW.PrintLast Go.Proofs.YtonekmigcpgdeaaDoorW.PrintMore
set_option linter.unusedVariables false
set_option linter.unusedSimpArgs false

theorem unitF_bound : ∀ (l : List Int) (n r : Int), 0 ≤ n → unitF l n = some r → 0 ≤ r ∧ r < (n + 1) * 16 ^ l.length
  | [], n, r, h0, h => by injection h with h; subst h; simp; omega
  | c :: t, n, r, h0, h => by
    rw [unitF_cons] at h
    cases hv : hexV c with
    | none => rw [hv] at h; cases h
    | some d =>
      rw [hv] at h
      have hd := hexV_le hv
      have ih := unitF_bound t (n * 16 + d) r (by omega) h
      refine ⟨ih.1, Int.lt_of_lt_of_le ih.2 ?_⟩
      rw [List.length_cons, Int.pow_succ, Int.mul_comm (16 ^ t.length) 16, ← Int.mul_assoc]
      exact Int.mul_le_mul_of_nonneg_right (by omega) (Int.le_of_lt (Int.pow_pos (by decide)))
theorem unitV_bound {b : List Int} {i : Nat} {r : Int} (h : unitV b i = some r) : 0 ≤ r ∧ r < 65536 := by
  unfold unitV at h
  split at h
  · have := unitF_bound _ 0 r (by decide) h
    rw [List.length_take, List.length_drop, Nat.min_eq_left (by omega)] at this
    simpa using this
  · cases h

/-- What escape tells: the rune, and where the scanner stands then. -/
def EscPost (R : Option (Int × Nat)) (g m : Nat) (A : Option Addr) (c : Nat) (b : List Int) (i : Nat) (w : World) (e : Ending) (w' : World) : Prop :=
  e = .returned (.tuple #[.int .i32 ((R.map Prod.fst).getD 0), .bool R.isSome]) ∧ (∃ (j : Nat) (left' : Int), Scn w' g m A c b j left' ∧ i ≤ j ∧ ∀ p, R = some p → j = p.2) ∧ Two g m w w'
section esc
variable {w : World} {g m : Nat} {A : Option Addr} {c : Nat} {b : List Int} {i : Nat} {left : Int}
set_option maxHeartbeats 6400000 in
set_option maxRecDepth 100000 in
theorem esc_simple (h : Scn w g m A c b i left) (hi : i ≤ b.length) (x r : Int) (hx : hereB b i = x) (hxr : (x = 34 ∧ r = 34) ∨ (x = 92 ∧ r = 92) ∨ (x = 47 ∧ r = 47) ∨ (x = 98 ∧ r = 8) ∨ (x = 102 ∧ r = 12) ∨ (x = 110 ∧ r = 10) ∨ (x = 114 ∧ r = 13) ∨ (x = 116 ∧ r = 9)) :
    Calls Tryd.prog 18 #[.pointer (some ⟨g, 0, none⟩)] w (EscPost (some (r, i + 1)) g m A c b i w) := by
  have H := Aside0.mk h
  have HH := here_any h
  rw [hx] at HH
  have HHR := Aside0.mk HH
  have HI := Aside0.mk hi
  have wi : IntKind.i64.wrap ((i : Int) + 1) = (i : Int) + 1 := by rw [IntKind.wrap_i64]; have := h.lim; omega
  clear h HH hi hx
  rcases hxr with ⟨rfl, rfl⟩ | ⟨rfl, rfl⟩ | ⟨rfl, rfl⟩ | ⟨rfl, rfl⟩ | ⟨rfl, rfl⟩ | ⟨rfl, rfl⟩ | ⟨rfl, rfl⟩ | ⟨rfl, rfl⟩
  all_goals
    go_enter Tryd.func18, Tryd.ntmps18
    go_wp2_with (go_at_call 15; (with_reducible refine HHR.out.mono ?_); rintro e w1 ⟨rfl, hd⟩; have H1 := Aside0.mk (H.out.kept hd.below); have HT1 := Aside0.mk (Two.of_below g m hd.below); have c1 := H1.out.c1; have f1 := blk_frozen H1.out.sc 1; clear hd)
    go_ret2
    exact ⟨rfl, ⟨i + 1, left, by have := H1.out.move (i + 1) (by have := HI.out; omega) (by omega); exact this, by omega, fun p hp => by injection hp with hp; rw [← hp]⟩, HT1.out.trans (Two.setg g m 1 _ _)⟩
set_option maxHeartbeats 6400000 in
set_option maxRecDepth 100000 in
theorem esc_other (h : Scn w g m A c b i left) (hi : i ≤ b.length) (x : Int) (hx : hereB b i = x) (hn : x ≠ 34 ∧ x ≠ 92 ∧ x ≠ 47 ∧ x ≠ 98 ∧ x ≠ 102 ∧ x ≠ 110 ∧ x ≠ 114 ∧ x ≠ 116 ∧ x ≠ 117) :
    Calls Tryd.prog 18 #[.pointer (some ⟨g, 0, none⟩)] w (EscPost none g m A c b i w) := by
  have H := Aside0.mk h
  have HH := here_any h
  rw [hx] at HH
  have HHR := Aside0.mk HH
  have HI := Aside0.mk hi
  have wi : IntKind.i64.wrap ((i : Int) + 1) = (i : Int) + 1 := by rw [IntKind.wrap_i64]; have := h.lim; omega
  obtain ⟨n1, n2, n3, n4, n5, n6, n7, n8, n9⟩ := hn
  have m1 : (x == 34) = false := by simpa using n1
  have m2 : (x == 92) = false := by simpa using n2
  have m3 : (x == 47) = false := by simpa using n3
  have m4 : (x == 98) = false := by simpa using n4
  have m5 : (x == 102) = false := by simpa using n5
  have m6 : (x == 110) = false := by simpa using n6
  have m7 : (x == 114) = false := by simpa using n7
  have m8 : (x == 116) = false := by simpa using n8
  have m9 : (x == 117) = false := by simpa using n9
  clear h HH hi hx n1 n2 n3 n4 n5 n6 n7 n8 n9
  go_enter Tryd.func18, Tryd.ntmps18
  go_wp2_with (go_at_call 15; (with_reducible refine HHR.out.mono ?_); rintro e w1 ⟨rfl, hd⟩; have H1 := Aside0.mk (H.out.kept hd.below); have HT1 := Aside0.mk (Two.of_below g m hd.below); have c1 := H1.out.c1; have f1 := blk_frozen H1.out.sc 1; clear hd)
  go_ret2
  exact ⟨rfl, ⟨i + 1, left, by have := H1.out.move (i + 1) (by have := HI.out; omega) (by omega); exact this, by omega, fun p hp => by cases hp⟩, HT1.out.trans (Two.setg g m 1 _ _)⟩
set_option maxHeartbeats 6400000 in
set_option maxRecDepth 100000 in
/-- No digits, or the second half of a pair. -/
theorem esc_u_none (h : Scn w g m A c b i left) (hi : i ≤ b.length) (hx : hereB b i = 117) (hu : unitV b (i + 1) = none ∨ ∃ r, unitV b (i + 1) = some r ∧ r / 1024 = 55) :
    Calls Tryd.prog 18 #[.pointer (some ⟨g, 0, none⟩)] w (EscPost none g m A c b i w) := by
  have H := Aside0.mk h
  have HH := here_any h
  rw [hx] at HH
  have HHR := Aside0.mk HH
  have HI := Aside0.mk hi
  have hul : i < b.length := by
    by_cases q : i < b.length
    · exact q
    · unfold hereB at hx; rw [dif_neg q] at hx; exact absurd hx (by decide)
  have HUL := Aside0.mk hul
  have wi : IntKind.i64.wrap ((i : Int) + 1) = (i : Int) + 1 := by rw [IntKind.wrap_i64]; have := h.lim; omega
  have two : (unitV b (i + 1) = none) ∨ ∃ r, unitV b (i + 1) = some r ∧ (r / 1024 == 55) = true ∧ 0 ≤ r ∧ r < 65536 := by
    rcases hu with h1 | ⟨r, h1, h2⟩
    · exact .inl h1
    · exact .inr ⟨r, h1, by simp [h2], unitV_bound h1⟩
  have HU := Aside0.mk two
  clear h HH hi hx hu two hul
  go_enter Tryd.func18, Tryd.ntmps18
  go_upto_region 3 with (go_at_call 15; (with_reducible refine HHR.out.mono ?_); rintro e w1 ⟨rfl, hd⟩; have H1 := Aside0.mk (H.out.kept hd.below); have HT1 := Aside0.mk (Two.of_below g m hd.below); have c1 := H1.out.c1; have f1 := blk_frozen H1.out.sc 1; clear hd)
  obtain ⟨w2, hw2⟩ : ∃ w2, w1.setCell ⟨g, 1, none⟩ (.int .i64 ((i : Int) + 1)) = w2 := ⟨_, rfl⟩
  have H2 : Aside0 (Scn w2 g m A c b (i + 1) left) := ⟨by rw [← hw2]; have := H1.out.move (i + 1) (by have := HI.out; omega) (by omega); exact this⟩
  have HT2 : Aside0 (Two g m w w2) := ⟨by rw [← hw2]; exact HT1.out.trans (Two.setg g m 1 _ _)⟩
  rw [hw2]
  clear hw2 c1 f1
  have HUN := Aside0.mk (unit_any H2.out)
  rcases HU.out with hv | ⟨r, hv, hr, r0, r1⟩
  all_goals
    have HUN2 := HUN.out
    unfold UnitPost at HUN2
    rw [hv] at HUN2
    simp only [Option.getD_none, Option.getD_some, Option.isSome_none, Option.isSome_some] at HUN2
    have HUN3 := Aside0.mk HUN2
    clear HUN2 hv
    go_wp2_with (go_at_call 28; (with_reducible refine HUN3.out.mono ?_); rintro e w3 ⟨rfl, ⟨j, lf, hs3, hij, hj4⟩, ht3⟩; have HS3 := Aside0.mk hs3; have HIJ := Aside0.mk hij; have HT3 := Aside0.mk (HT2.out.trans ht3); clear hs3 hij hj4 ht3)
    go_ret2
    exact ⟨rfl, ⟨j, lf, HS3.out, by have := HIJ.out; omega, fun p hp => by cases hp⟩, HT3.out⟩
set_option maxHeartbeats 6400000 in
set_option maxRecDepth 100000 in
/-- A sign of one unit. -/
theorem esc_u_one (h : Scn w g m A c b i left) (hi : i ≤ b.length) (hx : hereB b i = 117) (r : Int) (hu : unitV b (i + 1) = some r) (h55 : r / 1024 ≠ 55) (h54 : r / 1024 ≠ 54) :
    Calls Tryd.prog 18 #[.pointer (some ⟨g, 0, none⟩)] w (EscPost (some (r, i + 5)) g m A c b i w) := by
  have H := Aside0.mk h
  have HH := here_any h
  rw [hx] at HH
  have HHR := Aside0.mk HH
  have HI := Aside0.mk hi
  have hul : i < b.length := by
    by_cases q : i < b.length
    · exact q
    · unfold hereB at hx; rw [dif_neg q] at hx; exact absurd hx (by decide)
  have HUL := Aside0.mk hul
  have wi : IntKind.i64.wrap ((i : Int) + 1) = (i : Int) + 1 := by rw [IntKind.wrap_i64]; have := h.lim; omega
  have hbd := unitV_bound hu
  have a1 : (r / 1024 == 55) = false := by simpa using h55
  have a2 : (r / 1024 != 54) = true := by simpa using h54
  have a3 : (r / 1024 == 54) = false := by simpa using h54
  have HU := Aside0.mk hu
  obtain ⟨r0, r1⟩ := hbd
  clear h HH hi hx hu hul h55 h54
  go_enter Tryd.func18, Tryd.ntmps18
  go_upto_region 3 with (go_at_call 15; (with_reducible refine HHR.out.mono ?_); rintro e w1 ⟨rfl, hd⟩; have H1 := Aside0.mk (H.out.kept hd.below); have HT1 := Aside0.mk (Two.of_below g m hd.below); have c1 := H1.out.c1; have f1 := blk_frozen H1.out.sc 1; clear hd)
  obtain ⟨w2, hw2⟩ : ∃ w2, w1.setCell ⟨g, 1, none⟩ (.int .i64 ((i : Int) + 1)) = w2 := ⟨_, rfl⟩
  have H2 : Aside0 (Scn w2 g m A c b (i + 1) left) := ⟨by rw [← hw2]; have := H1.out.move (i + 1) (by have := HI.out; omega) (by omega); exact this⟩
  have HT2 : Aside0 (Two g m w w2) := ⟨by rw [← hw2]; exact HT1.out.trans (Two.setg g m 1 _ _)⟩
  rw [hw2]
  clear hw2 c1 f1
  have HUN := Aside0.mk (unit_any H2.out)
  have HUN2 := HUN.out
  unfold UnitPost at HUN2
  rw [HU.out] at HUN2
  simp only [Option.getD_some, Option.isSome_some] at HUN2
  have HUN3 := Aside0.mk HUN2
  clear HUN2
  go_wp2_with (go_at_call 28; (with_reducible refine HUN3.out.mono ?_); rintro e w3 ⟨rfl, ⟨j, lf, hs3, hij, hj4⟩, ht3⟩; have HS3 := Aside0.mk hs3; have HIJ := Aside0.mk hij; have HJ4 : Aside0 (j = i + 1 + 4) := ⟨by first | exact hj4 rfl | exact hj4 trivial | exact hj4⟩; have HT3 := Aside0.mk (HT2.out.trans ht3); clear hs3 hij hj4 ht3)
  go_ret2
  exact ⟨rfl, ⟨j, lf, HS3.out, by have := HIJ.out; omega, fun p hp => by injection hp with hp; rw [← hp]; have := HJ4.out; show j = i + 5; omega⟩, HT3.out⟩
/-- Two bytes from a place on, as a string. -/
theorem two_ne1 (y z : Int) (hy : 0 ≤ y ∧ y < 256) (hz : 0 ≤ z ∧ z < 256) (hn : ¬ (y = 92 ∧ z = 117)) : ((strOfNums [y, z]).toList == [92, 117]) = false := by
  refine beq_eq_false_iff_ne.mpr fun e => hn ?_
  have h1 : ∀ p q : UInt8, (⟨#[p, q]⟩ : ByteArray).toList = [p, q] := by
    intro p q
    unfold ByteArray.toList
    rw [ByteArray.toList.loop, if_pos (by show (0 : Nat) < 2; decide), ByteArray.toList.loop, if_pos (by show (0 + 1 : Nat) < 2; decide), ByteArray.toList.loop, if_neg (by show ¬ (0 + 1 + 1 : Nat) < 2; decide)]
    rfl
  have h2 : strOfNums [y, z] = ⟨#[UInt8.ofNat y.toNat, UInt8.ofNat z.toNat]⟩ := rfl
  rw [h2, h1] at e
  injection e with e3 e4
  injection e4 with e4 _
  have e3 := congrArg UInt8.toNat e3
  have e4 := congrArg UInt8.toNat e4
  rw [UInt8.toNat_ofNat_of_lt' (by show y.toNat < 256; omega)] at e3
  rw [UInt8.toNat_ofNat_of_lt' (by show z.toNat < 256; omega)] at e4
  have e3 : y.toNat = 92 := e3
  have e4 : z.toNat = 117 := e4
  omega
theorem C_two {W : World} {ad : Addr} {b : List Int} {k : Nat} (hk : k + 2 ≤ b.length) (h : Kd.C (Kd.int .u8) W (some ad) b.length b) : Kd.C (Kd.int .u8) W (some (ad.add k)) 2 [b[k], b[k + 1]] := by
  have hR := Kd.reads_of_C (enc := Value.int .u8) (d := (0 : Int)) (h1 := fun _ => rfl) h
  obtain ⟨ad', e, hc⟩ := hR.2.2 (by omega)
  injection e with e; subst e
  refine Kd.C_of_reads (enc := Value.int .u8) (d := (0 : Int)) (h1 := fun _ => rfl) ⟨rfl, by decide, fun _ => ⟨_, rfl, fun j hj => ?_⟩⟩
  rw [add_add, hc (k + j) (by omega)]
  rcases j with _ | _ | j
  · rw [List.getD_eq_getElem?_getD, List.getElem?_eq_getElem (by omega)]; rfl
  · rw [List.getD_eq_getElem?_getD, List.getElem?_eq_getElem (by omega)]; rfl
  · omega
set_option maxHeartbeats 6400000 in
set_option maxRecDepth 100000 in
/-- The first half of a pair, and no second one announced. -/
theorem esc_pair_no (h : Scn w g m A c b i left) (hby : ∀ x ∈ b, 0 ≤ x ∧ x < 256) (hi : i ≤ b.length) (hx : hereB b i = 117) (r : Int) (hu : unitV b (i + 1) = some r) (h54 : r / 1024 = 54) (hno : ¬ (i + 7 ≤ b.length ∧ hereB b (i + 5) = 92 ∧ hereB b (i + 6) = 117)) :
    Calls Tryd.prog 18 #[.pointer (some ⟨g, 0, none⟩)] w (EscPost none g m A c b i w) := by
  have H := Aside0.mk h
  have HH := here_any h
  rw [hx] at HH
  have HHR := Aside0.mk HH
  have HI := Aside0.mk hi
  have hul : i < b.length := by
    by_cases q : i < b.length
    · exact q
    · unfold hereB at hx; rw [dif_neg q] at hx; exact absurd hx (by decide)
  have HUL := Aside0.mk hul
  have wi : IntKind.i64.wrap ((i : Int) + 1) = (i : Int) + 1 := by rw [IntKind.wrap_i64]; have := h.lim; omega
  have hbd := unitV_bound hu
  have a1 : (r / 1024 == 55) = false := by simp [h54]
  have a2 : (r / 1024 != 54) = false := by simp [h54]
  have a3 : (r / 1024 == 54) = true := by simp [h54]
  have HU := Aside0.mk hu
  obtain ⟨r0, r1⟩ := hbd
  have hu5 : i + 5 ≤ b.length := by
    unfold unitV at hu; split at hu
    · omega
    · cases hu
  obtain ⟨ad, hA, hx0⟩ := h.at_ hul
  clear hx0
  subst hA
  have two : ∀ j : Nat, j = i + 5 → (¬ (j + 2 ≤ b.length)) ∨ ((j + 2 ≤ b.length) ∧ ∃ y z : Int, (∀ W, Kd.C (Kd.int .u8) W (some ad) b.length b → Kd.C (Kd.int .u8) W (some (ad.add j)) 2 [y, z]) ∧ ((strOfNums [y, z]).toList == [92, 117]) = false) := by
    intro j hj
    by_cases q : j + 2 ≤ b.length
    · right
      refine ⟨q, b[j], b[j + 1], fun W hW => C_two q hW, ?_⟩
      have e1 : hereB b (i + 5) = b[j] := by subst hj; unfold hereB; rw [dif_pos (by omega)]
      have e2 : hereB b (i + 6) = b[j + 1] := by subst hj; unfold hereB; rw [dif_pos (by omega)]
      rw [e1, e2] at hno
      by_cases h92 : b[j] = 92
      · by_cases h117 : b[j + 1] = 117
        · exact absurd ⟨by omega, h92, h117⟩ hno
        · exact two_ne1 _ _ (hby _ (List.getElem_mem _)) (hby _ (List.getElem_mem _)) (fun p => h117 p.2)
      · exact two_ne1 _ _ (hby _ (List.getElem_mem _)) (hby _ (List.getElem_mem _)) (fun p => h92 p.1)
    · exact .inl q
  have H2W := Aside0.mk two
  clear h HH hi hx hu hul h54 hno two hu5 hby
  go_enter Tryd.func18, Tryd.ntmps18
  go_upto_region 3 with (go_at_call 15; (with_reducible refine HHR.out.mono ?_); rintro e w1 ⟨rfl, hd⟩; have H1 := Aside0.mk (H.out.kept hd.below); have HT1 := Aside0.mk (Two.of_below g m hd.below); have c1 := H1.out.c1; have f1 := blk_frozen H1.out.sc 1; clear hd)
  obtain ⟨w2, hw2⟩ : ∃ w2, w1.setCell ⟨g, 1, none⟩ (.int .i64 ((i : Int) + 1)) = w2 := ⟨_, rfl⟩
  have H2 : Aside0 (Scn w2 g m (some ad) c b (i + 1) left) := ⟨by rw [← hw2]; have := H1.out.move (i + 1) (by have := HI.out; omega) (by omega); exact this⟩
  have HT2 : Aside0 (Two g m w w2) := ⟨by rw [← hw2]; exact HT1.out.trans (Two.setg g m 1 _ _)⟩
  rw [hw2]
  clear hw2 c1 f1
  have HUN := Aside0.mk (unit_any H2.out)
  have HUN2 := HUN.out
  unfold UnitPost at HUN2
  rw [HU.out] at HUN2
  simp only [Option.getD_some, Option.isSome_some] at HUN2
  have HUN3 := Aside0.mk HUN2
  clear HUN2
  go_upto_region 24 with (go_at_call 28; (with_reducible refine HUN3.out.mono ?_); rintro e w3 ⟨rfl, ⟨j, lf, hs3, hij, hj4⟩, ht3⟩; have HJ4 : Aside0 (j = i + 1 + 4) := ⟨by first | exact hj4 rfl | exact hj4 trivial | exact hj4⟩; have HS3 := Aside0.mk hs3; have HT3 := Aside0.mk (HT2.out.trans ht3); clear hs3 hij hj4 ht3)
  have hj5 : j = i + 5 := by have := HJ4.out; omega
  have HJ5 := Aside0.mk hj5
  clear hj5
  have c0 := HS3.out.c0
  have c1 := HS3.out.c1
  rcases H2W.out j HJ5.out with q | ⟨q, y, z, hcy, hyz⟩
  · have HQ := Aside0.mk q
    clear q
    go_quiet ((go_at_call 29; exact quietD (part_no (some ad) c b j 2 _ (HS3.out.bytes _ (Two.of_below g m (Drawn0.below ⟨⟨_, rfl⟩⟩))) HS3.out.cap HS3.out.lim.1 HQ.out)))
    clear c0 c1
    go_wp2_with (fail)
    go_ret2
    exact ⟨rfl, ⟨j, lf, HS3.out.kept (Drawn0.below ⟨⟨_, rfl⟩⟩), by have := HJ5.out; omega, fun p hp => by cases hp⟩, HT3.out.trans (Two.of_below g m (Drawn0.below ⟨⟨_, rfl⟩⟩))⟩
  · have HQ := Aside0.mk q
    have HCY := Aside0.mk hcy
    clear q hcy
    go_quiet ((go_at_call 29; exact quietD (part_ok ad c b j 2 _ (HS3.out.bytes _ (Two.of_below g m (Drawn0.below ⟨⟨_, rfl⟩⟩))) HS3.out.cap HS3.out.lim.1 HQ.out (by decide))))
    clear c0 c1
    rename_i nq
    have vs : ∀ k : Nat, (convert 22 9 (.slice (some (ad.add j)) 2 2)).run Tryd.prog (w3.drewN k) = .ok (.string (strOfNums [y, z])) (w3.drewN k) := fun k => Kd.C_string (P := Tryd.prog) (c := 2) Tryd.underlying22 Tryd.underlying5 Tryd.underlying9 (HCY.out _ (HS3.out.bytes _ (Two.of_below g m (Drawn0.below ⟨⟨_, rfl⟩⟩))))
    go_wp2_with (fail)
    go_ret2
    exact ⟨rfl, ⟨j, lf, HS3.out.kept (Drawn0.below ⟨⟨_, rfl⟩⟩), by have := HJ5.out; omega, fun p hp => by cases hp⟩, HT3.out.trans (Two.of_below g m (Drawn0.below ⟨⟨_, rfl⟩⟩))⟩
end esc
end Go.Proofs.YtonekmigcpgdeaaDoor.Hand
