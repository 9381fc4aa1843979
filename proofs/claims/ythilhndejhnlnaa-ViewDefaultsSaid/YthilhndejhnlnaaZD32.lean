/- Texts joined: QAllx6. -/
import Derived.Test.YthilhndejhnlnaaZD13
section
-- written by a program of this session (turned from a print)
namespace Go.Proofs.Ythilhndejhnlnaa.QAll
open Go.RowKit Go.Proofs.YthilhndejhnlnaaW.PrintWords Go.Proofs.YthilhndejhnlnaaW.PrintLast Go.Proofs.YthilhndejhnlnaaW.PrintMore
attribute [local go_sem] max2_int min2_int max_two min_two max_three min_three max_four min_four   -- for this text's walks alone
set_option linter.unusedVariables false
set_option linter.unusedSimpArgs false

/-! ### transomref05_Same: function 10 -/
mutual
def transomref05_Same.j0 : Nat → Bool → Int → List Int → List (S39) → Bool → Int → List Int → List (S39) → Bool → Option (Bool)
  | 0, _, _, _, _, _, _, _, _, _ => none
  | k + 1, x35, x203000, x203001, x203002, x203003, x204000, x204001, x204002, x204003 => if x35 = true then (some false) else (transomref05_Same.l0 k 0 x203000 x203001 x203002 x203003 x204000 x204001 x204002 x204003)
def transomref05_Same.l0 : Nat → Int → Int → List Int → List (S39) → Bool → Int → List Int → List (S39) → Bool → Option (Bool)
  | 0, _, _, _, _, _, _, _, _, _ => none
  | k + 1, x5, x203000, x203001, x203002, x203003, x204000, x204001, x204002, x204003 => if x5 < (x203002.length : Int) then (if 0 ≤ x5 then (if x5 < (x204002.length : Int) then ((transomref05_Same.f k ((rd_T39 x203002 x5).f0) ((rd_T39 x203002 x5).f1) ((rd_T39 x203002 x5).f2) ((rd_T39 x203002 x5).f3) ((rd_T39 x204002 x5).f0) ((rd_T39 x204002 x5).f1) ((rd_T39 x204002 x5).f2) ((rd_T39 x204002 x5).f3)).bind fun t206 => (if t206 = true then (transomref05_Same.l0 k (wrap64 (x5 + 1)) x203000 x203001 x203002 x203003 x204000 x204001 x204002 x204003) else (some false))) else (none)) else (none)) else (some true)
def transomref05_Same.f : Nat → Int → List Int → List (S39) → Bool → Int → List Int → List (S39) → Bool → Option (Bool)
  | 0, _, _, _, _, _, _, _, _ => none
  | k + 1, a0_0, l0_1, l0_2, a0_3, a1_0, l1_1, l1_2, a1_3 => if a0_0 = a1_0 then (if (strOfNums l0_1).toList = (strOfNums l1_1).toList then (if (a0_3 != a1_3) = true then (transomref05_Same.j0 k true a0_0 l0_1 l0_2 a0_3 a1_0 l1_1 l1_2 a1_3) else (transomref05_Same.j0 k ((l0_2.length : Int) != (l1_2.length : Int)) a0_0 l0_1 l0_2 a0_3 a1_0 l1_1 l1_2 a1_3)) else (transomref05_Same.j0 k true a0_0 l0_1 l0_2 a0_3 a1_0 l1_1 l1_2 a1_3)) else (transomref05_Same.j0 k true a0_0 l0_1 l0_2 a0_3 a1_0 l1_1 l1_2 a1_3)
end
theorem transomref05_Same.mono_l : ∀ k, (∀ y0 y1 y2 y3 y4 y5 y6 y7, LeO (transomref05_Same.f k y0 y1 y2 y3 y4 y5 y6 y7) (transomref05_Same.f (k + 1) y0 y1 y2 y3 y4 y5 y6 y7)) ∧ (∀ y0 y1 y2 y3 y4 y5 y6 y7 y8, LeO (transomref05_Same.j0 k y0 y1 y2 y3 y4 y5 y6 y7 y8) (transomref05_Same.j0 (k + 1) y0 y1 y2 y3 y4 y5 y6 y7 y8)) ∧ (∀ y0 y1 y2 y3 y4 y5 y6 y7 y8, LeO (transomref05_Same.l0 k y0 y1 y2 y3 y4 y5 y6 y7 y8) (transomref05_Same.l0 (k + 1) y0 y1 y2 y3 y4 y5 y6 y7 y8))
  | 0 => ⟨fun _ _ _ _ _ _ _ _ r h => by simp [transomref05_Same.f] at h, fun _ _ _ _ _ _ _ _ _ r h => by simp [transomref05_Same.j0] at h, fun _ _ _ _ _ _ _ _ _ r h => by simp [transomref05_Same.l0] at h⟩
  | k + 1 => by
    obtain ⟨ih0, ih1, ih2⟩ := transomref05_Same.mono_l k
    refine ⟨?_, ?_, ?_⟩
    · intro y0 y1 y2 y3 y4 y5 y6 y7
      unfold transomref05_Same.f
      repeat' first
      | (with_reducible exact ih0 _ _ _ _ _ _ _ _)
      | (with_reducible exact ih1 _ _ _ _ _ _ _ _ _)
      | (with_reducible exact ih2 _ _ _ _ _ _ _ _ _)
      | (with_reducible exact LeO.refl _)
      | (with_reducible exact LeO.none _)
      | (with_reducible refine LeO.ite ?_ ?_)
      | (with_reducible refine LeO.bind ?_ (fun _ => ?_))
      | exact ih0 _ _ _ _ _ _ _ _
      | exact ih1 _ _ _ _ _ _ _ _ _
      | exact ih2 _ _ _ _ _ _ _ _ _
      | exact LeO.none _
      | refine LeO.ite ?_ ?_
      | refine LeO.bind ?_ (fun _ => ?_)
    · intro y0 y1 y2 y3 y4 y5 y6 y7 y8
      unfold transomref05_Same.j0
      repeat' first
      | (with_reducible exact ih0 _ _ _ _ _ _ _ _)
      | (with_reducible exact ih1 _ _ _ _ _ _ _ _ _)
      | (with_reducible exact ih2 _ _ _ _ _ _ _ _ _)
      | (with_reducible exact LeO.refl _)
      | (with_reducible exact LeO.none _)
      | (with_reducible refine LeO.ite ?_ ?_)
      | (with_reducible refine LeO.bind ?_ (fun _ => ?_))
      | exact ih0 _ _ _ _ _ _ _ _
      | exact ih1 _ _ _ _ _ _ _ _ _
      | exact ih2 _ _ _ _ _ _ _ _ _
      | exact LeO.none _
      | refine LeO.ite ?_ ?_
      | refine LeO.bind ?_ (fun _ => ?_)
    · intro y0 y1 y2 y3 y4 y5 y6 y7 y8
      unfold transomref05_Same.l0
      repeat' first
      | (with_reducible exact ih0 _ _ _ _ _ _ _ _)
      | (with_reducible exact ih1 _ _ _ _ _ _ _ _ _)
      | (with_reducible exact ih2 _ _ _ _ _ _ _ _ _)
      | (with_reducible exact LeO.refl _)
      | (with_reducible exact LeO.none _)
      | (with_reducible refine LeO.ite ?_ ?_)
      | (with_reducible refine LeO.bind ?_ (fun _ => ?_))
      | exact ih0 _ _ _ _ _ _ _ _
      | exact ih1 _ _ _ _ _ _ _ _ _
      | exact ih2 _ _ _ _ _ _ _ _ _
      | exact LeO.none _
      | refine LeO.ite ?_ ?_
      | refine LeO.bind ?_ (fun _ => ?_)
theorem transomref05_Same.mono : ∀ a0 a1 a2 a3 a4 a5 a6 a7 k, LeO (transomref05_Same.f k a0 a1 a2 a3 a4 a5 a6 a7) (transomref05_Same.f (k + 1) a0 a1 a2 a3 a4 a5 a6 a7) := by
  intro a0 a1 a2 a3 a4 a5 a6 a7 k
  obtain ⟨ih0, ih1, ih2⟩ := transomref05_Same.mono_l k
  exact ih0 a0 a1 a2 a3 a4 a5 a6 a7
def transomref05_Same.T6 : Bool × List (List Nat × List Nat) := (true, [([], []), ([0], [0]), ([], []), ([1, 2], [1, 2]), ([3], [3]), ([], []), ([5], [5]), ([], []), ([6, 7], [6, 7]), ([8], [8]), ([4, 9], [4, 9]), ([10], [10])])
def transomref05_Same.B6 : List Nat := [0, 1, 0, 7, 15, 0, 32, 0, 224, 480, 1023, 2047]
theorem transomref05_Same.tab6 : rtab .any (opsOf Try.f10 6) = transomref05_Same.T6 := by kernel_rfl
theorem transomref05_Same.bits6 : waitsOk transomref05_Same.T6.2 transomref05_Same.B6 = true := by kernel_rfl
set_option maxHeartbeats 8000000 in
set_option maxRecDepth 100000 in
theorem transomref05_Same.calls (k : Nat) : ∀ (a0_0 : Int) (A0_1 : Option Addr) (c0_1 : Nat) (l0_1 : List Int) (A0_2 : Option Addr) (c0_2 : Nat) (l0_2 : List (S39)) (a0_3 : Bool) (a1_0 : Int) (A1_1 : Option Addr) (c1_1 : Nat) (l1_1 : List Int) (A1_2 : Option Addr) (c1_2 : Nat) (l1_2 : List (S39)) (a1_3 : Bool) (r : Bool) (w : World) (hr0_1 : Kd.C (Kd.int .u8) w A0_1 l0_1.length l0_1) (hc0_1 : l0_1.length ≤ c0_1) (hr0_2 : Kd.C k39 w A0_2 l0_2.length l0_2) (hc0_2 : l0_2.length ≤ c0_2) (hr1_1 : Kd.C (Kd.int .u8) w A1_1 l1_1.length l1_1) (hc1_1 : l1_1.length ≤ c1_1) (hr1_2 : Kd.C k39 w A1_2 l1_2.length l1_2) (hc1_2 : l1_2.length ≤ c1_2) (h : transomref05_Same.f k a0_0 l0_1 l0_2 a0_3 a1_0 l1_1 l1_2 a1_3 = some r),
    Calls Try.prog 10 #[.agg #[.int .u64 a0_0, .slice A0_1 l0_1.length c0_1, .slice A0_2 l0_2.length c0_2, .bool a0_3], .agg #[.int .u64 a1_0, .slice A1_1 l1_1.length c1_1, .slice A1_2 l1_2.length c1_2, .bool a1_3]] w fun e w' => e = .returned (.bool r) ∧ Below w.heap.size w w' := by
  induction k using Nat.strongRecOn with
  | _ k ih =>
  intro a0_0 A0_1 c0_1 l0_1 A0_2 c0_2 l0_2 a0_3 a1_0 A1_1 c1_1 l1_1 A1_2 c1_2 l1_2 a1_3 r w hr0_1 hc0_1 hr0_2 hc0_2 hr1_1 hc1_1 hr1_2 hc1_2 h
  cases k with
  | zero => exact absurd h (by simp [transomref05_Same.f])
  | succ k =>
  simp only [transomref05_Same.f] at h
  have hu39 := Try.underlying39
  have HR0_1 := Aside0.mk hr0_1
  have HC0_1 := Aside0.mk hc0_1
  clear hr0_1 hc0_1
  have HR0_2 := Aside0.mk hr0_2
  have HC0_2 := Aside0.mk hc0_2
  clear hr0_2 hc0_2
  have HR1_1 := Aside0.mk hr1_1
  have HC1_1 := Aside0.mk hc1_1
  clear hr1_1 hc1_1
  have HR1_2 := Aside0.mk hr1_2
  have HC1_2 := Aside0.mk hc1_2
  clear hr1_2 hc1_2
  have HB := Aside0.mk (Below.refl w.heap.size w)
  have H : (if a0_0 = a1_0 then (if (strOfNums l0_1).toList = (strOfNums l1_1).toList then (if (a0_3 != a1_3) = true then (transomref05_Same.j0 k true a0_0 l0_1 l0_2 a0_3 a1_0 l1_1 l1_2 a1_3) else (transomref05_Same.j0 k ((l0_2.length : Int) != (l1_2.length : Int)) a0_0 l0_1 l0_2 a0_3 a1_0 l1_1 l1_2 a1_3)) else (transomref05_Same.j0 k true a0_0 l0_1 l0_2 a0_3 a1_0 l1_1 l1_2 a1_3)) else (transomref05_Same.j0 k true a0_0 l0_1 l0_2 a0_3 a1_0 l1_1 l1_2 a1_3)) = some r := h
  clear h
  have HC3 := Aside0.mk H
  clear H
  go_enter Try.func10, Try.ntmps10
  go_upto_region 1 with (first | ((with_reducible refine gate_dst (N := 2) rfl ?_); (try (refine gate_guard (by rfl) ?_; dsimp only)); refine box_event ?hg (N := 2) ?hd (cs := #[.int .u64 a0_0, .slice A0_1 l0_1.length c0_1, .slice A0_2 l0_2.length c0_2, .bool a0_3]) (t := 39) ?hr ?_; (case hd => rfl); (case hg => rfl); (case hr => first | (go_simp; done) | (go_simp; rfl)); intro gb202 hg w4 hbox hb; have n0_ := Aside0.mk (below_step (by repeat (first | (with_reducible first | exact HB.out | apply below_alloc | apply pw_below_drewN | apply below_drew1) | exact HB.out)) hb); have n1_ := Aside0.mk (hbox); have n2_ := Aside0.mk ((by rw [hg]; exact (below_size (by repeat (first | (with_reducible first | exact HB.out | apply below_alloc | apply pw_below_drewN | apply below_drew1) | exact HB.out))) : w.heap.size ≤ gb202)); have n3_ := Aside0.mk ((by rw [hg]; exact (below_size (by repeat (first | (with_reducible first | exact HB.out | apply below_alloc | apply pw_below_drewN | apply below_drew1) | exact HB.out))) : w.heap.size ≤ gb202)); clear HB; have HB := n0_; have BK202 := n1_; have GW202 := n2_; have GE202 := n3_; clear n0_ n1_ n2_ n3_; clear hb hbox hg) | ((with_reducible refine gate_dst (N := 3) rfl ?_); (try (refine gate_guard (by rfl) ?_; dsimp only)); refine box_event ?hg (N := 3) ?hd (cs := #[.int .u64 a1_0, .slice A1_1 l1_1.length c1_1, .slice A1_2 l1_2.length c1_2, .bool a1_3]) (t := 39) ?hr ?_; (case hd => rfl); (case hg => rfl); (case hr => first | (go_simp; done) | (go_simp; rfl)); intro gb203 hg w5 hbox hb; have n0_ := Aside0.mk (blk_below (g := gb202) (o := .cells #[.int .u64 a0_0, .slice A0_1 l0_1.length c0_1, .slice A0_2 l0_2.length c0_2, .bool a0_3] 39 (0, 0)) (by (with_reducible repeat (first | refine blk_drewN ?_ _ | refine blk_drew ?_ | refine blk_alloc ?_ _)); exact BK202.out) hb); have n1_ := Aside0.mk (below_step (by repeat (first | (with_reducible first | exact HB.out | apply below_alloc | apply pw_below_drewN | apply below_drew1 | refine below_set ?_ GE202.out) | exact HB.out)) hb); have n2_ := Aside0.mk (hbox); have n3_ := Aside0.mk ((by rw [hg]; exact (below_size (by repeat (first | (with_reducible first | exact HB.out | apply below_alloc | apply pw_below_drewN | apply below_drew1 | refine below_set ?_ GE202.out) | exact HB.out))) : w.heap.size ≤ gb203)); have n4_ := Aside0.mk ((by rw [hg]; exact (below_size (by repeat (first | (with_reducible first | exact HB.out | apply below_alloc | apply pw_below_drewN | apply below_drew1 | refine below_set ?_ GE202.out) | exact HB.out))) : w.heap.size ≤ gb203)); have n5_ := Aside0.mk ((by rw [hg]; exact Nat.ne_of_lt (blk_lt (g := gb202) (o := .cells #[.int .u64 a0_0, .slice A0_1 l0_1.length c0_1, .slice A0_2 l0_2.length c0_2, .bool a0_3] 39 (0, 0)) (by (with_reducible repeat (first | refine blk_drewN ?_ _ | refine blk_drew ?_ | refine blk_alloc ?_ _)); exact BK202.out)) : gb202 ≠ gb203)); have n6_ := Aside0.mk ((by rw [hg]; exact Nat.ne_of_gt (blk_lt (g := gb202) (o := .cells #[.int .u64 a0_0, .slice A0_1 l0_1.length c0_1, .slice A0_2 l0_2.length c0_2, .bool a0_3] 39 (0, 0)) (by (with_reducible repeat (first | refine blk_drewN ?_ _ | refine blk_drew ?_ | refine blk_alloc ?_ _)); exact BK202.out)) : gb203 ≠ gb202)); clear BK202; clear HB; have BK202 := n0_; have HB := n1_; have BK203 := n2_; have GW203 := n3_; have GE203 := n4_; have NB202_203 := n5_; have NB203_202 := n6_; clear n0_ n1_ n2_ n3_ n4_ n5_ n6_; clear hb hbox hg))
  (try simp only [Act.put, List.setIfInBounds_toArray, List.set_cons_zero, List.set_cons_succ])
  go_cut [35] (fun v35 wc => ∃ (kq : Nat) (x35_2 : Bool), v35 = .bool x35_2 ∧ Aside0 (transomref05_Same.j0 kq x35_2 a0_0 l0_1 l0_2 a0_3 a1_0 l1_1 l1_2 a1_3 = some r) ∧ Aside0 (kq ≤ k) ∧ Aside0 (wc.heap[gb202]? = some (.cells #[.int .u64 a0_0, (.slice A0_1 l0_1.length c0_1), (.slice A0_2 l0_2.length c0_2), .bool a0_3] 39 (0, 0))) ∧ Aside0 (wc.heap[gb203]? = some (.cells #[.int .u64 a1_0, (.slice A1_1 l1_1.length c1_1), (.slice A1_2 l1_2.length c1_2), .bool a1_3] 39 (0, 0))) ∧ Aside0 (Below w.heap.size w wc))
  case first =>
    have H := HC3.out
    clear HC3
    by_cases c6 : a0_0 = a1_0
    · rw [if_pos c6] at H
      have c6b0 : (a0_0 == a1_0) = true := beq_iff_eq.mpr c6
      have c6b1 : (a0_0 != a1_0) = false := bne_eq_false_iff_eq.mpr c6
      clear c6
      (first | rw [c6b0] | (simp only [i64_w, i32_w]; rw [c6b0]) | skip)
      by_cases c7 : (strOfNums l0_1).toList = (strOfNums l1_1).toList
      · rw [if_pos c7] at H
        have c7b0 : ((strOfNums l0_1).toList == (strOfNums l1_1).toList) = true := beq_iff_eq.mpr c7
        have c7b1 : ((strOfNums l0_1).toList != (strOfNums l1_1).toList) = false := bne_eq_false_iff_eq.mpr c7
        clear c7
        by_cases c8 : (a0_3 != a1_3) = true
        · rw [if_pos c8] at H
          have c8b0 : (a0_3 != a1_3) = true := c8
          (try (have c8b1 : decide (a0_3 = a1_3) = false := by simpa using c8))
          (try (have c8b2 : (a0_3 == a1_3) = false := by simpa using c8))
          (try (have c8b3 : ¬ (a0_3 = a1_3) := by simpa using c8))
          clear c8
          have H' := Aside0.mk H
          clear H
          have hnb9 := NB202_203.out
          have hnc9 := NB203_202.out
          have hcz10_0 : w5.cell? ⟨gb202, 0, none⟩ = some (.int .u64 a0_0) := (blk_cell BK202.out 0).trans rfl
          have hcz10_1 : w5.cell? ⟨gb202, 1, none⟩ = some (.slice A0_1 l0_1.length c0_1) := (blk_cell BK202.out 1).trans rfl
          have hcz10_2 : w5.cell? ⟨gb202, 2, none⟩ = some (.slice A0_2 l0_2.length c0_2) := (blk_cell BK202.out 2).trans rfl
          have hcz10_3 : w5.cell? ⟨gb202, 3, none⟩ = some (.bool a0_3) := (blk_cell BK202.out 3).trans rfl
          have hfz10_0 := blk_frozen BK202.out 0
          have hfz10_1 := blk_frozen BK202.out 1
          have hfz10_2 := blk_frozen BK202.out 2
          have hfz10_3 := blk_frozen BK202.out 3
          have hcz11_0 : w5.cell? ⟨gb203, 0, none⟩ = some (.int .u64 a1_0) := (blk_cell BK203.out 0).trans rfl
          have hcz11_1 : w5.cell? ⟨gb203, 1, none⟩ = some (.slice A1_1 l1_1.length c1_1) := (blk_cell BK203.out 1).trans rfl
          have hcz11_2 : w5.cell? ⟨gb203, 2, none⟩ = some (.slice A1_2 l1_2.length c1_2) := (blk_cell BK203.out 2).trans rfl
          have hcz11_3 : w5.cell? ⟨gb203, 3, none⟩ = some (.bool a1_3) := (blk_cell BK203.out 3).trans rfl
          have hfz11_0 := blk_frozen BK203.out 0
          have hfz11_1 := blk_frozen BK203.out 1
          have hfz11_2 := blk_frozen BK203.out 2
          have hfz11_3 := blk_frozen BK203.out 3
          have hcv12 := Kd.C_string (P := Try.prog) (A := A0_1) (c := c0_1) Try.underlying36 Try.underlying5 Try.underlying9 (Kd.C_below HR0_1.out HB.out)
          have hcv13 := Kd.C_string (P := Try.prog) (A := A1_1) (c := c1_1) Try.underlying36 Try.underlying5 Try.underlying9 (Kd.C_below HR1_1.out HB.out)
          go_wp2
          go_meet
          case rel => exact ⟨_, (true), (by first | rfl | (simp; done) | (simp [*]; done)), H', ⟨by first | omega | exact Nat.le_refl _⟩, ⟨by (with_reducible repeat (first | refine blk_drewN ?_ _ | refine blk_drew ?_ | refine blk_alloc ?_ _)); exact BK202.out⟩, ⟨by (with_reducible repeat (first | refine blk_drewN ?_ _ | refine blk_drew ?_ | refine blk_alloc ?_ _)); exact BK203.out⟩, ⟨by repeat (first | (with_reducible first | exact HB.out | apply below_alloc | apply pw_below_drewN | apply below_drew1 | refine below_set ?_ GE202.out | refine below_set ?_ GE203.out) | exact HB.out)⟩⟩
        · rw [if_neg c8] at H
          have c8b0 : (a0_3 != a1_3) = false := by simpa using c8
          (try (have c8b1 : decide (a0_3 = a1_3) = true := by simpa using c8))
          (try (have c8b2 : (a0_3 == a1_3) = true := by simpa using c8))
          clear c8
          have H' := Aside0.mk H
          clear H
          have hnb14 := NB202_203.out
          have hnc14 := NB203_202.out
          have hcz15_0 : w5.cell? ⟨gb202, 0, none⟩ = some (.int .u64 a0_0) := (blk_cell BK202.out 0).trans rfl
          have hcz15_1 : w5.cell? ⟨gb202, 1, none⟩ = some (.slice A0_1 l0_1.length c0_1) := (blk_cell BK202.out 1).trans rfl
          have hcz15_2 : w5.cell? ⟨gb202, 2, none⟩ = some (.slice A0_2 l0_2.length c0_2) := (blk_cell BK202.out 2).trans rfl
          have hcz15_3 : w5.cell? ⟨gb202, 3, none⟩ = some (.bool a0_3) := (blk_cell BK202.out 3).trans rfl
          have hfz15_0 := blk_frozen BK202.out 0
          have hfz15_1 := blk_frozen BK202.out 1
          have hfz15_2 := blk_frozen BK202.out 2
          have hfz15_3 := blk_frozen BK202.out 3
          have hcz16_0 : w5.cell? ⟨gb203, 0, none⟩ = some (.int .u64 a1_0) := (blk_cell BK203.out 0).trans rfl
          have hcz16_1 : w5.cell? ⟨gb203, 1, none⟩ = some (.slice A1_1 l1_1.length c1_1) := (blk_cell BK203.out 1).trans rfl
          have hcz16_2 : w5.cell? ⟨gb203, 2, none⟩ = some (.slice A1_2 l1_2.length c1_2) := (blk_cell BK203.out 2).trans rfl
          have hcz16_3 : w5.cell? ⟨gb203, 3, none⟩ = some (.bool a1_3) := (blk_cell BK203.out 3).trans rfl
          have hfz16_0 := blk_frozen BK203.out 0
          have hfz16_1 := blk_frozen BK203.out 1
          have hfz16_2 := blk_frozen BK203.out 2
          have hfz16_3 := blk_frozen BK203.out 3
          have hcv17 := Kd.C_string (P := Try.prog) (A := A0_1) (c := c0_1) Try.underlying36 Try.underlying5 Try.underlying9 (Kd.C_below HR0_1.out HB.out)
          have hcv18 := Kd.C_string (P := Try.prog) (A := A1_1) (c := c1_1) Try.underlying36 Try.underlying5 Try.underlying9 (Kd.C_below HR1_1.out HB.out)
          go_wp2
          go_meet
          case rel => exact ⟨_, (((l0_2.length : Int) != (l1_2.length : Int))), (by first | rfl | (simp; done) | (simp [*]; done)), H', ⟨by first | omega | exact Nat.le_refl _⟩, ⟨by (with_reducible repeat (first | refine blk_drewN ?_ _ | refine blk_drew ?_ | refine blk_alloc ?_ _)); exact BK202.out⟩, ⟨by (with_reducible repeat (first | refine blk_drewN ?_ _ | refine blk_drew ?_ | refine blk_alloc ?_ _)); exact BK203.out⟩, ⟨by repeat (first | (with_reducible first | exact HB.out | apply below_alloc | apply pw_below_drewN | apply below_drew1 | refine below_set ?_ GE202.out | refine below_set ?_ GE203.out) | exact HB.out)⟩⟩
      · rw [if_neg c7] at H
        have c7b0 : ((strOfNums l0_1).toList == (strOfNums l1_1).toList) = false := beq_eq_false_iff_ne.mpr c7
        have c7b1 : ((strOfNums l0_1).toList != (strOfNums l1_1).toList) = true := bne_iff_ne.mpr c7
        have H' := Aside0.mk H
        clear H
        have hnb19 := NB202_203.out
        have hnc19 := NB203_202.out
        have hcz20_0 : w5.cell? ⟨gb202, 0, none⟩ = some (.int .u64 a0_0) := (blk_cell BK202.out 0).trans rfl
        have hcz20_1 : w5.cell? ⟨gb202, 1, none⟩ = some (.slice A0_1 l0_1.length c0_1) := (blk_cell BK202.out 1).trans rfl
        have hcz20_2 : w5.cell? ⟨gb202, 2, none⟩ = some (.slice A0_2 l0_2.length c0_2) := (blk_cell BK202.out 2).trans rfl
        have hcz20_3 : w5.cell? ⟨gb202, 3, none⟩ = some (.bool a0_3) := (blk_cell BK202.out 3).trans rfl
        have hfz20_0 := blk_frozen BK202.out 0
        have hfz20_1 := blk_frozen BK202.out 1
        have hfz20_2 := blk_frozen BK202.out 2
        have hfz20_3 := blk_frozen BK202.out 3
        have hcz21_0 : w5.cell? ⟨gb203, 0, none⟩ = some (.int .u64 a1_0) := (blk_cell BK203.out 0).trans rfl
        have hcz21_1 : w5.cell? ⟨gb203, 1, none⟩ = some (.slice A1_1 l1_1.length c1_1) := (blk_cell BK203.out 1).trans rfl
        have hcz21_2 : w5.cell? ⟨gb203, 2, none⟩ = some (.slice A1_2 l1_2.length c1_2) := (blk_cell BK203.out 2).trans rfl
        have hcz21_3 : w5.cell? ⟨gb203, 3, none⟩ = some (.bool a1_3) := (blk_cell BK203.out 3).trans rfl
        have hfz21_0 := blk_frozen BK203.out 0
        have hfz21_1 := blk_frozen BK203.out 1
        have hfz21_2 := blk_frozen BK203.out 2
        have hfz21_3 := blk_frozen BK203.out 3
        have hcv22 := Kd.C_string (P := Try.prog) (A := A0_1) (c := c0_1) Try.underlying36 Try.underlying5 Try.underlying9 (Kd.C_below HR0_1.out HB.out)
        have hcv23 := Kd.C_string (P := Try.prog) (A := A1_1) (c := c1_1) Try.underlying36 Try.underlying5 Try.underlying9 (Kd.C_below HR1_1.out HB.out)
        go_wp2
        go_meet
        case rel => exact ⟨_, (true), (by first | rfl | (simp; done) | (simp [*]; done)), H', ⟨by first | omega | exact Nat.le_refl _⟩, ⟨by (with_reducible repeat (first | refine blk_drewN ?_ _ | refine blk_drew ?_ | refine blk_alloc ?_ _)); exact BK202.out⟩, ⟨by (with_reducible repeat (first | refine blk_drewN ?_ _ | refine blk_drew ?_ | refine blk_alloc ?_ _)); exact BK203.out⟩, ⟨by repeat (first | (with_reducible first | exact HB.out | apply below_alloc | apply pw_below_drewN | apply below_drew1 | refine below_set ?_ GE202.out | refine below_set ?_ GE203.out) | exact HB.out)⟩⟩
    · rw [if_neg c6] at H
      have c6b0 : (a0_0 == a1_0) = false := beq_eq_false_iff_ne.mpr c6
      have c6b1 : (a0_0 != a1_0) = true := bne_iff_ne.mpr c6
      (first | rw [c6b0] | (simp only [i64_w, i32_w]; rw [c6b0]) | skip)
      have H' := Aside0.mk H
      clear H
      have hnb24 := NB202_203.out
      have hnc24 := NB203_202.out
      have hcz25_0 : w5.cell? ⟨gb202, 0, none⟩ = some (.int .u64 a0_0) := (blk_cell BK202.out 0).trans rfl
      have hcz25_1 : w5.cell? ⟨gb202, 1, none⟩ = some (.slice A0_1 l0_1.length c0_1) := (blk_cell BK202.out 1).trans rfl
      have hcz25_2 : w5.cell? ⟨gb202, 2, none⟩ = some (.slice A0_2 l0_2.length c0_2) := (blk_cell BK202.out 2).trans rfl
      have hcz25_3 : w5.cell? ⟨gb202, 3, none⟩ = some (.bool a0_3) := (blk_cell BK202.out 3).trans rfl
      have hfz25_0 := blk_frozen BK202.out 0
      have hfz25_1 := blk_frozen BK202.out 1
      have hfz25_2 := blk_frozen BK202.out 2
      have hfz25_3 := blk_frozen BK202.out 3
      have hcz26_0 : w5.cell? ⟨gb203, 0, none⟩ = some (.int .u64 a1_0) := (blk_cell BK203.out 0).trans rfl
      have hcz26_1 : w5.cell? ⟨gb203, 1, none⟩ = some (.slice A1_1 l1_1.length c1_1) := (blk_cell BK203.out 1).trans rfl
      have hcz26_2 : w5.cell? ⟨gb203, 2, none⟩ = some (.slice A1_2 l1_2.length c1_2) := (blk_cell BK203.out 2).trans rfl
      have hcz26_3 : w5.cell? ⟨gb203, 3, none⟩ = some (.bool a1_3) := (blk_cell BK203.out 3).trans rfl
      have hfz26_0 := blk_frozen BK203.out 0
      have hfz26_1 := blk_frozen BK203.out 1
      have hfz26_2 := blk_frozen BK203.out 2
      have hfz26_3 := blk_frozen BK203.out 3
      go_wp2
      go_meet
      case rel => exact ⟨_, (true), (by first | rfl | (simp; done) | (simp [*]; done)), H', ⟨by first | omega | exact Nat.le_refl _⟩, ⟨by (with_reducible repeat (first | refine blk_drewN ?_ _ | refine blk_drew ?_ | refine blk_alloc ?_ _)); exact BK202.out⟩, ⟨by (with_reducible repeat (first | refine blk_drewN ?_ _ | refine blk_drew ?_ | refine blk_alloc ?_ _)); exact BK203.out⟩, ⟨by repeat (first | (with_reducible first | exact HB.out | apply below_alloc | apply pw_below_drewN | apply below_drew1 | refine below_set ?_ GE202.out | refine below_set ?_ GE203.out) | exact HB.out)⟩⟩
  case rest =>
    clear HC3
    try clear c1
    try clear hcv1
    try clear c2
    try clear p2
    try clear hcv2
    try clear c6
    try clear c6b0
    try clear c6b1
    try clear c7
    try clear c7b0
    try clear c7b1
    try clear c8
    try clear c8b0
    try clear c8b1
    try clear c8b2
    try clear c9
    try clear c10
    try clear hcv12
    try clear hcv13
    try clear c14
    try clear hcv17
    try clear hcv18
    try clear c19
    try clear hcv22
    try clear hcv23
    try clear c24
    try clear hcz10_0
    try clear hcz10_1
    try clear hcz10_2
    try clear hcz10_3
    try clear hcz11_0
    try clear hcz11_1
    try clear hcz11_2
    try clear hcz11_3
    try clear hcz15_0
    try clear hcz15_1
    try clear hcz15_2
    try clear hcz15_3
    try clear hcz16_0
    try clear hcz16_1
    try clear hcz16_2
    try clear hcz16_3
    try clear hcz20_0
    try clear hcz20_1
    try clear hcz20_2
    try clear hcz20_3
    try clear hcz21_0
    try clear hcz21_1
    try clear hcz21_2
    try clear hcz21_3
    try clear hcz25_0
    try clear hcz25_1
    try clear hcz25_2
    try clear hcz25_3
    try clear hcz26_0
    try clear hcz26_1
    try clear hcz26_2
    try clear hcz26_3
    try clear hfz10_0
    try clear hfz10_1
    try clear hfz10_2
    try clear hfz10_3
    try clear hfz11_0
    try clear hfz11_1
    try clear hfz11_2
    try clear hfz11_3
    try clear hfz15_0
    try clear hfz15_1
    try clear hfz15_2
    try clear hfz15_3
    try clear hfz16_0
    try clear hfz16_1
    try clear hfz16_2
    try clear hfz16_3
    try clear hfz20_0
    try clear hfz20_1
    try clear hfz20_2
    try clear hfz20_3
    try clear hfz21_0
    try clear hfz21_1
    try clear hfz21_2
    try clear hfz21_3
    try clear hfz25_0
    try clear hfz25_1
    try clear hfz25_2
    try clear hfz25_3
    try clear hfz26_0
    try clear hfz26_1
    try clear hfz26_2
    try clear hfz26_3
    obtain ⟨kq, x35_2, rfl, HA, HJ2, BK202, BK203, HB⟩ := hcut
    cases kq with
    | zero => exact absurd HA.out (by simp [transomref05_Same.j0])
    | succ kj2 =>
      have H := HA.out
      clear HA
      simp only [transomref05_Same.j0] at H
      by_cases c27 : x35_2 = true
      · subst c27
        have H1 : (some false) = some r := by rw [if_pos rfl] at H; exact H
        clear H
        have H := H1
        clear H1
        obtain rfl := Option.some.inj H
        go_wp2
        go_ret
        exact ⟨by first | rfl | (simp [errW_none, errW_some] <;> rfl) | (simp [*, errW_none, errW_some] <;> rfl), by repeat (first | (with_reducible first | exact HB.out | apply below_alloc | apply pw_below_drewN | apply below_drew1 | refine below_set ?_ GE202.out | refine below_set ?_ GE203.out) | exact HB.out)⟩
      · replace c27 := Bool.eq_false_iff.mpr c27
        subst c27
        have H1 : (transomref05_Same.l0 kj2 0 a0_0 l0_1 l0_2 a0_3 a1_0 l1_1 l1_2 a1_3) = some r := by rw [if_neg (show ¬ (false = true) by decide)] at H; exact H
        clear H
        have H := H1
        clear H1
        have H' := Aside0.mk H
        clear H
        go_wp2
        go_loopg [5] kj2 (fun kq v5 w' => ∃ (x5_2 : Int), v5 = .int .i64 x5_2 ∧ Aside0 (transomref05_Same.l0 kq x5_2 a0_0 l0_1 l0_2 a0_3 a1_0 l1_1 l1_2 a1_3 = some r) ∧ Aside0 (kq ≤ kj2) ∧ Aside0 (w'.heap[gb202]? = some (.cells #[.int .u64 a0_0, (.slice A0_1 l0_1.length c0_1), (.slice A0_2 l0_2.length c0_2), .bool a0_3] 39 (0, 0))) ∧ Aside0 (w'.heap[gb203]? = some (.cells #[.int .u64 a1_0, (.slice A1_1 l1_1.length c1_1), (.slice A1_2 l1_2.length c1_2), .bool a1_3] 39 (0, 0))) ∧ Aside0 (Below w.heap.size w w'))
        case atStart => exact ⟨(0), (by first | rfl | (simp; done) | (simp [*]; done)), H', ⟨Nat.le_refl _⟩, ⟨by (with_reducible repeat (first | refine blk_drewN ?_ _ | refine blk_drew ?_ | refine blk_alloc ?_ _)); exact BK202.out⟩, ⟨by (with_reducible repeat (first | refine blk_drewN ?_ _ | refine blk_drew ?_ | refine blk_alloc ?_ _)); exact BK203.out⟩, ⟨by repeat (first | (with_reducible first | exact HB.out | apply below_alloc | apply pw_below_drewN | apply below_drew1 | refine below_set ?_ GE202.out | refine below_set ?_ GE203.out) | exact HB.out)⟩⟩
        case round =>
          clear H'
          try clear c1
          try clear hcv1
          try clear c2
          try clear p2
          try clear hcv2
          try clear c6
          try clear c6b0
          try clear c6b1
          try clear c7
          try clear c7b0
          try clear c7b1
          try clear c8
          try clear c8b0
          try clear c8b1
          try clear c8b2
          try clear c9
          try clear c10
          try clear hcv12
          try clear hcv13
          try clear c14
          try clear hcv17
          try clear hcv18
          try clear c19
          try clear hcv22
          try clear hcv23
          try clear c24
          try clear c27
          try clear hcz10_0
          try clear hcz10_1
          try clear hcz10_2
          try clear hcz10_3
          try clear hcz11_0
          try clear hcz11_1
          try clear hcz11_2
          try clear hcz11_3
          try clear hcz15_0
          try clear hcz15_1
          try clear hcz15_2
          try clear hcz15_3
          try clear hcz16_0
          try clear hcz16_1
          try clear hcz16_2
          try clear hcz16_3
          try clear hcz20_0
          try clear hcz20_1
          try clear hcz20_2
          try clear hcz20_3
          try clear hcz21_0
          try clear hcz21_1
          try clear hcz21_2
          try clear hcz21_3
          try clear hcz25_0
          try clear hcz25_1
          try clear hcz25_2
          try clear hcz25_3
          try clear hcz26_0
          try clear hcz26_1
          try clear hcz26_2
          try clear hcz26_3
          try clear hfz10_0
          try clear hfz10_1
          try clear hfz10_2
          try clear hfz10_3
          try clear hfz11_0
          try clear hfz11_1
          try clear hfz11_2
          try clear hfz11_3
          try clear hfz15_0
          try clear hfz15_1
          try clear hfz15_2
          try clear hfz15_3
          try clear hfz16_0
          try clear hfz16_1
          try clear hfz16_2
          try clear hfz16_3
          try clear hfz20_0
          try clear hfz20_1
          try clear hfz20_2
          try clear hfz20_3
          try clear hfz21_0
          try clear hfz21_1
          try clear hfz21_2
          try clear hfz21_3
          try clear hfz25_0
          try clear hfz25_1
          try clear hfz25_2
          try clear hfz25_3
          try clear hfz26_0
          try clear hfz26_1
          try clear hfz26_2
          try clear hfz26_3
          try clear p2
          obtain ⟨x5_2, rfl, HA, HK2, BK202, BK203, HB⟩ := hrel
          cases gk with
          | zero => exact absurd HA.out (by simp [transomref05_Same.l0])
          | succ k2 =>
            have H := HA.out
            clear HA
            simp only [transomref05_Same.l0] at H
            by_cases c28 : x5_2 < (l0_2.length : Int)
            · rw [if_pos c28] at H
              have c28b0 : decide (x5_2 < (l0_2.length : Int)) = true := decide_eq_true c28
              clear c28
              by_cases c29 : 0 ≤ x5_2
              · rw [if_pos c29] at H
                have c29b0 : decide (0 ≤ x5_2) = true := decide_eq_true c29
                clear c29
                by_cases c30 : x5_2 < (l1_2.length : Int)
                · rw [if_pos c30] at H
                  have c30b0 : decide (x5_2 < (l1_2.length : Int)) = true := decide_eq_true c30
                  clear c30
                  replace H := Option.bind_eq_some_iff.mp H
                  obtain ⟨t206, A310, H⟩ := H
                  replace H : (if t206 = true then (transomref05_Same.l0 k2 (wrap64 (x5_2 + 1)) a0_0 l0_1 l0_2 a0_3 a1_0 l1_1 l1_2 a1_3) else (some false)) = some r := H
                  have A31 := Aside0.mk A310
                  clear A310
                  by_cases c32 : t206 = true
                  · subst c32
                    have H1 : (transomref05_Same.l0 k2 (wrap64 (x5_2 + 1)) a0_0 l0_1 l0_2 a0_3 a1_0 l1_1 l1_2 a1_3) = some r := by rw [if_pos rfl] at H; exact H
                    clear H
                    have H := H1
                    clear H1
                    have H' := Aside0.mk H
                    clear H
                    have hnb33 := NB202_203.out
                    have hnc33 := NB203_202.out
                    have hcz34_0 : wr.cell? ⟨gb202, 0, none⟩ = some (.int .u64 a0_0) := (blk_cell BK202.out 0).trans rfl
                    have hcz34_1 : wr.cell? ⟨gb202, 1, none⟩ = some (.slice A0_1 l0_1.length c0_1) := (blk_cell BK202.out 1).trans rfl
                    have hcz34_2 : wr.cell? ⟨gb202, 2, none⟩ = some (.slice A0_2 l0_2.length c0_2) := (blk_cell BK202.out 2).trans rfl
                    have hcz34_3 : wr.cell? ⟨gb202, 3, none⟩ = some (.bool a0_3) := (blk_cell BK202.out 3).trans rfl
                    have hfz34_0 := blk_frozen BK202.out 0
                    have hfz34_1 := blk_frozen BK202.out 1
                    have hfz34_2 := blk_frozen BK202.out 2
                    have hfz34_3 := blk_frozen BK202.out 3
                    try go_wp2
                    have n0_ := Aside0.mk (blk_drew BK202.out)
                    have n1_ := Aside0.mk (blk_drew BK203.out)
                    have n2_ := Aside0.mk (below_drew1 HB.out)
                    clear BK202
                    clear BK203
                    clear HB
                    have BK202 := n0_
                    have BK203 := n1_
                    have HB := n2_
                    clear n0_ n1_ n2_
                    have p204 : 0 ≤ (x5_2 : Int) := of_decide_eq_true (by first | (with_reducible assumption) | assumption)
                    have q204 : x5_2 < (l0_2.length : Int) := of_decide_eq_true (by first | (with_reducible assumption) | assumption)
                    obtain ⟨ad204, A204_1, c204_1, A204_2, c204_2, e204, hx204_0, hx204_1, hx204_2, hx204_3, hl204_1, hi204_1, hl204_2, hi204_2⟩ := at_T39 HR0_2.out x5_2 p204 q204
                    have hw204_3 := hx204_3
                    have hw204_2 := hx204_2
                    have hw204_1 := hx204_1
                    have hw204_0 := hx204_0
                    cases e204
                    replace hx204_0 := (HB.out.cell (World.block_lt_of_cell? w _ hx204_0)).trans hx204_0
                    replace hx204_1 := (HB.out.cell (World.block_lt_of_cell? w _ hx204_1)).trans hx204_1
                    replace hx204_2 := (HB.out.cell (World.block_lt_of_cell? w _ hx204_2)).trans hx204_2
                    replace hx204_3 := (HB.out.cell (World.block_lt_of_cell? w _ hx204_3)).trans hx204_3
                    have HR204_1 := Aside0.mk hi204_1
                    have HC204_1 := Aside0.mk hl204_1
                    clear hi204_1 hl204_1
                    have HR204_2 := Aside0.mk hi204_2
                    have HC204_2 := Aside0.mk hl204_2
                    clear hi204_2 hl204_2
                    replace p204 := eq_true p204
                    replace q204 := eq_true q204
                    have p205 : 0 ≤ (x5_2 : Int) := of_decide_eq_true (by first | (with_reducible assumption) | assumption)
                    have q205 : x5_2 < (l1_2.length : Int) := of_decide_eq_true (by first | (with_reducible assumption) | assumption)
                    obtain ⟨ad205, A205_1, c205_1, A205_2, c205_2, e205, hx205_0, hx205_1, hx205_2, hx205_3, hl205_1, hi205_1, hl205_2, hi205_2⟩ := at_T39 HR1_2.out x5_2 p205 q205
                    have hw205_3 := hx205_3
                    have hw205_2 := hx205_2
                    have hw205_1 := hx205_1
                    have hw205_0 := hx205_0
                    cases e205
                    replace hx205_0 := (HB.out.cell (World.block_lt_of_cell? w _ hx205_0)).trans hx205_0
                    replace hx205_1 := (HB.out.cell (World.block_lt_of_cell? w _ hx205_1)).trans hx205_1
                    replace hx205_2 := (HB.out.cell (World.block_lt_of_cell? w _ hx205_2)).trans hx205_2
                    replace hx205_3 := (HB.out.cell (World.block_lt_of_cell? w _ hx205_3)).trans hx205_3
                    have HR205_1 := Aside0.mk hi205_1
                    have HC205_1 := Aside0.mk hl205_1
                    clear hi205_1 hl205_1
                    have HR205_2 := Aside0.mk hi205_2
                    have HC205_2 := Aside0.mk hl205_2
                    clear hi205_2 hl205_2
                    replace p205 := eq_true p205
                    replace q205 := eq_true q205
                    refine start_ (n := 12) (S := fun w' => w'.cell? ⟨gb202, 0, none⟩ = some (.int .u64 a0_0) ∧ w'.cell? ⟨gb202, 1, none⟩ = some (.slice A0_1 l0_1.length c0_1) ∧ w'.cell? ⟨gb202, 2, none⟩ = some (.slice (some ad204) l0_2.length c0_2) ∧ w'.cell? ⟨gb202, 3, none⟩ = some (.bool a0_3) ∧ w'.cell? ⟨gb203, 0, none⟩ = some (.int .u64 a1_0) ∧ w'.cell? ⟨gb203, 1, none⟩ = some (.slice A1_1 l1_1.length c1_1) ∧ w'.cell? ⟨gb203, 2, none⟩ = some (.slice (some ad205) l1_2.length c1_2) ∧ w'.cell? ⟨gb203, 3, none⟩ = some (.bool a1_3) ∧ w'.cell? (ad204.add ((x5_2).toNat * 4)) = some (.int .u64 ((rd_T39 l0_2 x5_2).f0)) ∧ w'.cell? ⟨(ad204.add ((x5_2).toNat * 4)).block, (ad204.add ((x5_2).toNat * 4)).off + 1, none⟩ = some (.slice A204_1 ((rd_T39 l0_2 x5_2).f1).length c204_1) ∧ w'.cell? ⟨(ad204.add ((x5_2).toNat * 4)).block, (ad204.add ((x5_2).toNat * 4)).off + 2, none⟩ = some (.slice A204_2 ((rd_T39 l0_2 x5_2).f2).length c204_2) ∧ w'.cell? ⟨(ad204.add ((x5_2).toNat * 4)).block, (ad204.add ((x5_2).toNat * 4)).off + 3, none⟩ = some (.bool ((rd_T39 l0_2 x5_2).f3)) ∧ w'.cell? (ad205.add ((x5_2).toNat * 4)) = some (.int .u64 ((rd_T39 l1_2 x5_2).f0)) ∧ w'.cell? ⟨(ad205.add ((x5_2).toNat * 4)).block, (ad205.add ((x5_2).toNat * 4)).off + 1, none⟩ = some (.slice A205_1 ((rd_T39 l1_2 x5_2).f1).length c205_1) ∧ w'.cell? ⟨(ad205.add ((x5_2).toNat * 4)).block, (ad205.add ((x5_2).toNat * 4)).off + 2, none⟩ = some (.slice A205_2 ((rd_T39 l1_2 x5_2).f2).length c205_2) ∧ w'.cell? ⟨(ad205.add ((x5_2).toNat * 4)).block, (ad205.add ((x5_2).toNat * 4)).off + 3, none⟩ = some (.bool ((rd_T39 l1_2 x5_2).f3))) (ds := []) #[false, false, false, false, false, false, false, false, false, false, false, false] (by kernel_rfl) rfl rfl ⟨(blk_cell BK202.out 0).trans rfl, (blk_cell BK202.out 1).trans rfl, (blk_cell BK202.out 2).trans rfl, (blk_cell BK202.out 3).trans rfl, (blk_cell BK203.out 0).trans rfl, (blk_cell BK203.out 1).trans rfl, (blk_cell BK203.out 2).trans rfl, (blk_cell BK203.out 3).trans rfl, ((HB.out.cell (World.block_lt_of_cell? w _ hw204_0)).trans hw204_0), ((HB.out.cell (World.block_lt_of_cell? w _ hw204_1)).trans hw204_1), ((HB.out.cell (World.block_lt_of_cell? w _ hw204_2)).trans hw204_2), ((HB.out.cell (World.block_lt_of_cell? w _ hw204_3)).trans hw204_3), ((HB.out.cell (World.block_lt_of_cell? w _ hw205_0)).trans hw205_0), ((HB.out.cell (World.block_lt_of_cell? w _ hw205_1)).trans hw205_1), ((HB.out.cell (World.block_lt_of_cell? w _ hw205_2)).trans hw205_2), ((HB.out.cell (World.block_lt_of_cell? w _ hw205_3)).trans hw205_3)⟩ (fun hHeld => ?_); refine with_tabW transomref05_Same.tab6 transomref05_Same.bits6 (fun HT_ HW_ => ?_)
                    generalize wr.drew = w35 at BK202 BK203 HB HR204_1 HR204_2 HR205_1 HR205_2 hx204_0 hx204_1 hx204_2 hx204_3 hx205_0 hx205_1 hx205_2 hx205_3 hHeld ⊢
                    refine pure_ (i := 0) (N := some 43) (v := ?_) (a' := ?_) #[true, false, false, false, false, false, false, false, false, false, false, false] rfl rfl (any_of HT_.out (by kernel_rfl)) (fun _ _ _ h => h) (Or.inl ⟨by rfl, ?_⟩) ?_ ?_
                    rotate_left
                    · intro w'
                      go_simp
                      with_reducible rfl
                    rotate_left
                    · simp only [Act.put, List.setIfInBounds_toArray, List.set_cons_zero, List.set_cons_succ, i64_w, i32_w]
                      rfl
                    refine pure_ (i := 2) (N := some 45) (v := ?_) (a' := ?_) #[true, false, true, false, false, false, false, false, false, false, false, false] rfl rfl (any_of HT_.out (by kernel_rfl)) (fun _ _ _ h => h) (Or.inl ⟨by rfl, ?_⟩) ?_ ?_
                    rotate_left
                    · intro w'
                      go_simp
                      with_reducible rfl
                    rotate_left
                    · simp only [Act.put, List.setIfInBounds_toArray, List.set_cons_zero, List.set_cons_succ, i64_w, i32_w]
                      rfl
                    refine pure_ (i := 5) (N := some 48) (v := ?_) (a' := ?_) #[true, false, true, false, false, true, false, false, false, false, false, false] rfl rfl (any_of HT_.out (by kernel_rfl)) (fun _ _ _ h => h) (Or.inl ⟨by rfl, ?_⟩) ?_ ?_
                    rotate_left
                    · intro w'
                      go_simp
                      with_reducible rfl
                    rotate_left
                    · simp only [Act.put, List.setIfInBounds_toArray, List.set_cons_zero, List.set_cons_succ, i64_w, i32_w]
                      rfl
                    refine pure_ (i := 7) (N := some 50) (v := ?_) (a' := ?_) #[true, false, true, false, false, true, false, true, false, false, false, false] rfl rfl (any_of HT_.out (by kernel_rfl)) (fun _ _ _ h => h) (Or.inl ⟨by rfl, ?_⟩) ?_ ?_
                    rotate_left
                    · intro w'
                      go_simp
                      with_reducible rfl
                    rotate_left
                    · simp only [Act.put, List.setIfInBounds_toArray, List.set_cons_zero, List.set_cons_succ, i64_w, i32_w]
                      rfl
                    refine take_ (i := 1) (N := some 44) (v := ?_) (a' := ?_) #[true, true, true, false, false, true, false, true, false, false, false, false] rfl rfl (take_ofW HT_.out HW_.out (by kernel_rfl)) (fun _ _ _ h => h) (Or.inl ⟨by rfl, ?_⟩) hHeld ?_ ?_
                    rotate_left
                    · rintro w' ⟨s0, s1, s2, s3, s4, s5, s6, s7, s8, s9, s10, s11, s12, s13, s14, s15⟩
                      go_simp
                      with_reducible rfl
                    rotate_left
                    · simp only [Act.put, List.setIfInBounds_toArray, List.set_cons_zero, List.set_cons_succ, i64_w, i32_w]
                      rfl
                    refine pure_ (i := 3) (N := some 46) (v := ?_) (a' := ?_) #[true, true, true, true, false, true, false, true, false, false, false, false] rfl rfl (any_of HT_.out (by kernel_rfl)) (fun _ _ _ h => h) (Or.inl ⟨by rfl, ?_⟩) ?_ ?_
                    rotate_left
                    · intro w'
                      go_simp
                      with_reducible rfl
                    rotate_left
                    · simp only [Act.put, List.setIfInBounds_toArray, List.set_cons_zero, List.set_cons_succ, i64_w, i32_w]
                      rfl
                    refine take_ (i := 4) (N := some 47) (v := ?_) (a' := ?_) #[true, true, true, true, true, true, false, true, false, false, false, false] rfl rfl (take_ofW HT_.out HW_.out (by kernel_rfl)) (fun _ _ _ h => h) (Or.inl ⟨by rfl, ?_⟩) hHeld ?_ ?_
                    rotate_left
                    · rintro w' ⟨s0, s1, s2, s3, s4, s5, s6, s7, s8, s9, s10, s11, s12, s13, s14, s15⟩
                      go_simp
                      with_reducible rfl
                    rotate_left
                    · simp only [Act.put, List.setIfInBounds_toArray, List.set_cons_zero, List.set_cons_succ, i64_w, i32_w]
                      rfl
                    refine take_ (i := 6) (N := some 49) (v := ?_) (a' := ?_) #[true, true, true, true, true, true, true, true, false, false, false, false] rfl rfl (take_ofW HT_.out HW_.out (by kernel_rfl)) (fun _ _ _ h => h) (Or.inl ⟨by rfl, ?_⟩) hHeld ?_ ?_
                    rotate_left
                    · rintro w' ⟨s0, s1, s2, s3, s4, s5, s6, s7, s8, s9, s10, s11, s12, s13, s14, s15⟩
                      go_simp
                      with_reducible rfl
                    rotate_left
                    · simp only [Act.put, List.setIfInBounds_toArray, List.set_cons_zero, List.set_cons_succ, i64_w, i32_w]
                      rfl
                    refine pure_ (i := 8) (N := some 51) (v := ?_) (a' := ?_) #[true, true, true, true, true, true, true, true, true, false, false, false] rfl rfl (any_of HT_.out (by kernel_rfl)) (fun _ _ _ h => h) (Or.inl ⟨by rfl, ?_⟩) ?_ ?_
                    rotate_left
                    · intro w'
                      go_simp
                      with_reducible rfl
                    rotate_left
                    · simp only [Act.put, List.setIfInBounds_toArray, List.set_cons_zero, List.set_cons_succ, i64_w, i32_w]
                      rfl
                    refine take_ (i := 9) (N := some 52) (v := ?_) (a' := ?_) #[true, true, true, true, true, true, true, true, true, true, false, false] rfl rfl (take_ofW HT_.out HW_.out (by kernel_rfl)) (fun _ _ _ h => h) (Or.inl ⟨by rfl, ?_⟩) hHeld ?_ ?_
                    rotate_left
                    · rintro w' ⟨s0, s1, s2, s3, s4, s5, s6, s7, s8, s9, s10, s11, s12, s13, s14, s15⟩
                      go_simp
                      with_reducible rfl
                    rotate_left
                    · simp only [Act.put, List.setIfInBounds_toArray, List.set_cons_zero, List.set_cons_succ, i64_w, i32_w]
                      rfl
                    refine one_ (i := 10) (N := some 53) #[true, true, true, true, true, true, true, true, true, true, true, false] rfl rfl (one_of HT_.out (by kernel_rfl)) (by decide) (fun K hK => ?_)
                    refine goes_ Try.func10 (by kernel_rfl) rfl #[.agg #[.int .u64 ((rd_T39 l0_2 x5_2).f0), .slice A204_1 ((rd_T39 l0_2 x5_2).f1).length c204_1, .slice A204_2 ((rd_T39 l0_2 x5_2).f2).length c204_2, .bool ((rd_T39 l0_2 x5_2).f3)], .agg #[.int .u64 ((rd_T39 l1_2 x5_2).f0), .slice A205_1 ((rd_T39 l1_2 x5_2).f1).length c205_1, .slice A205_2 ((rd_T39 l1_2 x5_2).f2).length c205_2, .bool ((rd_T39 l1_2 x5_2).f3)]] (by rfl) rfl rfl (by (try simp only [List.map_toArray, List.map_cons, List.map_nil]); first | done | rfl | (simp only [List.length_drop, List.length_take]; rfl)) ?_
                    with_reducible refine (ih k2 (by have := HJ2.out; have := HK2.out; omega) ((rd_T39 l0_2 x5_2).f0) _ _ ((rd_T39 l0_2 x5_2).f1) _ _ ((rd_T39 l0_2 x5_2).f2) ((rd_T39 l0_2 x5_2).f3) ((rd_T39 l1_2 x5_2).f0) _ _ ((rd_T39 l1_2 x5_2).f1) _ _ ((rd_T39 l1_2 x5_2).f2) ((rd_T39 l1_2 x5_2).f3) true _ ?side1 ?side2 ?side3 ?side4 ?side5 ?side6 ?side7 ?side8 A31.out).mono ?_
                    (case side1 => repeat (first | exact (Kd.C_below HR204_1.out HB.out) | (with_reducible refine Kd.C_alloc ?_ _) | (with_reducible refine Kd.C_drewN ?_ _) | (with_reducible refine Kd.C_drew ?_)))
                    (case side2 => exact HC204_1.out)
                    (case side3 => repeat (first | exact (Kd.C_below HR204_2.out HB.out) | (with_reducible refine Kd.C_alloc ?_ _) | (with_reducible refine Kd.C_drewN ?_ _) | (with_reducible refine Kd.C_drew ?_)))
                    (case side4 => exact HC204_2.out)
                    (case side5 => repeat (first | exact (Kd.C_below HR205_1.out HB.out) | (with_reducible refine Kd.C_alloc ?_ _) | (with_reducible refine Kd.C_drewN ?_ _) | (with_reducible refine Kd.C_drew ?_)))
                    (case side6 => exact HC205_1.out)
                    (case side7 => repeat (first | exact (Kd.C_below HR205_2.out HB.out) | (with_reducible refine Kd.C_alloc ?_ _) | (with_reducible refine Kd.C_drewN ?_ _) | (with_reducible refine Kd.C_drew ?_)))
                    (case side8 => exact HC205_2.out)
                    rintro e w36 ⟨rfl, hb⟩
                    refine ⟨_, rfl, ?_⟩
                    have n0_ := Aside0.mk (blk_below (g := gb202) (o := .cells #[.int .u64 a0_0, .slice A0_1 l0_1.length c0_1, .slice (some ad204) l0_2.length c0_2, .bool a0_3] 39 (0, 0)) (by (with_reducible repeat (first | refine blk_drewN ?_ _ | refine blk_drew ?_ | refine blk_alloc ?_ _)); exact BK202.out) hb)
                    have n1_ := Aside0.mk (blk_below (g := gb203) (o := .cells #[.int .u64 a1_0, .slice A1_1 l1_1.length c1_1, .slice (some ad205) l1_2.length c1_2, .bool a1_3] 39 (0, 0)) (by (with_reducible repeat (first | refine blk_drewN ?_ _ | refine blk_drew ?_ | refine blk_alloc ?_ _)); exact BK203.out) hb)
                    have n2_ := Aside0.mk (below_step (by repeat (first | (with_reducible first | exact HB.out | apply below_alloc | apply pw_below_drewN | apply below_drew1 | refine below_set ?_ GE202.out | refine below_set ?_ GE203.out) | exact HB.out)) hb)
                    clear BK202
                    clear BK203
                    clear HB
                    have BK202 := n0_
                    have BK203 := n1_
                    have HB := n2_
                    clear n0_ n1_ n2_
                    (try clear hb)
                    (try clear hb2)
                    (try clear hk)
                    (try clear hi)
                    refine hK.out _ _ ⟨(blk_cell BK202.out 0).trans rfl, (blk_cell BK202.out 1).trans rfl, (blk_cell BK202.out 2).trans rfl, (blk_cell BK202.out 3).trans rfl, (blk_cell BK203.out 0).trans rfl, (blk_cell BK203.out 1).trans rfl, (blk_cell BK203.out 2).trans rfl, (blk_cell BK203.out 3).trans rfl, ((HB.out.cell (World.block_lt_of_cell? w _ hw204_0)).trans hw204_0), ((HB.out.cell (World.block_lt_of_cell? w _ hw204_1)).trans hw204_1), ((HB.out.cell (World.block_lt_of_cell? w _ hw204_2)).trans hw204_2), ((HB.out.cell (World.block_lt_of_cell? w _ hw204_3)).trans hw204_3), ((HB.out.cell (World.block_lt_of_cell? w _ hw205_0)).trans hw205_0), ((HB.out.cell (World.block_lt_of_cell? w _ hw205_1)).trans hw205_1), ((HB.out.cell (World.block_lt_of_cell? w _ hw205_2)).trans hw205_2), ((HB.out.cell (World.block_lt_of_cell? w _ hw205_3)).trans hw205_3)⟩ (fun hHeld => ?_)
                    clear hK K
                    refine norm_ (a' := ?_) ?_ ?_
                    rotate_left
                    · show Act.put _ (some 53) _ = _
                      simp only [Act.put, List.setIfInBounds_toArray, List.set_cons_zero, List.set_cons_succ, i64_w, i32_w]
                      rfl
                    refine pure_ (i := 11) (N := some 54) (v := ?_) (a' := ?_) #[true, true, true, true, true, true, true, true, true, true, true, true] rfl rfl (any_of HT_.out (by kernel_rfl)) (fun _ _ _ h => h) (Or.inl ⟨by rfl, ?_⟩) ?_ ?_
                    rotate_left
                    · intro w'
                      go_simp
                      with_reducible rfl
                    rotate_left
                    · simp only [Act.put, List.setIfInBounds_toArray, List.set_cons_zero, List.set_cons_succ, i64_w, i32_w]
                      rfl
                    refine done_ (done_of HT_.out (by kernel_rfl)) ?_
                    try go_wp2
                    go_roundg k2
                    case measure => have := HJ2.out; have := HK2.out; omega
                    case rel => exact ⟨(wrap64 (x5_2 + 1)), (by first | rfl | (simp; done) | (simp [*]; done)), H', ⟨by have := HJ2.out; have := HK2.out; omega⟩, ⟨by (with_reducible repeat (first | refine blk_drewN ?_ _ | refine blk_drew ?_ | refine blk_alloc ?_ _)); exact BK202.out⟩, ⟨by (with_reducible repeat (first | refine blk_drewN ?_ _ | refine blk_drew ?_ | refine blk_alloc ?_ _)); exact BK203.out⟩, ⟨by repeat (first | (with_reducible first | exact HB.out | apply below_alloc | apply pw_below_drewN | apply below_drew1 | refine below_set ?_ GE202.out | refine below_set ?_ GE203.out) | exact HB.out)⟩⟩
                  · replace c32 := Bool.eq_false_iff.mpr c32
                    subst c32
                    have H1 : (some false) = some r := by rw [if_neg (show ¬ (false = true) by decide)] at H; exact H
                    clear H
                    have H := H1
                    clear H1
                    obtain rfl := Option.some.inj H
                    have hnb37 := NB202_203.out
                    have hnc37 := NB203_202.out
                    have hcz38_0 : wr.cell? ⟨gb202, 0, none⟩ = some (.int .u64 a0_0) := (blk_cell BK202.out 0).trans rfl
                    have hcz38_1 : wr.cell? ⟨gb202, 1, none⟩ = some (.slice A0_1 l0_1.length c0_1) := (blk_cell BK202.out 1).trans rfl
                    have hcz38_2 : wr.cell? ⟨gb202, 2, none⟩ = some (.slice A0_2 l0_2.length c0_2) := (blk_cell BK202.out 2).trans rfl
                    have hcz38_3 : wr.cell? ⟨gb202, 3, none⟩ = some (.bool a0_3) := (blk_cell BK202.out 3).trans rfl
                    have hfz38_0 := blk_frozen BK202.out 0
                    have hfz38_1 := blk_frozen BK202.out 1
                    have hfz38_2 := blk_frozen BK202.out 2
                    have hfz38_3 := blk_frozen BK202.out 3
                    try go_wp2
                    have n0_ := Aside0.mk (blk_drew BK202.out)
                    have n1_ := Aside0.mk (blk_drew BK203.out)
                    have n2_ := Aside0.mk (below_drew1 HB.out)
                    clear BK202
                    clear BK203
                    clear HB
                    have BK202 := n0_
                    have BK203 := n1_
                    have HB := n2_
                    clear n0_ n1_ n2_
                    have p204 : 0 ≤ (x5_2 : Int) := of_decide_eq_true (by first | (with_reducible assumption) | assumption)
                    have q204 : x5_2 < (l0_2.length : Int) := of_decide_eq_true (by first | (with_reducible assumption) | assumption)
                    obtain ⟨ad204, A204_1, c204_1, A204_2, c204_2, e204, hx204_0, hx204_1, hx204_2, hx204_3, hl204_1, hi204_1, hl204_2, hi204_2⟩ := at_T39 HR0_2.out x5_2 p204 q204
                    have hw204_3 := hx204_3
                    have hw204_2 := hx204_2
                    have hw204_1 := hx204_1
                    have hw204_0 := hx204_0
                    cases e204
                    replace hx204_0 := (HB.out.cell (World.block_lt_of_cell? w _ hx204_0)).trans hx204_0
                    replace hx204_1 := (HB.out.cell (World.block_lt_of_cell? w _ hx204_1)).trans hx204_1
                    replace hx204_2 := (HB.out.cell (World.block_lt_of_cell? w _ hx204_2)).trans hx204_2
                    replace hx204_3 := (HB.out.cell (World.block_lt_of_cell? w _ hx204_3)).trans hx204_3
                    have HR204_1 := Aside0.mk hi204_1
                    have HC204_1 := Aside0.mk hl204_1
                    clear hi204_1 hl204_1
                    have HR204_2 := Aside0.mk hi204_2
                    have HC204_2 := Aside0.mk hl204_2
                    clear hi204_2 hl204_2
                    replace p204 := eq_true p204
                    replace q204 := eq_true q204
                    have p205 : 0 ≤ (x5_2 : Int) := of_decide_eq_true (by first | (with_reducible assumption) | assumption)
                    have q205 : x5_2 < (l1_2.length : Int) := of_decide_eq_true (by first | (with_reducible assumption) | assumption)
                    obtain ⟨ad205, A205_1, c205_1, A205_2, c205_2, e205, hx205_0, hx205_1, hx205_2, hx205_3, hl205_1, hi205_1, hl205_2, hi205_2⟩ := at_T39 HR1_2.out x5_2 p205 q205
                    have hw205_3 := hx205_3
                    have hw205_2 := hx205_2
                    have hw205_1 := hx205_1
                    have hw205_0 := hx205_0
                    cases e205
                    replace hx205_0 := (HB.out.cell (World.block_lt_of_cell? w _ hx205_0)).trans hx205_0
                    replace hx205_1 := (HB.out.cell (World.block_lt_of_cell? w _ hx205_1)).trans hx205_1
                    replace hx205_2 := (HB.out.cell (World.block_lt_of_cell? w _ hx205_2)).trans hx205_2
                    replace hx205_3 := (HB.out.cell (World.block_lt_of_cell? w _ hx205_3)).trans hx205_3
                    have HR205_1 := Aside0.mk hi205_1
                    have HC205_1 := Aside0.mk hl205_1
                    clear hi205_1 hl205_1
                    have HR205_2 := Aside0.mk hi205_2
                    have HC205_2 := Aside0.mk hl205_2
                    clear hi205_2 hl205_2
                    replace p205 := eq_true p205
                    replace q205 := eq_true q205
                    refine start_ (n := 12) (S := fun w' => w'.cell? ⟨gb202, 0, none⟩ = some (.int .u64 a0_0) ∧ w'.cell? ⟨gb202, 1, none⟩ = some (.slice A0_1 l0_1.length c0_1) ∧ w'.cell? ⟨gb202, 2, none⟩ = some (.slice (some ad204) l0_2.length c0_2) ∧ w'.cell? ⟨gb202, 3, none⟩ = some (.bool a0_3) ∧ w'.cell? ⟨gb203, 0, none⟩ = some (.int .u64 a1_0) ∧ w'.cell? ⟨gb203, 1, none⟩ = some (.slice A1_1 l1_1.length c1_1) ∧ w'.cell? ⟨gb203, 2, none⟩ = some (.slice (some ad205) l1_2.length c1_2) ∧ w'.cell? ⟨gb203, 3, none⟩ = some (.bool a1_3) ∧ w'.cell? (ad204.add ((x5_2).toNat * 4)) = some (.int .u64 ((rd_T39 l0_2 x5_2).f0)) ∧ w'.cell? ⟨(ad204.add ((x5_2).toNat * 4)).block, (ad204.add ((x5_2).toNat * 4)).off + 1, none⟩ = some (.slice A204_1 ((rd_T39 l0_2 x5_2).f1).length c204_1) ∧ w'.cell? ⟨(ad204.add ((x5_2).toNat * 4)).block, (ad204.add ((x5_2).toNat * 4)).off + 2, none⟩ = some (.slice A204_2 ((rd_T39 l0_2 x5_2).f2).length c204_2) ∧ w'.cell? ⟨(ad204.add ((x5_2).toNat * 4)).block, (ad204.add ((x5_2).toNat * 4)).off + 3, none⟩ = some (.bool ((rd_T39 l0_2 x5_2).f3)) ∧ w'.cell? (ad205.add ((x5_2).toNat * 4)) = some (.int .u64 ((rd_T39 l1_2 x5_2).f0)) ∧ w'.cell? ⟨(ad205.add ((x5_2).toNat * 4)).block, (ad205.add ((x5_2).toNat * 4)).off + 1, none⟩ = some (.slice A205_1 ((rd_T39 l1_2 x5_2).f1).length c205_1) ∧ w'.cell? ⟨(ad205.add ((x5_2).toNat * 4)).block, (ad205.add ((x5_2).toNat * 4)).off + 2, none⟩ = some (.slice A205_2 ((rd_T39 l1_2 x5_2).f2).length c205_2) ∧ w'.cell? ⟨(ad205.add ((x5_2).toNat * 4)).block, (ad205.add ((x5_2).toNat * 4)).off + 3, none⟩ = some (.bool ((rd_T39 l1_2 x5_2).f3))) (ds := []) #[false, false, false, false, false, false, false, false, false, false, false, false] (by kernel_rfl) rfl rfl ⟨(blk_cell BK202.out 0).trans rfl, (blk_cell BK202.out 1).trans rfl, (blk_cell BK202.out 2).trans rfl, (blk_cell BK202.out 3).trans rfl, (blk_cell BK203.out 0).trans rfl, (blk_cell BK203.out 1).trans rfl, (blk_cell BK203.out 2).trans rfl, (blk_cell BK203.out 3).trans rfl, ((HB.out.cell (World.block_lt_of_cell? w _ hw204_0)).trans hw204_0), ((HB.out.cell (World.block_lt_of_cell? w _ hw204_1)).trans hw204_1), ((HB.out.cell (World.block_lt_of_cell? w _ hw204_2)).trans hw204_2), ((HB.out.cell (World.block_lt_of_cell? w _ hw204_3)).trans hw204_3), ((HB.out.cell (World.block_lt_of_cell? w _ hw205_0)).trans hw205_0), ((HB.out.cell (World.block_lt_of_cell? w _ hw205_1)).trans hw205_1), ((HB.out.cell (World.block_lt_of_cell? w _ hw205_2)).trans hw205_2), ((HB.out.cell (World.block_lt_of_cell? w _ hw205_3)).trans hw205_3)⟩ (fun hHeld => ?_); refine with_tabW transomref05_Same.tab6 transomref05_Same.bits6 (fun HT_ HW_ => ?_)
                    generalize wr.drew = w39 at BK202 BK203 HB HR204_1 HR204_2 HR205_1 HR205_2 hx204_0 hx204_1 hx204_2 hx204_3 hx205_0 hx205_1 hx205_2 hx205_3 hHeld ⊢
                    refine pure_ (i := 0) (N := some 43) (v := ?_) (a' := ?_) #[true, false, false, false, false, false, false, false, false, false, false, false] rfl rfl (any_of HT_.out (by kernel_rfl)) (fun _ _ _ h => h) (Or.inl ⟨by rfl, ?_⟩) ?_ ?_
                    rotate_left
                    · intro w'
                      go_simp
                      with_reducible rfl
                    rotate_left
                    · simp only [Act.put, List.setIfInBounds_toArray, List.set_cons_zero, List.set_cons_succ, i64_w, i32_w]
                      rfl
                    refine pure_ (i := 2) (N := some 45) (v := ?_) (a' := ?_) #[true, false, true, false, false, false, false, false, false, false, false, false] rfl rfl (any_of HT_.out (by kernel_rfl)) (fun _ _ _ h => h) (Or.inl ⟨by rfl, ?_⟩) ?_ ?_
                    rotate_left
                    · intro w'
                      go_simp
                      with_reducible rfl
                    rotate_left
                    · simp only [Act.put, List.setIfInBounds_toArray, List.set_cons_zero, List.set_cons_succ, i64_w, i32_w]
                      rfl
                    refine pure_ (i := 5) (N := some 48) (v := ?_) (a' := ?_) #[true, false, true, false, false, true, false, false, false, false, false, false] rfl rfl (any_of HT_.out (by kernel_rfl)) (fun _ _ _ h => h) (Or.inl ⟨by rfl, ?_⟩) ?_ ?_
                    rotate_left
                    · intro w'
                      go_simp
                      with_reducible rfl
                    rotate_left
                    · simp only [Act.put, List.setIfInBounds_toArray, List.set_cons_zero, List.set_cons_succ, i64_w, i32_w]
                      rfl
                    refine pure_ (i := 7) (N := some 50) (v := ?_) (a' := ?_) #[true, false, true, false, false, true, false, true, false, false, false, false] rfl rfl (any_of HT_.out (by kernel_rfl)) (fun _ _ _ h => h) (Or.inl ⟨by rfl, ?_⟩) ?_ ?_
                    rotate_left
                    · intro w'
                      go_simp
                      with_reducible rfl
                    rotate_left
                    · simp only [Act.put, List.setIfInBounds_toArray, List.set_cons_zero, List.set_cons_succ, i64_w, i32_w]
                      rfl
                    refine take_ (i := 1) (N := some 44) (v := ?_) (a' := ?_) #[true, true, true, false, false, true, false, true, false, false, false, false] rfl rfl (take_ofW HT_.out HW_.out (by kernel_rfl)) (fun _ _ _ h => h) (Or.inl ⟨by rfl, ?_⟩) hHeld ?_ ?_
                    rotate_left
                    · rintro w' ⟨s0, s1, s2, s3, s4, s5, s6, s7, s8, s9, s10, s11, s12, s13, s14, s15⟩
                      go_simp
                      with_reducible rfl
                    rotate_left
                    · simp only [Act.put, List.setIfInBounds_toArray, List.set_cons_zero, List.set_cons_succ, i64_w, i32_w]
                      rfl
                    refine pure_ (i := 3) (N := some 46) (v := ?_) (a' := ?_) #[true, true, true, true, false, true, false, true, false, false, false, false] rfl rfl (any_of HT_.out (by kernel_rfl)) (fun _ _ _ h => h) (Or.inl ⟨by rfl, ?_⟩) ?_ ?_
                    rotate_left
                    · intro w'
                      go_simp
                      with_reducible rfl
                    rotate_left
                    · simp only [Act.put, List.setIfInBounds_toArray, List.set_cons_zero, List.set_cons_succ, i64_w, i32_w]
                      rfl
                    refine take_ (i := 4) (N := some 47) (v := ?_) (a' := ?_) #[true, true, true, true, true, true, false, true, false, false, false, false] rfl rfl (take_ofW HT_.out HW_.out (by kernel_rfl)) (fun _ _ _ h => h) (Or.inl ⟨by rfl, ?_⟩) hHeld ?_ ?_
                    rotate_left
                    · rintro w' ⟨s0, s1, s2, s3, s4, s5, s6, s7, s8, s9, s10, s11, s12, s13, s14, s15⟩
                      go_simp
                      with_reducible rfl
                    rotate_left
                    · simp only [Act.put, List.setIfInBounds_toArray, List.set_cons_zero, List.set_cons_succ, i64_w, i32_w]
                      rfl
                    refine take_ (i := 6) (N := some 49) (v := ?_) (a' := ?_) #[true, true, true, true, true, true, true, true, false, false, false, false] rfl rfl (take_ofW HT_.out HW_.out (by kernel_rfl)) (fun _ _ _ h => h) (Or.inl ⟨by rfl, ?_⟩) hHeld ?_ ?_
                    rotate_left
                    · rintro w' ⟨s0, s1, s2, s3, s4, s5, s6, s7, s8, s9, s10, s11, s12, s13, s14, s15⟩
                      go_simp
                      with_reducible rfl
                    rotate_left
                    · simp only [Act.put, List.setIfInBounds_toArray, List.set_cons_zero, List.set_cons_succ, i64_w, i32_w]
                      rfl
                    refine pure_ (i := 8) (N := some 51) (v := ?_) (a' := ?_) #[true, true, true, true, true, true, true, true, true, false, false, false] rfl rfl (any_of HT_.out (by kernel_rfl)) (fun _ _ _ h => h) (Or.inl ⟨by rfl, ?_⟩) ?_ ?_
                    rotate_left
                    · intro w'
                      go_simp
                      with_reducible rfl
                    rotate_left
                    · simp only [Act.put, List.setIfInBounds_toArray, List.set_cons_zero, List.set_cons_succ, i64_w, i32_w]
                      rfl
                    refine take_ (i := 9) (N := some 52) (v := ?_) (a' := ?_) #[true, true, true, true, true, true, true, true, true, true, false, false] rfl rfl (take_ofW HT_.out HW_.out (by kernel_rfl)) (fun _ _ _ h => h) (Or.inl ⟨by rfl, ?_⟩) hHeld ?_ ?_
                    rotate_left
                    · rintro w' ⟨s0, s1, s2, s3, s4, s5, s6, s7, s8, s9, s10, s11, s12, s13, s14, s15⟩
                      go_simp
                      with_reducible rfl
                    rotate_left
                    · simp only [Act.put, List.setIfInBounds_toArray, List.set_cons_zero, List.set_cons_succ, i64_w, i32_w]
                      rfl
                    refine one_ (i := 10) (N := some 53) #[true, true, true, true, true, true, true, true, true, true, true, false] rfl rfl (one_of HT_.out (by kernel_rfl)) (by decide) (fun K hK => ?_)
                    refine goes_ Try.func10 (by kernel_rfl) rfl #[.agg #[.int .u64 ((rd_T39 l0_2 x5_2).f0), .slice A204_1 ((rd_T39 l0_2 x5_2).f1).length c204_1, .slice A204_2 ((rd_T39 l0_2 x5_2).f2).length c204_2, .bool ((rd_T39 l0_2 x5_2).f3)], .agg #[.int .u64 ((rd_T39 l1_2 x5_2).f0), .slice A205_1 ((rd_T39 l1_2 x5_2).f1).length c205_1, .slice A205_2 ((rd_T39 l1_2 x5_2).f2).length c205_2, .bool ((rd_T39 l1_2 x5_2).f3)]] (by rfl) rfl rfl (by (try simp only [List.map_toArray, List.map_cons, List.map_nil]); first | done | rfl | (simp only [List.length_drop, List.length_take]; rfl)) ?_
                    with_reducible refine (ih k2 (by have := HJ2.out; have := HK2.out; omega) ((rd_T39 l0_2 x5_2).f0) _ _ ((rd_T39 l0_2 x5_2).f1) _ _ ((rd_T39 l0_2 x5_2).f2) ((rd_T39 l0_2 x5_2).f3) ((rd_T39 l1_2 x5_2).f0) _ _ ((rd_T39 l1_2 x5_2).f1) _ _ ((rd_T39 l1_2 x5_2).f2) ((rd_T39 l1_2 x5_2).f3) false _ ?side1 ?side2 ?side3 ?side4 ?side5 ?side6 ?side7 ?side8 A31.out).mono ?_
                    (case side1 => repeat (first | exact (Kd.C_below HR204_1.out HB.out) | (with_reducible refine Kd.C_alloc ?_ _) | (with_reducible refine Kd.C_drewN ?_ _) | (with_reducible refine Kd.C_drew ?_)))
                    (case side2 => exact HC204_1.out)
                    (case side3 => repeat (first | exact (Kd.C_below HR204_2.out HB.out) | (with_reducible refine Kd.C_alloc ?_ _) | (with_reducible refine Kd.C_drewN ?_ _) | (with_reducible refine Kd.C_drew ?_)))
                    (case side4 => exact HC204_2.out)
                    (case side5 => repeat (first | exact (Kd.C_below HR205_1.out HB.out) | (with_reducible refine Kd.C_alloc ?_ _) | (with_reducible refine Kd.C_drewN ?_ _) | (with_reducible refine Kd.C_drew ?_)))
                    (case side6 => exact HC205_1.out)
                    (case side7 => repeat (first | exact (Kd.C_below HR205_2.out HB.out) | (with_reducible refine Kd.C_alloc ?_ _) | (with_reducible refine Kd.C_drewN ?_ _) | (with_reducible refine Kd.C_drew ?_)))
                    (case side8 => exact HC205_2.out)
                    rintro e w40 ⟨rfl, hb⟩
                    refine ⟨_, rfl, ?_⟩
                    have n0_ := Aside0.mk (blk_below (g := gb202) (o := .cells #[.int .u64 a0_0, .slice A0_1 l0_1.length c0_1, .slice (some ad204) l0_2.length c0_2, .bool a0_3] 39 (0, 0)) (by (with_reducible repeat (first | refine blk_drewN ?_ _ | refine blk_drew ?_ | refine blk_alloc ?_ _)); exact BK202.out) hb)
                    have n1_ := Aside0.mk (blk_below (g := gb203) (o := .cells #[.int .u64 a1_0, .slice A1_1 l1_1.length c1_1, .slice (some ad205) l1_2.length c1_2, .bool a1_3] 39 (0, 0)) (by (with_reducible repeat (first | refine blk_drewN ?_ _ | refine blk_drew ?_ | refine blk_alloc ?_ _)); exact BK203.out) hb)
                    have n2_ := Aside0.mk (below_step (by repeat (first | (with_reducible first | exact HB.out | apply below_alloc | apply pw_below_drewN | apply below_drew1 | refine below_set ?_ GE202.out | refine below_set ?_ GE203.out) | exact HB.out)) hb)
                    clear BK202
                    clear BK203
                    clear HB
                    have BK202 := n0_
                    have BK203 := n1_
                    have HB := n2_
                    clear n0_ n1_ n2_
                    (try clear hb)
                    (try clear hb2)
                    (try clear hk)
                    (try clear hi)
                    refine hK.out _ _ ⟨(blk_cell BK202.out 0).trans rfl, (blk_cell BK202.out 1).trans rfl, (blk_cell BK202.out 2).trans rfl, (blk_cell BK202.out 3).trans rfl, (blk_cell BK203.out 0).trans rfl, (blk_cell BK203.out 1).trans rfl, (blk_cell BK203.out 2).trans rfl, (blk_cell BK203.out 3).trans rfl, ((HB.out.cell (World.block_lt_of_cell? w _ hw204_0)).trans hw204_0), ((HB.out.cell (World.block_lt_of_cell? w _ hw204_1)).trans hw204_1), ((HB.out.cell (World.block_lt_of_cell? w _ hw204_2)).trans hw204_2), ((HB.out.cell (World.block_lt_of_cell? w _ hw204_3)).trans hw204_3), ((HB.out.cell (World.block_lt_of_cell? w _ hw205_0)).trans hw205_0), ((HB.out.cell (World.block_lt_of_cell? w _ hw205_1)).trans hw205_1), ((HB.out.cell (World.block_lt_of_cell? w _ hw205_2)).trans hw205_2), ((HB.out.cell (World.block_lt_of_cell? w _ hw205_3)).trans hw205_3)⟩ (fun hHeld => ?_)
                    clear hK K
                    refine norm_ (a' := ?_) ?_ ?_
                    rotate_left
                    · show Act.put _ (some 53) _ = _
                      simp only [Act.put, List.setIfInBounds_toArray, List.set_cons_zero, List.set_cons_succ, i64_w, i32_w]
                      rfl
                    refine pure_ (i := 11) (N := some 54) (v := ?_) (a' := ?_) #[true, true, true, true, true, true, true, true, true, true, true, true] rfl rfl (any_of HT_.out (by kernel_rfl)) (fun _ _ _ h => h) (Or.inl ⟨by rfl, ?_⟩) ?_ ?_
                    rotate_left
                    · intro w'
                      go_simp
                      with_reducible rfl
                    rotate_left
                    · simp only [Act.put, List.setIfInBounds_toArray, List.set_cons_zero, List.set_cons_succ, i64_w, i32_w]
                      rfl
                    refine done_ (done_of HT_.out (by kernel_rfl)) ?_
                    try go_wp2
                    go_ret
                    exact ⟨by first | rfl | (simp [errW_none, errW_some] <;> rfl) | (simp [*, errW_none, errW_some] <;> rfl), by repeat (first | (with_reducible first | exact HB.out | apply below_alloc | apply pw_below_drewN | apply below_drew1 | refine below_set ?_ GE202.out | refine below_set ?_ GE203.out) | exact HB.out)⟩
                · rw [if_neg c30] at H
                  exact absurd H (by simp)
              · rw [if_neg c29] at H
                exact absurd H (by simp)
            · rw [if_neg c28] at H
              have c28b0 : decide (x5_2 < (l0_2.length : Int)) = false := decide_eq_false c28
              clear c28
              obtain rfl := Option.some.inj H
              have hnb41 := NB202_203.out
              have hnc41 := NB203_202.out
              have hcz42_0 : wr.cell? ⟨gb202, 0, none⟩ = some (.int .u64 a0_0) := (blk_cell BK202.out 0).trans rfl
              have hcz42_1 : wr.cell? ⟨gb202, 1, none⟩ = some (.slice A0_1 l0_1.length c0_1) := (blk_cell BK202.out 1).trans rfl
              have hcz42_2 : wr.cell? ⟨gb202, 2, none⟩ = some (.slice A0_2 l0_2.length c0_2) := (blk_cell BK202.out 2).trans rfl
              have hcz42_3 : wr.cell? ⟨gb202, 3, none⟩ = some (.bool a0_3) := (blk_cell BK202.out 3).trans rfl
              have hfz42_0 := blk_frozen BK202.out 0
              have hfz42_1 := blk_frozen BK202.out 1
              have hfz42_2 := blk_frozen BK202.out 2
              have hfz42_3 := blk_frozen BK202.out 3
              go_wp2
              go_ret
              exact ⟨by first | rfl | (simp [errW_none, errW_some] <;> rfl) | (simp [*, errW_none, errW_some] <;> rfl), by repeat (first | (with_reducible first | exact HB.out | apply below_alloc | apply pw_below_drewN | apply below_drew1 | refine below_set ?_ GE202.out | refine below_set ?_ GE203.out) | exact HB.out)⟩

end Go.Proofs.Ythilhndejhnlnaa.QAll
end
