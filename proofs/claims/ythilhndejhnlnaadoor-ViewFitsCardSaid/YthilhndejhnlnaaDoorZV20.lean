/- Texts joined: QAllx7. -/
import Derived.Test.YthilhndejhnlnaaDoorZV13
import Derived.Test.YthilhndejhnlnaaDoorZV14
import Derived.Test.YthilhndejhnlnaaDoorZV15
import Derived.Test.YthilhndejhnlnaaDoorZV19
section
-- written by a program of this session (turned from a print)
namespace Go.Proofs.YthilhndejhnlnaaDoor.QAll
open Go.RowKit Go.Proofs.YthilhndejhnlnaaDoorW.PrintWords Go.Proofs.YthilhndejhnlnaaDoorW.PrintLast Go.Proofs.YthilhndejhnlnaaDoorW.PrintMore
attribute [local go_sem] max2_int min2_int max_two min_two max_three min_three max_four min_four   -- for this text's walks alone
set_option linter.unusedVariables false
set_option linter.unusedSimpArgs false

/-! ### transomhand05_number: function 31 -/
def transomhand05_number.l0 : Nat → Int → Int → List Int → Int → List (S50) → List (S58) → Int → Int → Int → Int → Option (Int × Int)
  | 0, _, _, _, _, _, _, _, _, _, _ => none
  | k + 1, x11, x12, x3000, x3001, x249000, x249001, x249002, x250000, x250001, x250002 => if x12 < 8 then ((transomhand05_Source_next.f x3000 x3001).bind fun bt257 => (transomhand05_number.l0 k (Go.bits .or .u64 (IntKind.u64.wrap (x11 * 256)) (IntKind.u64.wrap (bt257.1))) (wrap64 (x12 + 1)) x3000 bt257.2 x249000 x249001 x249002 x250000 x250001 x250002)) else ((transomhand05_Number.f k x249000 x249001 x249002 x250000 x250001 x250002 x11).bind fun t259 => (some (t259, x3001)))
def transomhand05_number.f (k : Nat) (l0_0 : List (S50)) (l0_1 : List (S58)) (a0_2 : Int) (a1_0 : Int) (a1_1 : Int) (a1_2 : Int) (s2_0 : List Int) (s2_1 : Int) (a3 : Int) (a4_0 : ByteArray) (a4_1 : Int) (a4_2 : Int) (a4_3 : Int) (a4_4 : Int) : Option (Int × Int) := if (Int.tmod a3 5) = 0 then (some (a4_4, s2_1)) else (if (Int.tmod a3 5) = 1 then ((transomhand05_Number.f k l0_0 l0_1 a0_2 a1_0 a1_1 a1_2 18446744073709551615).bind fun t251 => (some (t251, s2_1))) else (if (Int.tmod a3 5) = 2 then ((transomref01_Size.f k (wrap64 (a1_0))).bind fun t252 => (if 0 ≤ (wrap64 ((wrap64 (8 * t252)) - 1)) then ((transomhand05_Number.f k l0_0 l0_1 a0_2 a1_0 a1_1 a1_2 (shl .u64 1 (wrap64 ((wrap64 (8 * t252)) - 1)))).bind fun t253 => (some (t253, s2_1))) else (none))) else (if (Int.tmod a3 5) = 3 then ((transomhand05_Source_next.f s2_0 s2_1).bind fun bt254 => ((transomhand05_Number.f k l0_0 l0_1 a0_2 a1_0 a1_1 a1_2 (IntKind.u64.wrap (bt254.1))).bind fun t256 => (some (t256, bt254.2)))) else (transomhand05_number.l0 k 0 0 s2_0 s2_1 l0_0 l0_1 a0_2 a1_0 a1_1 a1_2))))
theorem transomhand05_number.mono_l : ∀ k, (∀ y0 y1 y2 y3 y4 y5 y6 y7 y8 y9, LeO (transomhand05_number.l0 k y0 y1 y2 y3 y4 y5 y6 y7 y8 y9) (transomhand05_number.l0 (k + 1) y0 y1 y2 y3 y4 y5 y6 y7 y8 y9))
  | 0 => fun _ _ _ _ _ _ _ _ _ _ r h => by simp [transomhand05_number.l0] at h
  | k + 1 => by
    have ih0 := transomhand05_number.mono_l k
    · intro y0 y1 y2 y3 y4 y5 y6 y7 y8 y9
      unfold transomhand05_number.l0
      repeat' first
      | (with_reducible exact ih0 _ _ _ _ _ _ _ _ _ _)
      | (with_reducible exact transomhand05_Number.mono _ _ _ _ _ _ _ _)
      | (with_reducible exact transomref01_Size.mono _ _)
      | (with_reducible exact LeO.refl _)
      | (with_reducible exact LeO.none _)
      | (with_reducible refine LeO.ite ?_ ?_)
      | (with_reducible refine LeO.bind ?_ (fun _ => ?_))
      | exact ih0 _ _ _ _ _ _ _ _ _ _
      | exact transomhand05_Number.mono _ _ _ _ _ _ _ _
      | exact transomref01_Size.mono _ _
      | exact LeO.none _
      | refine LeO.ite ?_ ?_
      | refine LeO.bind ?_ (fun _ => ?_)
theorem transomhand05_number.mono : ∀ a0 a1 a2 a3 a4 a5 a6 a7 a8 a9 a10 a11 a12 a13 k, LeO (transomhand05_number.f k a0 a1 a2 a3 a4 a5 a6 a7 a8 a9 a10 a11 a12 a13) (transomhand05_number.f (k + 1) a0 a1 a2 a3 a4 a5 a6 a7 a8 a9 a10 a11 a12 a13) := by
  intro a0 a1 a2 a3 a4 a5 a6 a7 a8 a9 a10 a11 a12 a13 k
  have ih0 := transomhand05_number.mono_l k
  unfold transomhand05_number.f
  repeat' first
      | (with_reducible exact ih0 _ _ _ _ _ _ _ _ _ _)
      | (with_reducible exact transomhand05_Number.mono _ _ _ _ _ _ _ _)
      | (with_reducible exact transomref01_Size.mono _ _)
      | (with_reducible exact LeO.refl _)
      | (with_reducible exact LeO.none _)
      | (with_reducible refine LeO.ite ?_ ?_)
      | (with_reducible refine LeO.bind ?_ (fun _ => ?_))
      | exact ih0 _ _ _ _ _ _ _ _ _ _
      | exact transomhand05_Number.mono _ _ _ _ _ _ _ _
      | exact transomref01_Size.mono _ _
      | exact LeO.none _
      | refine LeO.ite ?_ ?_
      | refine LeO.bind ?_ (fun _ => ?_)
def transomhand05_number.T7 : Bool × List (List Nat × List Nat) := (true, [([], []), ([], []), ([], []), ([2], [2]), ([3], [3]), ([4], [4]), ([5], [5]), ([6], [6]), ([7], [7]), ([0, 1, 8, 5], [0, 1, 8]), ([9, 9, 0, 1, 2, 3, 4, 5, 6, 7, 8, 9], [9])])
def transomhand05_number.B7 : List Nat := [0, 0, 0, 4, 12, 28, 60, 124, 252, 511, 1023]
theorem transomhand05_number.tab7 : rtab .any (opsOf Tryd.f31 7) = transomhand05_number.T7 := by kernel_rfl
theorem transomhand05_number.bits7 : waitsOk transomhand05_number.T7.2 transomhand05_number.B7 = true := by kernel_rfl
set_option maxHeartbeats 8000000 in
set_option maxRecDepth 100000 in
theorem transomhand05_number.calls (k : Nat) (A0_0 : Option Addr) (c0_0 : Nat) (l0_0 : List (S50)) (A0_1 : Option Addr) (c0_1 : Nat) (l0_1 : List (S58)) (a0_2 : Int) (a1_0 : Int) (a1_1 : Int) (a1_2 : Int) (g : Nat) (s2_0 : List Int) (s2_1 : Int) (a3 : Int) (a4_0 : ByteArray) (a4_1 : Int) (a4_2 : Int) (a4_3 : Int) (a4_4 : Int) (r1 : Int) (r2 : Int) (w0 w : World) (hI : IsS69 w0 w g s2_0 s2_1) (hB : Below w0.heap.size w0 w) (hr0_0 : ∀ W_, KeepBut w W_ g none → Kd.C k50 W_ A0_0 l0_0.length l0_0) (hc0_0 : l0_0.length ≤ c0_0) (hr0_1 : ∀ W_, KeepBut w W_ g none → Kd.C k58 W_ A0_1 l0_1.length l0_1) (hc0_1 : l0_1.length ≤ c0_1) (h : transomhand05_number.f k l0_0 l0_1 a0_2 a1_0 a1_1 a1_2 s2_0 s2_1 a3 a4_0 a4_1 a4_2 a4_3 a4_4 = some (r1, r2)) :
    Calls Tryd.prog 31 #[.agg #[.slice A0_0 l0_0.length c0_0, .slice A0_1 l0_1.length c0_1, .int .i64 a0_2], .agg #[.int .u8 a1_0, .int .i64 a1_1, .int .i64 a1_2], .pointer (some ⟨g, 0, none⟩), .int .i64 a3, .agg #[.string a4_0, .int .u8 a4_1, .int .i64 a4_2, .int .i64 a4_3, .int .u64 a4_4]] w fun e w' => e = .returned (.int .u64 r1) ∧ IsS69 w0 w' g s2_0 r2 ∧ Below w0.heap.size w0 w' ∧ KeepBut w w' g none := by
  have hu34 := Tryd.underlying34
  have hu45 := Tryd.underlying45
  have hu47 := Tryd.underlying47
  have HR0_0 := Aside0.mk hr0_0
  have HC0_0 := Aside0.mk hc0_0
  clear hr0_0 hc0_0
  have HR0_1 := Aside0.mk hr0_1
  have HC0_1 := Aside0.mk hc0_1
  clear hr0_1 hc0_1
  have HI2 := Aside0.mk hI
  have HK := Aside0.mk (KeepBut.refl w g none)
  have HL := Aside0.mk hB.size
  clear hI
  have HW0 := Aside0.mk hB.size
  have HB := Aside0.mk hB
  clear hB
  have H : (if (Int.tmod a3 5) = 0 then (some (a4_4, s2_1)) else (if (Int.tmod a3 5) = 1 then ((transomhand05_Number.f k l0_0 l0_1 a0_2 a1_0 a1_1 a1_2 18446744073709551615).bind fun t251 => (some (t251, s2_1))) else (if (Int.tmod a3 5) = 2 then ((transomref01_Size.f k (wrap64 (a1_0))).bind fun t252 => (if 0 ≤ (wrap64 ((wrap64 (8 * t252)) - 1)) then ((transomhand05_Number.f k l0_0 l0_1 a0_2 a1_0 a1_1 a1_2 (shl .u64 1 (wrap64 ((wrap64 (8 * t252)) - 1)))).bind fun t253 => (some (t253, s2_1))) else (none))) else (if (Int.tmod a3 5) = 3 then ((transomhand05_Source_next.f s2_0 s2_1).bind fun bt254 => ((transomhand05_Number.f k l0_0 l0_1 a0_2 a1_0 a1_1 a1_2 (IntKind.u64.wrap (bt254.1))).bind fun t256 => (some (t256, bt254.2)))) else (transomhand05_number.l0 k 0 0 s2_0 s2_1 l0_0 l0_1 a0_2 a1_0 a1_1 a1_2))))) = some (r1, r2) := h
  clear h
  by_cases c6 : (Int.tmod a3 5) = 0
  · rw [if_pos c6] at H
    have c6b0 : ((Int.tmod a3 5) == 0) = true := beq_iff_eq.mpr c6
    have c6b1 : ((Int.tmod a3 5) != 0) = false := bne_eq_false_iff_eq.mpr c6
    clear c6
    simp only [Option.some.injEq, Prod.mk.injEq] at H
    obtain ⟨rfl, rfl⟩ := H
    go_enter Tryd.func31, Tryd.ntmps31
    go_wp2_with (first | ((with_reducible refine gate_dst (N := 5) rfl ?_); refine box_event ?hg (N := 5) ?hd (cs := #[.slice A0_0 l0_0.length c0_0, .slice A0_1 l0_1.length c0_1, .int .i64 a0_2]) (t := 34) ?hr ?_; (case hd => rfl); (case hg => rfl); (case hr => first | (go_simp; done) | (go_simp; rfl)); intro gb248 hg w7 hbox hb; have n0_ := Aside0.mk (IsS69.below (by repeat (first | (with_reducible first | exact HI2.out | apply IsS69.alloc | apply IsS69.drewN | apply IsS69.drew | apply IsS69.set_1) | exact HI2.out)) hb); have n1_ := Aside0.mk (KeepBut.trans (by repeat (first | (with_reducible first | exact HK.out | apply KeepBut.set_ | apply keep_drewN | apply keep_drew | apply keep_alloc) | exact HK.out)) (KeepBut.of_below hb g none) (.inl rfl)); have n2_ := Aside0.mk (below_step (by repeat (first | (with_reducible first | exact HB.out | apply below_alloc | apply pw_below_drewN | apply below_drew1 | refine below_set ?_ (IsS69.ge HI2.out)) | exact HB.out)) hb); have n3_ := Aside0.mk (hbox); have n4_ := Aside0.mk ((by rw [hg]; exact (keep_size (w := w) (g := g) (row := none) (by repeat (first | (with_reducible first | exact HK.out | apply KeepBut.set_ | apply keep_drewN | apply keep_drew | apply keep_alloc) | exact HK.out))) : w.heap.size ≤ gb248)); have n5_ := Aside0.mk ((Nat.le_trans HW0.out (by rw [hg]; exact (keep_size (w := w) (g := g) (row := none) (by repeat (first | (with_reducible first | exact HK.out | apply KeepBut.set_ | apply keep_drewN | apply keep_drew | apply keep_alloc) | exact HK.out))) : w.heap.size ≤ gb248) : w0.heap.size ≤ gb248)); have n6_ := Aside0.mk ((by rw [hg]; exact Nat.ne_of_lt (IsS69.lt (show IsS69 w0 _ g s2_0 s2_1 from by repeat (first | (with_reducible first | exact HI2.out | apply IsS69.alloc | apply IsS69.drewN | apply IsS69.drew | apply IsS69.set_1) | exact HI2.out))) : g ≠ gb248)); have n7_ := Aside0.mk ((by rw [hg]; exact Nat.ne_of_gt (IsS69.lt (show IsS69 w0 _ g s2_0 s2_1 from by repeat (first | (with_reducible first | exact HI2.out | apply IsS69.alloc | apply IsS69.drewN | apply IsS69.drew | apply IsS69.set_1) | exact HI2.out))) : gb248 ≠ g)); clear HI2; clear HK; clear HB; have HI2 := n0_; have HK := n1_; have HB := n2_; have BK248 := n3_; have GW248 := n4_; have GE248 := n5_; have NB2_248 := n6_; have NB248_2 := n7_; clear n0_ n1_ n2_ n3_ n4_ n5_ n6_ n7_; clear hb hbox hg) | ((with_reducible refine gate_dst (N := 6) rfl ?_); refine box_event ?hg (N := 6) ?hd (cs := #[.int .u8 a1_0, .int .i64 a1_1, .int .i64 a1_2]) (t := 45) ?hr ?_; (case hd => rfl); (case hg => rfl); (case hr => first | (go_simp; done) | (go_simp; rfl)); intro gb249 hg w8 hbox hb; have n0_ := Aside0.mk (IsS69.below (by repeat (first | (with_reducible first | exact HI2.out | apply IsS69.alloc | apply IsS69.drewN | apply IsS69.drew | apply IsS69.set_1 | refine IsS69.far ?_ NB2_248.out _) | exact HI2.out)) hb); have n1_ := Aside0.mk (blk_below (g := gb248) (o := .cells #[.slice A0_0 l0_0.length c0_0, .slice A0_1 l0_1.length c0_1, .int .i64 a0_2] 34 (0, 0)) (by (with_reducible repeat (first | refine blk_drewN ?_ _ | refine blk_drew ?_ | refine blk_alloc ?_ _)); exact BK248.out) hb); have n2_ := Aside0.mk (KeepBut.trans (by repeat (first | (with_reducible first | exact HK.out | apply KeepBut.set_ | apply keep_drewN | apply keep_drew | apply keep_alloc | refine keep_far ?_ GW248.out _) | exact HK.out)) (KeepBut.of_below hb g none) (.inl rfl)); have n3_ := Aside0.mk (below_step (by repeat (first | (with_reducible first | exact HB.out | apply below_alloc | apply pw_below_drewN | apply below_drew1 | refine below_set ?_ (IsS69.ge HI2.out) | refine below_set ?_ GE248.out) | exact HB.out)) hb); have n4_ := Aside0.mk (hbox); have n5_ := Aside0.mk ((by rw [hg]; exact (keep_size (w := w) (g := g) (row := none) (by repeat (first | (with_reducible first | exact HK.out | apply KeepBut.set_ | apply keep_drewN | apply keep_drew | apply keep_alloc | refine keep_far ?_ GW248.out _) | exact HK.out))) : w.heap.size ≤ gb249)); have n6_ := Aside0.mk ((Nat.le_trans HW0.out (by rw [hg]; exact (keep_size (w := w) (g := g) (row := none) (by repeat (first | (with_reducible first | exact HK.out | apply KeepBut.set_ | apply keep_drewN | apply keep_drew | apply keep_alloc | refine keep_far ?_ GW248.out _) | exact HK.out))) : w.heap.size ≤ gb249) : w0.heap.size ≤ gb249)); have n7_ := Aside0.mk ((by rw [hg]; exact Nat.ne_of_lt (blk_lt (g := gb248) (o := .cells #[.slice A0_0 l0_0.length c0_0, .slice A0_1 l0_1.length c0_1, .int .i64 a0_2] 34 (0, 0)) (by (with_reducible repeat (first | refine blk_drewN ?_ _ | refine blk_drew ?_ | refine blk_alloc ?_ _)); exact BK248.out)) : gb248 ≠ gb249)); have n8_ := Aside0.mk ((by rw [hg]; exact Nat.ne_of_gt (blk_lt (g := gb248) (o := .cells #[.slice A0_0 l0_0.length c0_0, .slice A0_1 l0_1.length c0_1, .int .i64 a0_2] 34 (0, 0)) (by (with_reducible repeat (first | refine blk_drewN ?_ _ | refine blk_drew ?_ | refine blk_alloc ?_ _)); exact BK248.out)) : gb249 ≠ gb248)); have n9_ := Aside0.mk ((by rw [hg]; exact Nat.ne_of_lt (IsS69.lt (show IsS69 w0 _ g s2_0 s2_1 from by repeat (first | (with_reducible first | exact HI2.out | apply IsS69.alloc | apply IsS69.drewN | apply IsS69.drew | apply IsS69.set_1 | refine IsS69.far ?_ NB2_248.out _) | exact HI2.out))) : g ≠ gb249)); have n10_ := Aside0.mk ((by rw [hg]; exact Nat.ne_of_gt (IsS69.lt (show IsS69 w0 _ g s2_0 s2_1 from by repeat (first | (with_reducible first | exact HI2.out | apply IsS69.alloc | apply IsS69.drewN | apply IsS69.drew | apply IsS69.set_1 | refine IsS69.far ?_ NB2_248.out _) | exact HI2.out))) : gb249 ≠ g)); clear HI2; clear BK248; clear HK; clear HB; have HI2 := n0_; have BK248 := n1_; have HK := n2_; have HB := n3_; have BK249 := n4_; have GW249 := n5_; have GE249 := n6_; have NB248_249 := n7_; have NB249_248 := n8_; have NB2_249 := n9_; have NB249_2 := n10_; clear n0_ n1_ n2_ n3_ n4_ n5_ n6_ n7_ n8_ n9_ n10_; clear hb hbox hg) | ((with_reducible refine gate_dst (N := 9) rfl ?_); refine box_event ?hg (N := 9) ?hd (cs := #[.string a4_0, .int .u8 a4_1, .int .i64 a4_2, .int .i64 a4_3, .int .u64 a4_4]) (t := 47) ?hr ?_; (case hd => rfl); (case hg => rfl); (case hr => first | (go_simp; done) | (go_simp; rfl)); intro gb250 hg w9 hbox hb; have n0_ := Aside0.mk (IsS69.below (by repeat (first | (with_reducible first | exact HI2.out | apply IsS69.alloc | apply IsS69.drewN | apply IsS69.drew | apply IsS69.set_1 | refine IsS69.far ?_ NB2_248.out _ | refine IsS69.far ?_ NB2_249.out _) | exact HI2.out)) hb); have n1_ := Aside0.mk (blk_below (g := gb248) (o := .cells #[.slice A0_0 l0_0.length c0_0, .slice A0_1 l0_1.length c0_1, .int .i64 a0_2] 34 (0, 0)) (by (with_reducible repeat (first | refine blk_drewN ?_ _ | refine blk_drew ?_ | refine blk_alloc ?_ _)); exact BK248.out) hb); have n2_ := Aside0.mk (blk_below (g := gb249) (o := .cells #[.int .u8 a1_0, .int .i64 a1_1, .int .i64 a1_2] 45 (0, 0)) (by (with_reducible repeat (first | refine blk_drewN ?_ _ | refine blk_drew ?_ | refine blk_alloc ?_ _)); exact BK249.out) hb); have n3_ := Aside0.mk (KeepBut.trans (by repeat (first | (with_reducible first | exact HK.out | apply KeepBut.set_ | apply keep_drewN | apply keep_drew | apply keep_alloc | refine keep_far ?_ GW248.out _ | refine keep_far ?_ GW249.out _) | exact HK.out)) (KeepBut.of_below hb g none) (.inl rfl)); have n4_ := Aside0.mk (below_step (by repeat (first | (with_reducible first | exact HB.out | apply below_alloc | apply pw_below_drewN | apply below_drew1 | refine below_set ?_ (IsS69.ge HI2.out) | refine below_set ?_ GE248.out | refine below_set ?_ GE249.out) | exact HB.out)) hb); have n5_ := Aside0.mk (hbox); have n6_ := Aside0.mk ((by rw [hg]; exact (keep_size (w := w) (g := g) (row := none) (by repeat (first | (with_reducible first | exact HK.out | apply KeepBut.set_ | apply keep_drewN | apply keep_drew | apply keep_alloc | refine keep_far ?_ GW248.out _ | refine keep_far ?_ GW249.out _) | exact HK.out))) : w.heap.size ≤ gb250)); have n7_ := Aside0.mk ((Nat.le_trans HW0.out (by rw [hg]; exact (keep_size (w := w) (g := g) (row := none) (by repeat (first | (with_reducible first | exact HK.out | apply KeepBut.set_ | apply keep_drewN | apply keep_drew | apply keep_alloc | refine keep_far ?_ GW248.out _ | refine keep_far ?_ GW249.out _) | exact HK.out))) : w.heap.size ≤ gb250) : w0.heap.size ≤ gb250)); have n8_ := Aside0.mk ((by rw [hg]; exact Nat.ne_of_lt (blk_lt (g := gb248) (o := .cells #[.slice A0_0 l0_0.length c0_0, .slice A0_1 l0_1.length c0_1, .int .i64 a0_2] 34 (0, 0)) (by (with_reducible repeat (first | refine blk_drewN ?_ _ | refine blk_drew ?_ | refine blk_alloc ?_ _)); exact BK248.out)) : gb248 ≠ gb250)); have n9_ := Aside0.mk ((by rw [hg]; exact Nat.ne_of_gt (blk_lt (g := gb248) (o := .cells #[.slice A0_0 l0_0.length c0_0, .slice A0_1 l0_1.length c0_1, .int .i64 a0_2] 34 (0, 0)) (by (with_reducible repeat (first | refine blk_drewN ?_ _ | refine blk_drew ?_ | refine blk_alloc ?_ _)); exact BK248.out)) : gb250 ≠ gb248)); have n10_ := Aside0.mk ((by rw [hg]; exact Nat.ne_of_lt (blk_lt (g := gb249) (o := .cells #[.int .u8 a1_0, .int .i64 a1_1, .int .i64 a1_2] 45 (0, 0)) (by (with_reducible repeat (first | refine blk_drewN ?_ _ | refine blk_drew ?_ | refine blk_alloc ?_ _)); exact BK249.out)) : gb249 ≠ gb250)); have n11_ := Aside0.mk ((by rw [hg]; exact Nat.ne_of_gt (blk_lt (g := gb249) (o := .cells #[.int .u8 a1_0, .int .i64 a1_1, .int .i64 a1_2] 45 (0, 0)) (by (with_reducible repeat (first | refine blk_drewN ?_ _ | refine blk_drew ?_ | refine blk_alloc ?_ _)); exact BK249.out)) : gb250 ≠ gb249)); have n12_ := Aside0.mk ((by rw [hg]; exact Nat.ne_of_lt (IsS69.lt (show IsS69 w0 _ g s2_0 s2_1 from by repeat (first | (with_reducible first | exact HI2.out | apply IsS69.alloc | apply IsS69.drewN | apply IsS69.drew | apply IsS69.set_1 | refine IsS69.far ?_ NB2_248.out _ | refine IsS69.far ?_ NB2_249.out _) | exact HI2.out))) : g ≠ gb250)); have n13_ := Aside0.mk ((by rw [hg]; exact Nat.ne_of_gt (IsS69.lt (show IsS69 w0 _ g s2_0 s2_1 from by repeat (first | (with_reducible first | exact HI2.out | apply IsS69.alloc | apply IsS69.drewN | apply IsS69.drew | apply IsS69.set_1 | refine IsS69.far ?_ NB2_248.out _ | refine IsS69.far ?_ NB2_249.out _) | exact HI2.out))) : gb250 ≠ g)); clear HI2; clear BK248; clear BK249; clear HK; clear HB; have HI2 := n0_; have BK248 := n1_; have BK249 := n2_; have HK := n3_; have HB := n4_; have BK250 := n5_; have GW250 := n6_; have GE250 := n7_; have NB248_250 := n8_; have NB250_248 := n9_; have NB249_250 := n10_; have NB250_249 := n11_; have NB2_250 := n12_; have NB250_2 := n13_; clear n0_ n1_ n2_ n3_ n4_ n5_ n6_ n7_ n8_ n9_ n10_ n11_ n12_ n13_; clear hb hbox hg; have hnb10 := NB250_248.out; have hnc10 := NB248_250.out; have hnb11 := NB250_249.out; have hnc11 := NB249_250.out; have hnb12 := NB250_2.out; have hnc12 := NB2_250.out; have hcz13_0 : w9.cell? ⟨gb250, 0, none⟩ = some (.string a4_0) := (blk_cell BK250.out 0).trans rfl; have hcz13_1 : w9.cell? ⟨gb250, 1, none⟩ = some (.int .u8 a4_1) := (blk_cell BK250.out 1).trans rfl; have hcz13_2 : w9.cell? ⟨gb250, 2, none⟩ = some (.int .i64 a4_2) := (blk_cell BK250.out 2).trans rfl; have hcz13_3 : w9.cell? ⟨gb250, 3, none⟩ = some (.int .i64 a4_3) := (blk_cell BK250.out 3).trans rfl; have hcz13_4 : w9.cell? ⟨gb250, 4, none⟩ = some (.int .u64 a4_4) := (blk_cell BK250.out 4).trans rfl; have hfz13_0 := blk_frozen BK250.out 0; have hfz13_1 := blk_frozen BK250.out 1; have hfz13_2 := blk_frozen BK250.out 2; have hfz13_3 := blk_frozen BK250.out 3; have hfz13_4 := blk_frozen BK250.out 4))
    go_ret
    exact ⟨by first | rfl | (simp [errW_none, errW_some] <;> rfl) | (simp [*, errW_none, errW_some] <;> rfl), by repeat (first | (with_reducible first | exact HI2.out | apply IsS69.alloc | apply IsS69.drewN | apply IsS69.drew | apply IsS69.set_1 | refine IsS69.far ?_ NB2_248.out _ | refine IsS69.far ?_ NB2_249.out _ | refine IsS69.far ?_ NB2_250.out _) | exact HI2.out), by repeat (first | (with_reducible first | exact HB.out | apply below_alloc | apply pw_below_drewN | apply below_drew1 | refine below_set ?_ (IsS69.ge HI2.out) | refine below_set ?_ GE248.out | refine below_set ?_ GE249.out | refine below_set ?_ GE250.out) | exact HB.out), by repeat (first | (with_reducible first | exact HK.out | apply KeepBut.set_ | apply keep_drewN | apply keep_drew | apply keep_alloc | refine keep_far ?_ GW248.out _ | refine keep_far ?_ GW249.out _ | refine keep_far ?_ GW250.out _) | exact HK.out)⟩
  · rw [if_neg c6] at H
    have c6b0 : ((Int.tmod a3 5) == 0) = false := beq_eq_false_iff_ne.mpr c6
    have c6b1 : ((Int.tmod a3 5) != 0) = true := bne_iff_ne.mpr c6
    by_cases c14 : (Int.tmod a3 5) = 1
    · rw [if_pos c14] at H
      have c14b0 : ((Int.tmod a3 5) == 1) = true := beq_iff_eq.mpr c14
      have c14b1 : ((Int.tmod a3 5) != 1) = false := bne_eq_false_iff_eq.mpr c14
      clear c14
      replace H := Option.bind_eq_some_iff.mp H
      obtain ⟨t251, A150, H⟩ := H
      replace H : (some (t251, s2_1)) = some (r1, r2) := H
      have A15 := Aside0.mk A150
      clear A150
      simp only [Option.some.injEq, Prod.mk.injEq] at H
      obtain ⟨rfl, rfl⟩ := H
      go_enter Tryd.func31, Tryd.ntmps31
      go_wp2_with (first | ((with_reducible refine gate_dst (N := 5) rfl ?_); refine box_event ?hg (N := 5) ?hd (cs := #[.slice A0_0 l0_0.length c0_0, .slice A0_1 l0_1.length c0_1, .int .i64 a0_2]) (t := 34) ?hr ?_; (case hd => rfl); (case hg => rfl); (case hr => first | (go_simp; done) | (go_simp; rfl)); intro gb248 hg w16 hbox hb; have n0_ := Aside0.mk (IsS69.below (by repeat (first | (with_reducible first | exact HI2.out | apply IsS69.alloc | apply IsS69.drewN | apply IsS69.drew | apply IsS69.set_1) | exact HI2.out)) hb); have n1_ := Aside0.mk (KeepBut.trans (by repeat (first | (with_reducible first | exact HK.out | apply KeepBut.set_ | apply keep_drewN | apply keep_drew | apply keep_alloc) | exact HK.out)) (KeepBut.of_below hb g none) (.inl rfl)); have n2_ := Aside0.mk (below_step (by repeat (first | (with_reducible first | exact HB.out | apply below_alloc | apply pw_below_drewN | apply below_drew1 | refine below_set ?_ (IsS69.ge HI2.out)) | exact HB.out)) hb); have n3_ := Aside0.mk (hbox); have n4_ := Aside0.mk ((by rw [hg]; exact (keep_size (w := w) (g := g) (row := none) (by repeat (first | (with_reducible first | exact HK.out | apply KeepBut.set_ | apply keep_drewN | apply keep_drew | apply keep_alloc) | exact HK.out))) : w.heap.size ≤ gb248)); have n5_ := Aside0.mk ((Nat.le_trans HW0.out (by rw [hg]; exact (keep_size (w := w) (g := g) (row := none) (by repeat (first | (with_reducible first | exact HK.out | apply KeepBut.set_ | apply keep_drewN | apply keep_drew | apply keep_alloc) | exact HK.out))) : w.heap.size ≤ gb248) : w0.heap.size ≤ gb248)); have n6_ := Aside0.mk ((by rw [hg]; exact Nat.ne_of_lt (IsS69.lt (show IsS69 w0 _ g s2_0 s2_1 from by repeat (first | (with_reducible first | exact HI2.out | apply IsS69.alloc | apply IsS69.drewN | apply IsS69.drew | apply IsS69.set_1) | exact HI2.out))) : g ≠ gb248)); have n7_ := Aside0.mk ((by rw [hg]; exact Nat.ne_of_gt (IsS69.lt (show IsS69 w0 _ g s2_0 s2_1 from by repeat (first | (with_reducible first | exact HI2.out | apply IsS69.alloc | apply IsS69.drewN | apply IsS69.drew | apply IsS69.set_1) | exact HI2.out))) : gb248 ≠ g)); clear HI2; clear HK; clear HB; have HI2 := n0_; have HK := n1_; have HB := n2_; have BK248 := n3_; have GW248 := n4_; have GE248 := n5_; have NB2_248 := n6_; have NB248_2 := n7_; clear n0_ n1_ n2_ n3_ n4_ n5_ n6_ n7_; clear hb hbox hg) | ((with_reducible refine gate_dst (N := 6) rfl ?_); refine box_event ?hg (N := 6) ?hd (cs := #[.int .u8 a1_0, .int .i64 a1_1, .int .i64 a1_2]) (t := 45) ?hr ?_; (case hd => rfl); (case hg => rfl); (case hr => first | (go_simp; done) | (go_simp; rfl)); intro gb249 hg w17 hbox hb; have n0_ := Aside0.mk (IsS69.below (by repeat (first | (with_reducible first | exact HI2.out | apply IsS69.alloc | apply IsS69.drewN | apply IsS69.drew | apply IsS69.set_1 | refine IsS69.far ?_ NB2_248.out _) | exact HI2.out)) hb); have n1_ := Aside0.mk (blk_below (g := gb248) (o := .cells #[.slice A0_0 l0_0.length c0_0, .slice A0_1 l0_1.length c0_1, .int .i64 a0_2] 34 (0, 0)) (by (with_reducible repeat (first | refine blk_drewN ?_ _ | refine blk_drew ?_ | refine blk_alloc ?_ _)); exact BK248.out) hb); have n2_ := Aside0.mk (KeepBut.trans (by repeat (first | (with_reducible first | exact HK.out | apply KeepBut.set_ | apply keep_drewN | apply keep_drew | apply keep_alloc | refine keep_far ?_ GW248.out _) | exact HK.out)) (KeepBut.of_below hb g none) (.inl rfl)); have n3_ := Aside0.mk (below_step (by repeat (first | (with_reducible first | exact HB.out | apply below_alloc | apply pw_below_drewN | apply below_drew1 | refine below_set ?_ (IsS69.ge HI2.out) | refine below_set ?_ GE248.out) | exact HB.out)) hb); have n4_ := Aside0.mk (hbox); have n5_ := Aside0.mk ((by rw [hg]; exact (keep_size (w := w) (g := g) (row := none) (by repeat (first | (with_reducible first | exact HK.out | apply KeepBut.set_ | apply keep_drewN | apply keep_drew | apply keep_alloc | refine keep_far ?_ GW248.out _) | exact HK.out))) : w.heap.size ≤ gb249)); have n6_ := Aside0.mk ((Nat.le_trans HW0.out (by rw [hg]; exact (keep_size (w := w) (g := g) (row := none) (by repeat (first | (with_reducible first | exact HK.out | apply KeepBut.set_ | apply keep_drewN | apply keep_drew | apply keep_alloc | refine keep_far ?_ GW248.out _) | exact HK.out))) : w.heap.size ≤ gb249) : w0.heap.size ≤ gb249)); have n7_ := Aside0.mk ((by rw [hg]; exact Nat.ne_of_lt (blk_lt (g := gb248) (o := .cells #[.slice A0_0 l0_0.length c0_0, .slice A0_1 l0_1.length c0_1, .int .i64 a0_2] 34 (0, 0)) (by (with_reducible repeat (first | refine blk_drewN ?_ _ | refine blk_drew ?_ | refine blk_alloc ?_ _)); exact BK248.out)) : gb248 ≠ gb249)); have n8_ := Aside0.mk ((by rw [hg]; exact Nat.ne_of_gt (blk_lt (g := gb248) (o := .cells #[.slice A0_0 l0_0.length c0_0, .slice A0_1 l0_1.length c0_1, .int .i64 a0_2] 34 (0, 0)) (by (with_reducible repeat (first | refine blk_drewN ?_ _ | refine blk_drew ?_ | refine blk_alloc ?_ _)); exact BK248.out)) : gb249 ≠ gb248)); have n9_ := Aside0.mk ((by rw [hg]; exact Nat.ne_of_lt (IsS69.lt (show IsS69 w0 _ g s2_0 s2_1 from by repeat (first | (with_reducible first | exact HI2.out | apply IsS69.alloc | apply IsS69.drewN | apply IsS69.drew | apply IsS69.set_1 | refine IsS69.far ?_ NB2_248.out _) | exact HI2.out))) : g ≠ gb249)); have n10_ := Aside0.mk ((by rw [hg]; exact Nat.ne_of_gt (IsS69.lt (show IsS69 w0 _ g s2_0 s2_1 from by repeat (first | (with_reducible first | exact HI2.out | apply IsS69.alloc | apply IsS69.drewN | apply IsS69.drew | apply IsS69.set_1 | refine IsS69.far ?_ NB2_248.out _) | exact HI2.out))) : gb249 ≠ g)); clear HI2; clear BK248; clear HK; clear HB; have HI2 := n0_; have BK248 := n1_; have HK := n2_; have HB := n3_; have BK249 := n4_; have GW249 := n5_; have GE249 := n6_; have NB248_249 := n7_; have NB249_248 := n8_; have NB2_249 := n9_; have NB249_2 := n10_; clear n0_ n1_ n2_ n3_ n4_ n5_ n6_ n7_ n8_ n9_ n10_; clear hb hbox hg) | ((with_reducible refine gate_dst (N := 9) rfl ?_); refine box_event ?hg (N := 9) ?hd (cs := #[.string a4_0, .int .u8 a4_1, .int .i64 a4_2, .int .i64 a4_3, .int .u64 a4_4]) (t := 47) ?hr ?_; (case hd => rfl); (case hg => rfl); (case hr => first | (go_simp; done) | (go_simp; rfl)); intro gb250 hg w18 hbox hb; have n0_ := Aside0.mk (IsS69.below (by repeat (first | (with_reducible first | exact HI2.out | apply IsS69.alloc | apply IsS69.drewN | apply IsS69.drew | apply IsS69.set_1 | refine IsS69.far ?_ NB2_248.out _ | refine IsS69.far ?_ NB2_249.out _) | exact HI2.out)) hb); have n1_ := Aside0.mk (blk_below (g := gb248) (o := .cells #[.slice A0_0 l0_0.length c0_0, .slice A0_1 l0_1.length c0_1, .int .i64 a0_2] 34 (0, 0)) (by (with_reducible repeat (first | refine blk_drewN ?_ _ | refine blk_drew ?_ | refine blk_alloc ?_ _)); exact BK248.out) hb); have n2_ := Aside0.mk (blk_below (g := gb249) (o := .cells #[.int .u8 a1_0, .int .i64 a1_1, .int .i64 a1_2] 45 (0, 0)) (by (with_reducible repeat (first | refine blk_drewN ?_ _ | refine blk_drew ?_ | refine blk_alloc ?_ _)); exact BK249.out) hb); have n3_ := Aside0.mk (KeepBut.trans (by repeat (first | (with_reducible first | exact HK.out | apply KeepBut.set_ | apply keep_drewN | apply keep_drew | apply keep_alloc | refine keep_far ?_ GW248.out _ | refine keep_far ?_ GW249.out _) | exact HK.out)) (KeepBut.of_below hb g none) (.inl rfl)); have n4_ := Aside0.mk (below_step (by repeat (first | (with_reducible first | exact HB.out | apply below_alloc | apply pw_below_drewN | apply below_drew1 | refine below_set ?_ (IsS69.ge HI2.out) | refine below_set ?_ GE248.out | refine below_set ?_ GE249.out) | exact HB.out)) hb); have n5_ := Aside0.mk (hbox); have n6_ := Aside0.mk ((by rw [hg]; exact (keep_size (w := w) (g := g) (row := none) (by repeat (first | (with_reducible first | exact HK.out | apply KeepBut.set_ | apply keep_drewN | apply keep_drew | apply keep_alloc | refine keep_far ?_ GW248.out _ | refine keep_far ?_ GW249.out _) | exact HK.out))) : w.heap.size ≤ gb250)); have n7_ := Aside0.mk ((Nat.le_trans HW0.out (by rw [hg]; exact (keep_size (w := w) (g := g) (row := none) (by repeat (first | (with_reducible first | exact HK.out | apply KeepBut.set_ | apply keep_drewN | apply keep_drew | apply keep_alloc | refine keep_far ?_ GW248.out _ | refine keep_far ?_ GW249.out _) | exact HK.out))) : w.heap.size ≤ gb250) : w0.heap.size ≤ gb250)); have n8_ := Aside0.mk ((by rw [hg]; exact Nat.ne_of_lt (blk_lt (g := gb248) (o := .cells #[.slice A0_0 l0_0.length c0_0, .slice A0_1 l0_1.length c0_1, .int .i64 a0_2] 34 (0, 0)) (by (with_reducible repeat (first | refine blk_drewN ?_ _ | refine blk_drew ?_ | refine blk_alloc ?_ _)); exact BK248.out)) : gb248 ≠ gb250)); have n9_ := Aside0.mk ((by rw [hg]; exact Nat.ne_of_gt (blk_lt (g := gb248) (o := .cells #[.slice A0_0 l0_0.length c0_0, .slice A0_1 l0_1.length c0_1, .int .i64 a0_2] 34 (0, 0)) (by (with_reducible repeat (first | refine blk_drewN ?_ _ | refine blk_drew ?_ | refine blk_alloc ?_ _)); exact BK248.out)) : gb250 ≠ gb248)); have n10_ := Aside0.mk ((by rw [hg]; exact Nat.ne_of_lt (blk_lt (g := gb249) (o := .cells #[.int .u8 a1_0, .int .i64 a1_1, .int .i64 a1_2] 45 (0, 0)) (by (with_reducible repeat (first | refine blk_drewN ?_ _ | refine blk_drew ?_ | refine blk_alloc ?_ _)); exact BK249.out)) : gb249 ≠ gb250)); have n11_ := Aside0.mk ((by rw [hg]; exact Nat.ne_of_gt (blk_lt (g := gb249) (o := .cells #[.int .u8 a1_0, .int .i64 a1_1, .int .i64 a1_2] 45 (0, 0)) (by (with_reducible repeat (first | refine blk_drewN ?_ _ | refine blk_drew ?_ | refine blk_alloc ?_ _)); exact BK249.out)) : gb250 ≠ gb249)); have n12_ := Aside0.mk ((by rw [hg]; exact Nat.ne_of_lt (IsS69.lt (show IsS69 w0 _ g s2_0 s2_1 from by repeat (first | (with_reducible first | exact HI2.out | apply IsS69.alloc | apply IsS69.drewN | apply IsS69.drew | apply IsS69.set_1 | refine IsS69.far ?_ NB2_248.out _ | refine IsS69.far ?_ NB2_249.out _) | exact HI2.out))) : g ≠ gb250)); have n13_ := Aside0.mk ((by rw [hg]; exact Nat.ne_of_gt (IsS69.lt (show IsS69 w0 _ g s2_0 s2_1 from by repeat (first | (with_reducible first | exact HI2.out | apply IsS69.alloc | apply IsS69.drewN | apply IsS69.drew | apply IsS69.set_1 | refine IsS69.far ?_ NB2_248.out _ | refine IsS69.far ?_ NB2_249.out _) | exact HI2.out))) : gb250 ≠ g)); clear HI2; clear BK248; clear BK249; clear HK; clear HB; have HI2 := n0_; have BK248 := n1_; have BK249 := n2_; have HK := n3_; have HB := n4_; have BK250 := n5_; have GW250 := n6_; have GE250 := n7_; have NB248_250 := n8_; have NB250_248 := n9_; have NB249_250 := n10_; have NB250_249 := n11_; have NB2_250 := n12_; have NB250_2 := n13_; clear n0_ n1_ n2_ n3_ n4_ n5_ n6_ n7_ n8_ n9_ n10_ n11_ n12_ n13_; clear hb hbox hg; have hnb19 := NB248_249.out; have hnc19 := NB249_248.out; have hnb20 := NB248_250.out; have hnc20 := NB250_248.out; have hnb21 := NB248_2.out; have hnc21 := NB2_248.out; have hcz22_0 : w18.cell? ⟨gb248, 0, none⟩ = some (.slice A0_0 l0_0.length c0_0) := (blk_cell BK248.out 0).trans rfl; have hcz22_1 : w18.cell? ⟨gb248, 1, none⟩ = some (.slice A0_1 l0_1.length c0_1) := (blk_cell BK248.out 1).trans rfl; have hcz22_2 : w18.cell? ⟨gb248, 2, none⟩ = some (.int .i64 a0_2) := (blk_cell BK248.out 2).trans rfl; have hfz22_0 := blk_frozen BK248.out 0; have hfz22_1 := blk_frozen BK248.out 1; have hfz22_2 := blk_frozen BK248.out 2; have hnb23 := NB249_250.out; have hnc23 := NB250_249.out; have hnb24 := NB249_2.out; have hnc24 := NB2_249.out; have hcz25_0 : w18.cell? ⟨gb249, 0, none⟩ = some (.int .u8 a1_0) := (blk_cell BK249.out 0).trans rfl; have hcz25_1 : w18.cell? ⟨gb249, 1, none⟩ = some (.int .i64 a1_1) := (blk_cell BK249.out 1).trans rfl; have hcz25_2 : w18.cell? ⟨gb249, 2, none⟩ = some (.int .i64 a1_2) := (blk_cell BK249.out 2).trans rfl; have hfz25_0 := blk_frozen BK249.out 0; have hfz25_1 := blk_frozen BK249.out 1; have hfz25_2 := blk_frozen BK249.out 2) | ((with_reducible refine gate_callee (f := 16) rfl ?_); refine goesL_ (some 23) rfl rfl Tryd.func16 (by kernel_rfl) rfl #[.agg #[.slice A0_0 l0_0.length c0_0, .slice A0_1 l0_1.length c0_1, .int .i64 a0_2], .agg #[.int .u8 a1_0, .int .i64 a1_1, .int .i64 a1_2], .int .u64 18446744073709551615] rfl (by (try simp only [List.map_toArray, List.map_cons, List.map_nil]); first | done | rfl | (simp only [List.length_drop, List.length_take]; rfl)) ?_; (with_reducible refine (transomhand05_Number.calls k _ _ l0_0 _ _ l0_1 a0_2 a1_0 a1_1 a1_2 18446744073709551615 t251 _ ?side1 ?side2 ?side3 ?side4 A15.out).mono ?_); (case side1 => exact Kd.C_foot_now HR0_0.out (by repeat (first | (with_reducible first | exact HK.out | apply KeepBut.set_ | apply keep_drewN | apply keep_drew | apply keep_alloc | refine keep_far ?_ GW248.out _ | refine keep_far ?_ GW249.out _ | refine keep_far ?_ GW250.out _) | exact HK.out))); (case side2 => exact HC0_0.out); (case side3 => exact Kd.C_foot_now HR0_1.out (by repeat (first | (with_reducible first | exact HK.out | apply KeepBut.set_ | apply keep_drewN | apply keep_drew | apply keep_alloc | refine keep_far ?_ GW248.out _ | refine keep_far ?_ GW249.out _ | refine keep_far ?_ GW250.out _) | exact HK.out))); (case side4 => exact HC0_1.out); rintro e w26 ⟨rfl, hb⟩; refine ⟨_, rfl, ?_⟩; have n0_ := Aside0.mk (IsS69.below (by repeat (first | (with_reducible first | exact HI2.out | apply IsS69.alloc | apply IsS69.drewN | apply IsS69.drew | apply IsS69.set_1 | refine IsS69.far ?_ NB2_248.out _ | refine IsS69.far ?_ NB2_249.out _ | refine IsS69.far ?_ NB2_250.out _) | exact HI2.out)) hb); have n1_ := Aside0.mk (blk_below (g := gb248) (o := .cells #[.slice A0_0 l0_0.length c0_0, .slice A0_1 l0_1.length c0_1, .int .i64 a0_2] 34 (0, 0)) (by (with_reducible repeat (first | refine blk_drewN ?_ _ | refine blk_drew ?_ | refine blk_alloc ?_ _)); exact BK248.out) hb); have n2_ := Aside0.mk (blk_below (g := gb249) (o := .cells #[.int .u8 a1_0, .int .i64 a1_1, .int .i64 a1_2] 45 (0, 0)) (by (with_reducible repeat (first | refine blk_drewN ?_ _ | refine blk_drew ?_ | refine blk_alloc ?_ _)); exact BK249.out) hb); have n3_ := Aside0.mk (blk_below (g := gb250) (o := .cells #[.string a4_0, .int .u8 a4_1, .int .i64 a4_2, .int .i64 a4_3, .int .u64 a4_4] 47 (0, 0)) (by (with_reducible repeat (first | refine blk_drewN ?_ _ | refine blk_drew ?_ | refine blk_alloc ?_ _)); exact BK250.out) hb); have n4_ := Aside0.mk (KeepBut.trans (by repeat (first | (with_reducible first | exact HK.out | apply KeepBut.set_ | apply keep_drewN | apply keep_drew | apply keep_alloc | refine keep_far ?_ GW248.out _ | refine keep_far ?_ GW249.out _ | refine keep_far ?_ GW250.out _) | exact HK.out)) (KeepBut.of_below hb g none) (.inl rfl)); have n5_ := Aside0.mk (below_step (by repeat (first | (with_reducible first | exact HB.out | apply below_alloc | apply pw_below_drewN | apply below_drew1 | refine below_set ?_ (IsS69.ge HI2.out) | refine below_set ?_ GE248.out | refine below_set ?_ GE249.out | refine below_set ?_ GE250.out) | exact HB.out)) hb); clear HI2; clear BK248; clear BK249; clear BK250; clear HK; clear HB; have HI2 := n0_; have BK248 := n1_; have BK249 := n2_; have BK250 := n3_; have HK := n4_; have HB := n5_; clear n0_ n1_ n2_ n3_ n4_ n5_; (try clear hb); (try clear hb2); (try clear hk); (try clear hi)))
      go_ret
      exact ⟨by first | rfl | (simp [errW_none, errW_some] <;> rfl) | (simp [*, errW_none, errW_some] <;> rfl), by repeat (first | (with_reducible first | exact HI2.out | apply IsS69.alloc | apply IsS69.drewN | apply IsS69.drew | apply IsS69.set_1 | refine IsS69.far ?_ NB2_248.out _ | refine IsS69.far ?_ NB2_249.out _ | refine IsS69.far ?_ NB2_250.out _) | exact HI2.out), by repeat (first | (with_reducible first | exact HB.out | apply below_alloc | apply pw_below_drewN | apply below_drew1 | refine below_set ?_ (IsS69.ge HI2.out) | refine below_set ?_ GE248.out | refine below_set ?_ GE249.out | refine below_set ?_ GE250.out) | exact HB.out), by repeat (first | (with_reducible first | exact HK.out | apply KeepBut.set_ | apply keep_drewN | apply keep_drew | apply keep_alloc | refine keep_far ?_ GW248.out _ | refine keep_far ?_ GW249.out _ | refine keep_far ?_ GW250.out _) | exact HK.out)⟩
    · rw [if_neg c14] at H
      have c14b0 : ((Int.tmod a3 5) == 1) = false := beq_eq_false_iff_ne.mpr c14
      have c14b1 : ((Int.tmod a3 5) != 1) = true := bne_iff_ne.mpr c14
      by_cases c27 : (Int.tmod a3 5) = 2
      · rw [if_pos c27] at H
        have c27b0 : ((Int.tmod a3 5) == 2) = true := beq_iff_eq.mpr c27
        have c27b1 : ((Int.tmod a3 5) != 2) = false := bne_eq_false_iff_eq.mpr c27
        clear c27
        replace H := Option.bind_eq_some_iff.mp H
        obtain ⟨t252, A280, H⟩ := H
        replace H : (if 0 ≤ (wrap64 ((wrap64 (8 * t252)) - 1)) then ((transomhand05_Number.f k l0_0 l0_1 a0_2 a1_0 a1_1 a1_2 (shl .u64 1 (wrap64 ((wrap64 (8 * t252)) - 1)))).bind fun t253 => (some (t253, s2_1))) else (none)) = some (r1, r2) := H
        have A28 := Aside0.mk A280
        clear A280
        obtain ⟨ji29, hji29⟩ : ∃ j_ : Int, (wrap64 ((wrap64 (8 * t252)) - 1)) = j_ := ⟨_, rfl⟩
        replace H : (if 0 ≤ (ji29) then ((transomhand05_Number.f k l0_0 l0_1 a0_2 a1_0 a1_1 a1_2 (shl .u64 1 (ji29))).bind fun t253 => (some (t253, s2_1))) else (none)) = some (r1, r2) := by first | (rw [hji29] at H; exact H) | (simp only [hji29] at H ⊢; exact H)
        (try rw [hji29] at A28)
        have hji29w : (IntKind.i64.wrap ((wrap64 (8 * t252)) - 1)) = ji29 := (i64_w _).trans hji29
        by_cases c30 : 0 ≤ (ji29)
        · rw [if_pos c30] at H
          have c30b0 := eq_true c30
          have c30b1 : decide (0 ≤ (ji29)) = true := decide_eq_true c30
          clear c30
          obtain ⟨ji31, hji31⟩ : ∃ j_ : Int, (shl .u64 1 (ji29)) = j_ := ⟨_, rfl⟩
          replace H : ((transomhand05_Number.f k l0_0 l0_1 a0_2 a1_0 a1_1 a1_2 (ji31)).bind fun t253 => (some (t253, s2_1))) = some (r1, r2) := by first | (rw [hji31] at H; exact H) | (simp only [hji31] at H ⊢; exact H)
          (try rw [hji31] at A28)
          have hji31_ : (IntKind.u64.wrap (1 * 2 ^ min (ji29).toNat 64)) = ji31 := hji31
          have hji31z : (ji29) ≤ 64 → (IntKind.u64.wrap (1 * 2 ^ (ji29).toNat)) = ji31 := shl_small hji31
          have hji31u : (IntKind.u64.wrap (2 ^ min (ji29).toNat 64)) = ji31 := by have h_ := hji31_; rw [Int.one_mul] at h_; exact h_
          have hji31v : (ji29) ≤ 64 → (IntKind.u64.wrap (2 ^ (ji29).toNat)) = ji31 := fun hle_ => by have h_ := hji31z hle_; rw [Int.one_mul] at h_; exact h_
          replace H := Option.bind_eq_some_iff.mp H
          obtain ⟨t253, A320, H⟩ := H
          replace H : (some (t253, s2_1)) = some (r1, r2) := H
          have A32 := Aside0.mk A320
          clear A320
          simp only [Option.some.injEq, Prod.mk.injEq] at H
          obtain ⟨rfl, rfl⟩ := H
          go_enter Tryd.func31, Tryd.ntmps31
          try go_wp2_with (first | ((with_reducible refine gate_dst (N := 5) rfl ?_); refine box_event ?hg (N := 5) ?hd (cs := #[.slice A0_0 l0_0.length c0_0, .slice A0_1 l0_1.length c0_1, .int .i64 a0_2]) (t := 34) ?hr ?_; (case hd => rfl); (case hg => rfl); (case hr => first | (go_simp; done) | (go_simp; rfl)); intro gb248 hg w33 hbox hb; have n0_ := Aside0.mk (IsS69.below (by repeat (first | (with_reducible first | exact HI2.out | apply IsS69.alloc | apply IsS69.drewN | apply IsS69.drew | apply IsS69.set_1) | exact HI2.out)) hb); have n1_ := Aside0.mk (KeepBut.trans (by repeat (first | (with_reducible first | exact HK.out | apply KeepBut.set_ | apply keep_drewN | apply keep_drew | apply keep_alloc) | exact HK.out)) (KeepBut.of_below hb g none) (.inl rfl)); have n2_ := Aside0.mk (below_step (by repeat (first | (with_reducible first | exact HB.out | apply below_alloc | apply pw_below_drewN | apply below_drew1 | refine below_set ?_ (IsS69.ge HI2.out)) | exact HB.out)) hb); have n3_ := Aside0.mk (hbox); have n4_ := Aside0.mk ((by rw [hg]; exact (keep_size (w := w) (g := g) (row := none) (by repeat (first | (with_reducible first | exact HK.out | apply KeepBut.set_ | apply keep_drewN | apply keep_drew | apply keep_alloc) | exact HK.out))) : w.heap.size ≤ gb248)); have n5_ := Aside0.mk ((Nat.le_trans HW0.out (by rw [hg]; exact (keep_size (w := w) (g := g) (row := none) (by repeat (first | (with_reducible first | exact HK.out | apply KeepBut.set_ | apply keep_drewN | apply keep_drew | apply keep_alloc) | exact HK.out))) : w.heap.size ≤ gb248) : w0.heap.size ≤ gb248)); have n6_ := Aside0.mk ((by rw [hg]; exact Nat.ne_of_lt (IsS69.lt (show IsS69 w0 _ g s2_0 s2_1 from by repeat (first | (with_reducible first | exact HI2.out | apply IsS69.alloc | apply IsS69.drewN | apply IsS69.drew | apply IsS69.set_1) | exact HI2.out))) : g ≠ gb248)); have n7_ := Aside0.mk ((by rw [hg]; exact Nat.ne_of_gt (IsS69.lt (show IsS69 w0 _ g s2_0 s2_1 from by repeat (first | (with_reducible first | exact HI2.out | apply IsS69.alloc | apply IsS69.drewN | apply IsS69.drew | apply IsS69.set_1) | exact HI2.out))) : gb248 ≠ g)); clear HI2; clear HK; clear HB; have HI2 := n0_; have HK := n1_; have HB := n2_; have BK248 := n3_; have GW248 := n4_; have GE248 := n5_; have NB2_248 := n6_; have NB248_2 := n7_; clear n0_ n1_ n2_ n3_ n4_ n5_ n6_ n7_; clear hb hbox hg) | ((with_reducible refine gate_dst (N := 6) rfl ?_); refine box_event ?hg (N := 6) ?hd (cs := #[.int .u8 a1_0, .int .i64 a1_1, .int .i64 a1_2]) (t := 45) ?hr ?_; (case hd => rfl); (case hg => rfl); (case hr => first | (go_simp; done) | (go_simp; rfl)); intro gb249 hg w34 hbox hb; have n0_ := Aside0.mk (IsS69.below (by repeat (first | (with_reducible first | exact HI2.out | apply IsS69.alloc | apply IsS69.drewN | apply IsS69.drew | apply IsS69.set_1 | refine IsS69.far ?_ NB2_248.out _) | exact HI2.out)) hb); have n1_ := Aside0.mk (blk_below (g := gb248) (o := .cells #[.slice A0_0 l0_0.length c0_0, .slice A0_1 l0_1.length c0_1, .int .i64 a0_2] 34 (0, 0)) (by (with_reducible repeat (first | refine blk_drewN ?_ _ | refine blk_drew ?_ | refine blk_alloc ?_ _)); exact BK248.out) hb); have n2_ := Aside0.mk (KeepBut.trans (by repeat (first | (with_reducible first | exact HK.out | apply KeepBut.set_ | apply keep_drewN | apply keep_drew | apply keep_alloc | refine keep_far ?_ GW248.out _) | exact HK.out)) (KeepBut.of_below hb g none) (.inl rfl)); have n3_ := Aside0.mk (below_step (by repeat (first | (with_reducible first | exact HB.out | apply below_alloc | apply pw_below_drewN | apply below_drew1 | refine below_set ?_ (IsS69.ge HI2.out) | refine below_set ?_ GE248.out) | exact HB.out)) hb); have n4_ := Aside0.mk (hbox); have n5_ := Aside0.mk ((by rw [hg]; exact (keep_size (w := w) (g := g) (row := none) (by repeat (first | (with_reducible first | exact HK.out | apply KeepBut.set_ | apply keep_drewN | apply keep_drew | apply keep_alloc | refine keep_far ?_ GW248.out _) | exact HK.out))) : w.heap.size ≤ gb249)); have n6_ := Aside0.mk ((Nat.le_trans HW0.out (by rw [hg]; exact (keep_size (w := w) (g := g) (row := none) (by repeat (first | (with_reducible first | exact HK.out | apply KeepBut.set_ | apply keep_drewN | apply keep_drew | apply keep_alloc | refine keep_far ?_ GW248.out _) | exact HK.out))) : w.heap.size ≤ gb249) : w0.heap.size ≤ gb249)); have n7_ := Aside0.mk ((by rw [hg]; exact Nat.ne_of_lt (blk_lt (g := gb248) (o := .cells #[.slice A0_0 l0_0.length c0_0, .slice A0_1 l0_1.length c0_1, .int .i64 a0_2] 34 (0, 0)) (by (with_reducible repeat (first | refine blk_drewN ?_ _ | refine blk_drew ?_ | refine blk_alloc ?_ _)); exact BK248.out)) : gb248 ≠ gb249)); have n8_ := Aside0.mk ((by rw [hg]; exact Nat.ne_of_gt (blk_lt (g := gb248) (o := .cells #[.slice A0_0 l0_0.length c0_0, .slice A0_1 l0_1.length c0_1, .int .i64 a0_2] 34 (0, 0)) (by (with_reducible repeat (first | refine blk_drewN ?_ _ | refine blk_drew ?_ | refine blk_alloc ?_ _)); exact BK248.out)) : gb249 ≠ gb248)); have n9_ := Aside0.mk ((by rw [hg]; exact Nat.ne_of_lt (IsS69.lt (show IsS69 w0 _ g s2_0 s2_1 from by repeat (first | (with_reducible first | exact HI2.out | apply IsS69.alloc | apply IsS69.drewN | apply IsS69.drew | apply IsS69.set_1 | refine IsS69.far ?_ NB2_248.out _) | exact HI2.out))) : g ≠ gb249)); have n10_ := Aside0.mk ((by rw [hg]; exact Nat.ne_of_gt (IsS69.lt (show IsS69 w0 _ g s2_0 s2_1 from by repeat (first | (with_reducible first | exact HI2.out | apply IsS69.alloc | apply IsS69.drewN | apply IsS69.drew | apply IsS69.set_1 | refine IsS69.far ?_ NB2_248.out _) | exact HI2.out))) : gb249 ≠ g)); clear HI2; clear BK248; clear HK; clear HB; have HI2 := n0_; have BK248 := n1_; have HK := n2_; have HB := n3_; have BK249 := n4_; have GW249 := n5_; have GE249 := n6_; have NB248_249 := n7_; have NB249_248 := n8_; have NB2_249 := n9_; have NB249_2 := n10_; clear n0_ n1_ n2_ n3_ n4_ n5_ n6_ n7_ n8_ n9_ n10_; clear hb hbox hg) | ((with_reducible refine gate_dst (N := 9) rfl ?_); refine box_event ?hg (N := 9) ?hd (cs := #[.string a4_0, .int .u8 a4_1, .int .i64 a4_2, .int .i64 a4_3, .int .u64 a4_4]) (t := 47) ?hr ?_; (case hd => rfl); (case hg => rfl); (case hr => first | (go_simp; done) | (go_simp; rfl)); intro gb250 hg w35 hbox hb; have n0_ := Aside0.mk (IsS69.below (by repeat (first | (with_reducible first | exact HI2.out | apply IsS69.alloc | apply IsS69.drewN | apply IsS69.drew | apply IsS69.set_1 | refine IsS69.far ?_ NB2_248.out _ | refine IsS69.far ?_ NB2_249.out _) | exact HI2.out)) hb); have n1_ := Aside0.mk (blk_below (g := gb248) (o := .cells #[.slice A0_0 l0_0.length c0_0, .slice A0_1 l0_1.length c0_1, .int .i64 a0_2] 34 (0, 0)) (by (with_reducible repeat (first | refine blk_drewN ?_ _ | refine blk_drew ?_ | refine blk_alloc ?_ _)); exact BK248.out) hb); have n2_ := Aside0.mk (blk_below (g := gb249) (o := .cells #[.int .u8 a1_0, .int .i64 a1_1, .int .i64 a1_2] 45 (0, 0)) (by (with_reducible repeat (first | refine blk_drewN ?_ _ | refine blk_drew ?_ | refine blk_alloc ?_ _)); exact BK249.out) hb); have n3_ := Aside0.mk (KeepBut.trans (by repeat (first | (with_reducible first | exact HK.out | apply KeepBut.set_ | apply keep_drewN | apply keep_drew | apply keep_alloc | refine keep_far ?_ GW248.out _ | refine keep_far ?_ GW249.out _) | exact HK.out)) (KeepBut.of_below hb g none) (.inl rfl)); have n4_ := Aside0.mk (below_step (by repeat (first | (with_reducible first | exact HB.out | apply below_alloc | apply pw_below_drewN | apply below_drew1 | refine below_set ?_ (IsS69.ge HI2.out) | refine below_set ?_ GE248.out | refine below_set ?_ GE249.out) | exact HB.out)) hb); have n5_ := Aside0.mk (hbox); have n6_ := Aside0.mk ((by rw [hg]; exact (keep_size (w := w) (g := g) (row := none) (by repeat (first | (with_reducible first | exact HK.out | apply KeepBut.set_ | apply keep_drewN | apply keep_drew | apply keep_alloc | refine keep_far ?_ GW248.out _ | refine keep_far ?_ GW249.out _) | exact HK.out))) : w.heap.size ≤ gb250)); have n7_ := Aside0.mk ((Nat.le_trans HW0.out (by rw [hg]; exact (keep_size (w := w) (g := g) (row := none) (by repeat (first | (with_reducible first | exact HK.out | apply KeepBut.set_ | apply keep_drewN | apply keep_drew | apply keep_alloc | refine keep_far ?_ GW248.out _ | refine keep_far ?_ GW249.out _) | exact HK.out))) : w.heap.size ≤ gb250) : w0.heap.size ≤ gb250)); have n8_ := Aside0.mk ((by rw [hg]; exact Nat.ne_of_lt (blk_lt (g := gb248) (o := .cells #[.slice A0_0 l0_0.length c0_0, .slice A0_1 l0_1.length c0_1, .int .i64 a0_2] 34 (0, 0)) (by (with_reducible repeat (first | refine blk_drewN ?_ _ | refine blk_drew ?_ | refine blk_alloc ?_ _)); exact BK248.out)) : gb248 ≠ gb250)); have n9_ := Aside0.mk ((by rw [hg]; exact Nat.ne_of_gt (blk_lt (g := gb248) (o := .cells #[.slice A0_0 l0_0.length c0_0, .slice A0_1 l0_1.length c0_1, .int .i64 a0_2] 34 (0, 0)) (by (with_reducible repeat (first | refine blk_drewN ?_ _ | refine blk_drew ?_ | refine blk_alloc ?_ _)); exact BK248.out)) : gb250 ≠ gb248)); have n10_ := Aside0.mk ((by rw [hg]; exact Nat.ne_of_lt (blk_lt (g := gb249) (o := .cells #[.int .u8 a1_0, .int .i64 a1_1, .int .i64 a1_2] 45 (0, 0)) (by (with_reducible repeat (first | refine blk_drewN ?_ _ | refine blk_drew ?_ | refine blk_alloc ?_ _)); exact BK249.out)) : gb249 ≠ gb250)); have n11_ := Aside0.mk ((by rw [hg]; exact Nat.ne_of_gt (blk_lt (g := gb249) (o := .cells #[.int .u8 a1_0, .int .i64 a1_1, .int .i64 a1_2] 45 (0, 0)) (by (with_reducible repeat (first | refine blk_drewN ?_ _ | refine blk_drew ?_ | refine blk_alloc ?_ _)); exact BK249.out)) : gb250 ≠ gb249)); have n12_ := Aside0.mk ((by rw [hg]; exact Nat.ne_of_lt (IsS69.lt (show IsS69 w0 _ g s2_0 s2_1 from by repeat (first | (with_reducible first | exact HI2.out | apply IsS69.alloc | apply IsS69.drewN | apply IsS69.drew | apply IsS69.set_1 | refine IsS69.far ?_ NB2_248.out _ | refine IsS69.far ?_ NB2_249.out _) | exact HI2.out))) : g ≠ gb250)); have n13_ := Aside0.mk ((by rw [hg]; exact Nat.ne_of_gt (IsS69.lt (show IsS69 w0 _ g s2_0 s2_1 from by repeat (first | (with_reducible first | exact HI2.out | apply IsS69.alloc | apply IsS69.drewN | apply IsS69.drew | apply IsS69.set_1 | refine IsS69.far ?_ NB2_248.out _ | refine IsS69.far ?_ NB2_249.out _) | exact HI2.out))) : gb250 ≠ g)); clear HI2; clear BK248; clear BK249; clear HK; clear HB; have HI2 := n0_; have BK248 := n1_; have BK249 := n2_; have HK := n3_; have HB := n4_; have BK250 := n5_; have GW250 := n6_; have GE250 := n7_; have NB248_250 := n8_; have NB250_248 := n9_; have NB249_250 := n10_; have NB250_249 := n11_; have NB2_250 := n12_; have NB250_2 := n13_; clear n0_ n1_ n2_ n3_ n4_ n5_ n6_ n7_ n8_ n9_ n10_ n11_ n12_ n13_; clear hb hbox hg))
          have n0_ := Aside0.mk (blk_drew BK248.out)
          have n1_ := Aside0.mk (blk_drew BK249.out)
          have n2_ := Aside0.mk (blk_drew BK250.out)
          have n3_ := Aside0.mk (IsS69.drew HI2.out)
          have n4_ := Aside0.mk (keep_drew HK.out)
          have n5_ := Aside0.mk (below_drew1 HB.out)
          clear BK248
          clear BK249
          clear BK250
          clear HI2
          clear HK
          clear HB
          have BK248 := n0_
          have BK249 := n1_
          have BK250 := n2_
          have HI2 := n3_
          have HK := n4_
          have HB := n5_
          clear n0_ n1_ n2_ n3_ n4_ n5_
          refine start_ (n := 11) (S := fun w' => w'.cell? ⟨gb248, 0, none⟩ = some (.slice A0_0 l0_0.length c0_0) ∧ w'.cell? ⟨gb248, 1, none⟩ = some (.slice A0_1 l0_1.length c0_1) ∧ w'.cell? ⟨gb248, 2, none⟩ = some (.int .i64 a0_2) ∧ w'.cell? ⟨gb249, 0, none⟩ = some (.int .u8 a1_0) ∧ w'.cell? ⟨gb249, 1, none⟩ = some (.int .i64 a1_1) ∧ w'.cell? ⟨gb249, 2, none⟩ = some (.int .i64 a1_2)) (ds := []) #[false, false, false, false, false, false, false, false, false, false, false] (by kernel_rfl) rfl rfl ⟨(blk_cell BK248.out 0).trans rfl, (blk_cell BK248.out 1).trans rfl, (blk_cell BK248.out 2).trans rfl, (blk_cell BK249.out 0).trans rfl, (blk_cell BK249.out 1).trans rfl, (blk_cell BK249.out 2).trans rfl⟩ (fun hHeld => ?_); refine with_tabW transomhand05_number.tab7 transomhand05_number.bits7 (fun HT_ HW_ => ?_)
          generalize w35.drew = w36 at BK248 BK249 BK250 HI2 HK HB hHeld ⊢
          refine pure_ (i := 2) (N := some 28) (v := ?_) (a' := ?_) #[false, false, true, false, false, false, false, false, false, false, false] rfl rfl (any_of HT_.out (by kernel_rfl)) (fun _ _ _ h => h) (Or.inl ⟨by rfl, ?_⟩) ?_ ?_
          rotate_left
          · intro w'
            go_simp
            with_reducible rfl
          rotate_left
          · simp only [Act.put, List.setIfInBounds_toArray, List.set_cons_zero, List.set_cons_succ, i64_w, i32_w]
            rfl
          refine take_ (i := 0) (N := some 26) (v := ?_) (a' := ?_) #[true, false, true, false, false, false, false, false, false, false, false] rfl rfl (take_ofW HT_.out HW_.out (by kernel_rfl)) (fun _ _ _ h => h) (Or.inl ⟨by rfl, ?_⟩) hHeld ?_ ?_
          rotate_left
          · rintro w' ⟨s0, s1, s2, s3, s4, s5⟩
            go_simp
            with_reducible rfl
          rotate_left
          · simp only [Act.put, List.setIfInBounds_toArray, List.set_cons_zero, List.set_cons_succ, i64_w, i32_w]
            rfl
          refine take_ (i := 1) (N := some 27) (v := ?_) (a' := ?_) #[true, true, true, false, false, false, false, false, false, false, false] rfl rfl (take_ofW HT_.out HW_.out (by kernel_rfl)) (fun _ _ _ h => h) (Or.inl ⟨by rfl, ?_⟩) hHeld ?_ ?_
          rotate_left
          · rintro w' ⟨s0, s1, s2, s3, s4, s5⟩
            go_simp
            with_reducible rfl
          rotate_left
          · simp only [Act.put, List.setIfInBounds_toArray, List.set_cons_zero, List.set_cons_succ, i64_w, i32_w]
            rfl
          refine take_ (i := 3) (N := some 29) (v := ?_) (a' := ?_) #[true, true, true, true, false, false, false, false, false, false, false] rfl rfl (take_ofW HT_.out HW_.out (by kernel_rfl)) (fun _ _ _ h => h) (Or.inl ⟨by rfl, ?_⟩) hHeld ?_ ?_
          rotate_left
          · rintro w' ⟨s0, s1, s2, s3, s4, s5⟩
            go_simp
            with_reducible rfl
          rotate_left
          · simp only [Act.put, List.setIfInBounds_toArray, List.set_cons_zero, List.set_cons_succ, i64_w, i32_w]
            rfl
          refine pure_ (i := 4) (N := some 30) (v := ?_) (a' := ?_) #[true, true, true, true, true, false, false, false, false, false, false] rfl rfl (any_of HT_.out (by kernel_rfl)) (fun _ _ _ h => h) (Or.inl ⟨by rfl, ?_⟩) ?_ ?_
          rotate_left
          · intro w'
            go_simp
            with_reducible rfl
          rotate_left
          · simp only [Act.put, List.setIfInBounds_toArray, List.set_cons_zero, List.set_cons_succ, i64_w, i32_w]
            rfl
          refine one_ (i := 5) (N := some 31) #[true, true, true, true, true, true, false, false, false, false, false] rfl rfl (one_of HT_.out (by kernel_rfl)) (by decide) (fun K hK => ?_)
          refine goes_ Tryd.func20 (by kernel_rfl) rfl #[.int .i64 (wrap64 (a1_0))] (by rfl) rfl rfl (by (try simp only [List.map_toArray, List.map_cons, List.map_nil]); first | done | rfl | (simp only [List.length_drop, List.length_take]; rfl)) ?_
          with_reducible refine (transomref01_Size.calls k (wrap64 (a1_0)) t252 _ A28.out).mono ?_
          rintro e w' ⟨rfl, ⟨nd, rfl⟩⟩
          refine ⟨_, rfl, ?_⟩
          refine hK.out _ _ ⟨(blk_cell BK248.out 0).trans rfl, (blk_cell BK248.out 1).trans rfl, (blk_cell BK248.out 2).trans rfl, (blk_cell BK249.out 0).trans rfl, (blk_cell BK249.out 1).trans rfl, (blk_cell BK249.out 2).trans rfl⟩ (fun hHeld => ?_)
          clear hK K
          refine norm_ (a' := ?_) ?_ ?_
          rotate_left
          · show Act.put _ (some 31) _ = _
            simp only [Act.put, List.setIfInBounds_toArray, List.set_cons_zero, List.set_cons_succ, i64_w, i32_w]
            rfl
          refine pure_ (i := 6) (N := some 32) (v := ?_) (a' := ?_) #[true, true, true, true, true, true, true, false, false, false, false] rfl rfl (any_of HT_.out (by kernel_rfl)) (fun _ _ _ h => h) (Or.inl ⟨by rfl, ?_⟩) ?_ ?_
          rotate_left
          · intro w'
            go_simp
            with_reducible rfl
          rotate_left
          · simp only [Act.put, List.setIfInBounds_toArray, List.set_cons_zero, List.set_cons_succ, i64_w, i32_w]
            rfl
          refine pure_ (i := 7) (N := some 33) (v := ?_) (a' := ?_) #[true, true, true, true, true, true, true, true, false, false, false] rfl rfl (any_of HT_.out (by kernel_rfl)) (fun _ _ _ h => h) (Or.inl ⟨by rfl, ?_⟩) ?_ ?_
          rotate_left
          · intro w'
            go_simp
            with_reducible rfl
          rotate_left
          · simp only [Act.put, List.setIfInBounds_toArray, List.set_cons_zero, List.set_cons_succ, i64_w, i32_w]
            rfl
          refine pure_ (i := 8) (N := some 34) (v := ?_) (a' := ?_) #[true, true, true, true, true, true, true, true, true, false, false] rfl rfl (any_of HT_.out (by kernel_rfl)) (fun _ _ _ h => h) (Or.inl ⟨by rfl, ?_⟩) ?_ ?_
          rotate_left
          · intro w'
            go_simp
            with_reducible rfl
          rotate_left
          · simp only [Act.put, List.setIfInBounds_toArray, List.set_cons_zero, List.set_cons_succ, i64_w, i32_w]
            rfl
          refine one_ (i := 9) (N := some 35) #[true, true, true, true, true, true, true, true, true, true, false] rfl rfl (one_of HT_.out (by kernel_rfl)) (by decide) (fun K hK => ?_)
          refine goes_ Tryd.func16 (by kernel_rfl) rfl #[.agg #[.slice A0_0 l0_0.length c0_0, .slice A0_1 l0_1.length c0_1, .int .i64 a0_2], .agg #[.int .u8 a1_0, .int .i64 a1_1, .int .i64 a1_2], .int .u64 ji31] (by rfl) rfl rfl (by (try simp only [List.map_toArray, List.map_cons, List.map_nil]); first | done | (simp only [hji31]; rfl) | rfl | (simp only [List.length_drop, List.length_take]; rfl)) ?_
          with_reducible refine (transomhand05_Number.calls k _ _ l0_0 _ _ l0_1 a0_2 a1_0 a1_1 a1_2 ji31 t253 _ ?side1 ?side2 ?side3 ?side4 A32.out).mono ?_
          (case side1 => exact Kd.C_foot_now HR0_0.out (by repeat (first | (with_reducible first | exact HK.out | apply KeepBut.set_ | apply keep_drewN | apply keep_drew | apply keep_alloc | refine keep_far ?_ GW248.out _ | refine keep_far ?_ GW249.out _ | refine keep_far ?_ GW250.out _) | exact HK.out)))
          (case side2 => exact HC0_0.out)
          (case side3 => exact Kd.C_foot_now HR0_1.out (by repeat (first | (with_reducible first | exact HK.out | apply KeepBut.set_ | apply keep_drewN | apply keep_drew | apply keep_alloc | refine keep_far ?_ GW248.out _ | refine keep_far ?_ GW249.out _ | refine keep_far ?_ GW250.out _) | exact HK.out)))
          (case side4 => exact HC0_1.out)
          rintro e w37 ⟨rfl, hb⟩
          refine ⟨_, rfl, ?_⟩
          have n0_ := Aside0.mk (IsS69.below (by repeat (first | (with_reducible first | exact HI2.out | apply IsS69.alloc | apply IsS69.drewN | apply IsS69.drew | apply IsS69.set_1 | refine IsS69.far ?_ NB2_248.out _ | refine IsS69.far ?_ NB2_249.out _ | refine IsS69.far ?_ NB2_250.out _) | exact HI2.out)) hb)
          have n1_ := Aside0.mk (blk_below (g := gb248) (o := .cells #[.slice A0_0 l0_0.length c0_0, .slice A0_1 l0_1.length c0_1, .int .i64 a0_2] 34 (0, 0)) (by (with_reducible repeat (first | refine blk_drewN ?_ _ | refine blk_drew ?_ | refine blk_alloc ?_ _)); exact BK248.out) hb)
          have n2_ := Aside0.mk (blk_below (g := gb249) (o := .cells #[.int .u8 a1_0, .int .i64 a1_1, .int .i64 a1_2] 45 (0, 0)) (by (with_reducible repeat (first | refine blk_drewN ?_ _ | refine blk_drew ?_ | refine blk_alloc ?_ _)); exact BK249.out) hb)
          have n3_ := Aside0.mk (blk_below (g := gb250) (o := .cells #[.string a4_0, .int .u8 a4_1, .int .i64 a4_2, .int .i64 a4_3, .int .u64 a4_4] 47 (0, 0)) (by (with_reducible repeat (first | refine blk_drewN ?_ _ | refine blk_drew ?_ | refine blk_alloc ?_ _)); exact BK250.out) hb)
          have n4_ := Aside0.mk (KeepBut.trans (by repeat (first | (with_reducible first | exact HK.out | apply KeepBut.set_ | apply keep_drewN | apply keep_drew | apply keep_alloc | refine keep_far ?_ GW248.out _ | refine keep_far ?_ GW249.out _ | refine keep_far ?_ GW250.out _) | exact HK.out)) (KeepBut.of_below hb g none) (.inl rfl))
          have n5_ := Aside0.mk (below_step (by repeat (first | (with_reducible first | exact HB.out | apply below_alloc | apply pw_below_drewN | apply below_drew1 | refine below_set ?_ (IsS69.ge HI2.out) | refine below_set ?_ GE248.out | refine below_set ?_ GE249.out | refine below_set ?_ GE250.out) | exact HB.out)) hb)
          clear HI2
          clear BK248
          clear BK249
          clear BK250
          clear HK
          clear HB
          have HI2 := n0_
          have BK248 := n1_
          have BK249 := n2_
          have BK250 := n3_
          have HK := n4_
          have HB := n5_
          clear n0_ n1_ n2_ n3_ n4_ n5_
          (try clear hb)
          (try clear hb2)
          (try clear hk)
          (try clear hi)
          refine hK.out _ _ ⟨(blk_cell BK248.out 0).trans rfl, (blk_cell BK248.out 1).trans rfl, (blk_cell BK248.out 2).trans rfl, (blk_cell BK249.out 0).trans rfl, (blk_cell BK249.out 1).trans rfl, (blk_cell BK249.out 2).trans rfl⟩ (fun hHeld => ?_)
          clear hK K
          refine norm_ (a' := ?_) ?_ ?_
          rotate_left
          · show Act.put _ (some 35) _ = _
            simp only [Act.put, List.setIfInBounds_toArray, List.set_cons_zero, List.set_cons_succ, i64_w, i32_w]
            rfl
          refine pure_ (i := 10) (N := some 10) (v := ?_) (a' := ?_) #[true, true, true, true, true, true, true, true, true, true, true] rfl rfl (any_of HT_.out (by kernel_rfl)) (fun _ _ _ h => h) (Or.inl ⟨by rfl, ?_⟩) ?_ ?_
          rotate_left
          · intro w'
            go_simp
            with_reducible rfl
          rotate_left
          · simp only [Act.put, List.setIfInBounds_toArray, List.set_cons_zero, List.set_cons_succ, i64_w, i32_w]
            rfl
          refine done_ (done_of HT_.out (by kernel_rfl)) ?_
          try go_wp2
          go_ret
          exact ⟨by first | rfl | (simp [errW_none, errW_some] <;> rfl) | (simp only [← hji29, ← hji31]; first | rfl | (simp [errW_none, errW_some] <;> rfl)) | (simp [*, errW_none, errW_some] <;> rfl), by repeat (first | (with_reducible first | exact HI2.out | apply IsS69.alloc | apply IsS69.drewN | apply IsS69.drew | apply IsS69.set_1 | refine IsS69.far ?_ NB2_248.out _ | refine IsS69.far ?_ NB2_249.out _ | refine IsS69.far ?_ NB2_250.out _) | exact HI2.out), by repeat (first | (with_reducible first | exact HB.out | apply below_alloc | apply pw_below_drewN | apply below_drew1 | refine below_set ?_ (IsS69.ge HI2.out) | refine below_set ?_ GE248.out | refine below_set ?_ GE249.out | refine below_set ?_ GE250.out) | exact HB.out), by repeat (first | (with_reducible first | exact HK.out | apply KeepBut.set_ | apply keep_drewN | apply keep_drew | apply keep_alloc | refine keep_far ?_ GW248.out _ | refine keep_far ?_ GW249.out _ | refine keep_far ?_ GW250.out _) | exact HK.out)⟩
        · rw [if_neg c30] at H
          exact absurd H (by simp)
      · rw [if_neg c27] at H
        have c27b0 : ((Int.tmod a3 5) == 2) = false := beq_eq_false_iff_ne.mpr c27
        have c27b1 : ((Int.tmod a3 5) != 2) = true := bne_iff_ne.mpr c27
        by_cases c38 : (Int.tmod a3 5) = 3
        · rw [if_pos c38] at H
          have c38b0 : ((Int.tmod a3 5) == 3) = true := beq_iff_eq.mpr c38
          have c38b1 : ((Int.tmod a3 5) != 3) = false := bne_eq_false_iff_eq.mpr c38
          clear c38
          replace H := Option.bind_eq_some_iff.mp H
          obtain ⟨⟨t254, t255⟩, A390, H⟩ := H
          replace H : ((transomhand05_Number.f k l0_0 l0_1 a0_2 a1_0 a1_1 a1_2 (IntKind.u64.wrap (t254))).bind fun t256 => (some (t256, t255))) = some (r1, r2) := H
          have A39 := Aside0.mk A390
          clear A390
          replace H := Option.bind_eq_some_iff.mp H
          obtain ⟨t256, A400, H⟩ := H
          replace H : (some (t256, t255)) = some (r1, r2) := H
          have A40 := Aside0.mk A400
          clear A400
          simp only [Option.some.injEq, Prod.mk.injEq] at H
          obtain ⟨rfl, rfl⟩ := H
          go_enter Tryd.func31, Tryd.ntmps31
          try go_wp2_with (first | ((with_reducible refine gate_dst (N := 5) rfl ?_); refine box_event ?hg (N := 5) ?hd (cs := #[.slice A0_0 l0_0.length c0_0, .slice A0_1 l0_1.length c0_1, .int .i64 a0_2]) (t := 34) ?hr ?_; (case hd => rfl); (case hg => rfl); (case hr => first | (go_simp; done) | (go_simp; rfl)); intro gb248 hg w41 hbox hb; have n0_ := Aside0.mk (IsS69.below (by repeat (first | (with_reducible first | exact HI2.out | apply IsS69.alloc | apply IsS69.drewN | apply IsS69.drew | apply IsS69.set_1) | exact HI2.out)) hb); have n1_ := Aside0.mk (KeepBut.trans (by repeat (first | (with_reducible first | exact HK.out | apply KeepBut.set_ | apply keep_drewN | apply keep_drew | apply keep_alloc) | exact HK.out)) (KeepBut.of_below hb g none) (.inl rfl)); have n2_ := Aside0.mk (below_step (by repeat (first | (with_reducible first | exact HB.out | apply below_alloc | apply pw_below_drewN | apply below_drew1 | refine below_set ?_ (IsS69.ge HI2.out)) | exact HB.out)) hb); have n3_ := Aside0.mk (hbox); have n4_ := Aside0.mk ((by rw [hg]; exact (keep_size (w := w) (g := g) (row := none) (by repeat (first | (with_reducible first | exact HK.out | apply KeepBut.set_ | apply keep_drewN | apply keep_drew | apply keep_alloc) | exact HK.out))) : w.heap.size ≤ gb248)); have n5_ := Aside0.mk ((Nat.le_trans HW0.out (by rw [hg]; exact (keep_size (w := w) (g := g) (row := none) (by repeat (first | (with_reducible first | exact HK.out | apply KeepBut.set_ | apply keep_drewN | apply keep_drew | apply keep_alloc) | exact HK.out))) : w.heap.size ≤ gb248) : w0.heap.size ≤ gb248)); have n6_ := Aside0.mk ((by rw [hg]; exact Nat.ne_of_lt (IsS69.lt (show IsS69 w0 _ g s2_0 s2_1 from by repeat (first | (with_reducible first | exact HI2.out | apply IsS69.alloc | apply IsS69.drewN | apply IsS69.drew | apply IsS69.set_1) | exact HI2.out))) : g ≠ gb248)); have n7_ := Aside0.mk ((by rw [hg]; exact Nat.ne_of_gt (IsS69.lt (show IsS69 w0 _ g s2_0 s2_1 from by repeat (first | (with_reducible first | exact HI2.out | apply IsS69.alloc | apply IsS69.drewN | apply IsS69.drew | apply IsS69.set_1) | exact HI2.out))) : gb248 ≠ g)); clear HI2; clear HK; clear HB; have HI2 := n0_; have HK := n1_; have HB := n2_; have BK248 := n3_; have GW248 := n4_; have GE248 := n5_; have NB2_248 := n6_; have NB248_2 := n7_; clear n0_ n1_ n2_ n3_ n4_ n5_ n6_ n7_; clear hb hbox hg) | ((with_reducible refine gate_dst (N := 6) rfl ?_); refine box_event ?hg (N := 6) ?hd (cs := #[.int .u8 a1_0, .int .i64 a1_1, .int .i64 a1_2]) (t := 45) ?hr ?_; (case hd => rfl); (case hg => rfl); (case hr => first | (go_simp; done) | (go_simp; rfl)); intro gb249 hg w42 hbox hb; have n0_ := Aside0.mk (IsS69.below (by repeat (first | (with_reducible first | exact HI2.out | apply IsS69.alloc | apply IsS69.drewN | apply IsS69.drew | apply IsS69.set_1 | refine IsS69.far ?_ NB2_248.out _) | exact HI2.out)) hb); have n1_ := Aside0.mk (blk_below (g := gb248) (o := .cells #[.slice A0_0 l0_0.length c0_0, .slice A0_1 l0_1.length c0_1, .int .i64 a0_2] 34 (0, 0)) (by (with_reducible repeat (first | refine blk_drewN ?_ _ | refine blk_drew ?_ | refine blk_alloc ?_ _)); exact BK248.out) hb); have n2_ := Aside0.mk (KeepBut.trans (by repeat (first | (with_reducible first | exact HK.out | apply KeepBut.set_ | apply keep_drewN | apply keep_drew | apply keep_alloc | refine keep_far ?_ GW248.out _) | exact HK.out)) (KeepBut.of_below hb g none) (.inl rfl)); have n3_ := Aside0.mk (below_step (by repeat (first | (with_reducible first | exact HB.out | apply below_alloc | apply pw_below_drewN | apply below_drew1 | refine below_set ?_ (IsS69.ge HI2.out) | refine below_set ?_ GE248.out) | exact HB.out)) hb); have n4_ := Aside0.mk (hbox); have n5_ := Aside0.mk ((by rw [hg]; exact (keep_size (w := w) (g := g) (row := none) (by repeat (first | (with_reducible first | exact HK.out | apply KeepBut.set_ | apply keep_drewN | apply keep_drew | apply keep_alloc | refine keep_far ?_ GW248.out _) | exact HK.out))) : w.heap.size ≤ gb249)); have n6_ := Aside0.mk ((Nat.le_trans HW0.out (by rw [hg]; exact (keep_size (w := w) (g := g) (row := none) (by repeat (first | (with_reducible first | exact HK.out | apply KeepBut.set_ | apply keep_drewN | apply keep_drew | apply keep_alloc | refine keep_far ?_ GW248.out _) | exact HK.out))) : w.heap.size ≤ gb249) : w0.heap.size ≤ gb249)); have n7_ := Aside0.mk ((by rw [hg]; exact Nat.ne_of_lt (blk_lt (g := gb248) (o := .cells #[.slice A0_0 l0_0.length c0_0, .slice A0_1 l0_1.length c0_1, .int .i64 a0_2] 34 (0, 0)) (by (with_reducible repeat (first | refine blk_drewN ?_ _ | refine blk_drew ?_ | refine blk_alloc ?_ _)); exact BK248.out)) : gb248 ≠ gb249)); have n8_ := Aside0.mk ((by rw [hg]; exact Nat.ne_of_gt (blk_lt (g := gb248) (o := .cells #[.slice A0_0 l0_0.length c0_0, .slice A0_1 l0_1.length c0_1, .int .i64 a0_2] 34 (0, 0)) (by (with_reducible repeat (first | refine blk_drewN ?_ _ | refine blk_drew ?_ | refine blk_alloc ?_ _)); exact BK248.out)) : gb249 ≠ gb248)); have n9_ := Aside0.mk ((by rw [hg]; exact Nat.ne_of_lt (IsS69.lt (show IsS69 w0 _ g s2_0 s2_1 from by repeat (first | (with_reducible first | exact HI2.out | apply IsS69.alloc | apply IsS69.drewN | apply IsS69.drew | apply IsS69.set_1 | refine IsS69.far ?_ NB2_248.out _) | exact HI2.out))) : g ≠ gb249)); have n10_ := Aside0.mk ((by rw [hg]; exact Nat.ne_of_gt (IsS69.lt (show IsS69 w0 _ g s2_0 s2_1 from by repeat (first | (with_reducible first | exact HI2.out | apply IsS69.alloc | apply IsS69.drewN | apply IsS69.drew | apply IsS69.set_1 | refine IsS69.far ?_ NB2_248.out _) | exact HI2.out))) : gb249 ≠ g)); clear HI2; clear BK248; clear HK; clear HB; have HI2 := n0_; have BK248 := n1_; have HK := n2_; have HB := n3_; have BK249 := n4_; have GW249 := n5_; have GE249 := n6_; have NB248_249 := n7_; have NB249_248 := n8_; have NB2_249 := n9_; have NB249_2 := n10_; clear n0_ n1_ n2_ n3_ n4_ n5_ n6_ n7_ n8_ n9_ n10_; clear hb hbox hg) | ((with_reducible refine gate_dst (N := 9) rfl ?_); refine box_event ?hg (N := 9) ?hd (cs := #[.string a4_0, .int .u8 a4_1, .int .i64 a4_2, .int .i64 a4_3, .int .u64 a4_4]) (t := 47) ?hr ?_; (case hd => rfl); (case hg => rfl); (case hr => first | (go_simp; done) | (go_simp; rfl)); intro gb250 hg w43 hbox hb; have n0_ := Aside0.mk (IsS69.below (by repeat (first | (with_reducible first | exact HI2.out | apply IsS69.alloc | apply IsS69.drewN | apply IsS69.drew | apply IsS69.set_1 | refine IsS69.far ?_ NB2_248.out _ | refine IsS69.far ?_ NB2_249.out _) | exact HI2.out)) hb); have n1_ := Aside0.mk (blk_below (g := gb248) (o := .cells #[.slice A0_0 l0_0.length c0_0, .slice A0_1 l0_1.length c0_1, .int .i64 a0_2] 34 (0, 0)) (by (with_reducible repeat (first | refine blk_drewN ?_ _ | refine blk_drew ?_ | refine blk_alloc ?_ _)); exact BK248.out) hb); have n2_ := Aside0.mk (blk_below (g := gb249) (o := .cells #[.int .u8 a1_0, .int .i64 a1_1, .int .i64 a1_2] 45 (0, 0)) (by (with_reducible repeat (first | refine blk_drewN ?_ _ | refine blk_drew ?_ | refine blk_alloc ?_ _)); exact BK249.out) hb); have n3_ := Aside0.mk (KeepBut.trans (by repeat (first | (with_reducible first | exact HK.out | apply KeepBut.set_ | apply keep_drewN | apply keep_drew | apply keep_alloc | refine keep_far ?_ GW248.out _ | refine keep_far ?_ GW249.out _) | exact HK.out)) (KeepBut.of_below hb g none) (.inl rfl)); have n4_ := Aside0.mk (below_step (by repeat (first | (with_reducible first | exact HB.out | apply below_alloc | apply pw_below_drewN | apply below_drew1 | refine below_set ?_ (IsS69.ge HI2.out) | refine below_set ?_ GE248.out | refine below_set ?_ GE249.out) | exact HB.out)) hb); have n5_ := Aside0.mk (hbox); have n6_ := Aside0.mk ((by rw [hg]; exact (keep_size (w := w) (g := g) (row := none) (by repeat (first | (with_reducible first | exact HK.out | apply KeepBut.set_ | apply keep_drewN | apply keep_drew | apply keep_alloc | refine keep_far ?_ GW248.out _ | refine keep_far ?_ GW249.out _) | exact HK.out))) : w.heap.size ≤ gb250)); have n7_ := Aside0.mk ((Nat.le_trans HW0.out (by rw [hg]; exact (keep_size (w := w) (g := g) (row := none) (by repeat (first | (with_reducible first | exact HK.out | apply KeepBut.set_ | apply keep_drewN | apply keep_drew | apply keep_alloc | refine keep_far ?_ GW248.out _ | refine keep_far ?_ GW249.out _) | exact HK.out))) : w.heap.size ≤ gb250) : w0.heap.size ≤ gb250)); have n8_ := Aside0.mk ((by rw [hg]; exact Nat.ne_of_lt (blk_lt (g := gb248) (o := .cells #[.slice A0_0 l0_0.length c0_0, .slice A0_1 l0_1.length c0_1, .int .i64 a0_2] 34 (0, 0)) (by (with_reducible repeat (first | refine blk_drewN ?_ _ | refine blk_drew ?_ | refine blk_alloc ?_ _)); exact BK248.out)) : gb248 ≠ gb250)); have n9_ := Aside0.mk ((by rw [hg]; exact Nat.ne_of_gt (blk_lt (g := gb248) (o := .cells #[.slice A0_0 l0_0.length c0_0, .slice A0_1 l0_1.length c0_1, .int .i64 a0_2] 34 (0, 0)) (by (with_reducible repeat (first | refine blk_drewN ?_ _ | refine blk_drew ?_ | refine blk_alloc ?_ _)); exact BK248.out)) : gb250 ≠ gb248)); have n10_ := Aside0.mk ((by rw [hg]; exact Nat.ne_of_lt (blk_lt (g := gb249) (o := .cells #[.int .u8 a1_0, .int .i64 a1_1, .int .i64 a1_2] 45 (0, 0)) (by (with_reducible repeat (first | refine blk_drewN ?_ _ | refine blk_drew ?_ | refine blk_alloc ?_ _)); exact BK249.out)) : gb249 ≠ gb250)); have n11_ := Aside0.mk ((by rw [hg]; exact Nat.ne_of_gt (blk_lt (g := gb249) (o := .cells #[.int .u8 a1_0, .int .i64 a1_1, .int .i64 a1_2] 45 (0, 0)) (by (with_reducible repeat (first | refine blk_drewN ?_ _ | refine blk_drew ?_ | refine blk_alloc ?_ _)); exact BK249.out)) : gb250 ≠ gb249)); have n12_ := Aside0.mk ((by rw [hg]; exact Nat.ne_of_lt (IsS69.lt (show IsS69 w0 _ g s2_0 s2_1 from by repeat (first | (with_reducible first | exact HI2.out | apply IsS69.alloc | apply IsS69.drewN | apply IsS69.drew | apply IsS69.set_1 | refine IsS69.far ?_ NB2_248.out _ | refine IsS69.far ?_ NB2_249.out _) | exact HI2.out))) : g ≠ gb250)); have n13_ := Aside0.mk ((by rw [hg]; exact Nat.ne_of_gt (IsS69.lt (show IsS69 w0 _ g s2_0 s2_1 from by repeat (first | (with_reducible first | exact HI2.out | apply IsS69.alloc | apply IsS69.drewN | apply IsS69.drew | apply IsS69.set_1 | refine IsS69.far ?_ NB2_248.out _ | refine IsS69.far ?_ NB2_249.out _) | exact HI2.out))) : gb250 ≠ g)); clear HI2; clear BK248; clear BK249; clear HK; clear HB; have HI2 := n0_; have BK248 := n1_; have BK249 := n2_; have HK := n3_; have HB := n4_; have BK250 := n5_; have GW250 := n6_; have GE250 := n7_; have NB248_250 := n8_; have NB250_248 := n9_; have NB249_250 := n10_; have NB250_249 := n11_; have NB2_250 := n12_; have NB250_2 := n13_; clear n0_ n1_ n2_ n3_ n4_ n5_ n6_ n7_ n8_ n9_ n10_ n11_ n12_ n13_; clear hb hbox hg))
          have n0_ := Aside0.mk (blk_drew BK248.out)
          have n1_ := Aside0.mk (blk_drew BK249.out)
          have n2_ := Aside0.mk (blk_drew BK250.out)
          have n3_ := Aside0.mk (IsS69.drew HI2.out)
          have n4_ := Aside0.mk (keep_drew HK.out)
          have n5_ := Aside0.mk (below_drew1 HB.out)
          clear BK248
          clear BK249
          clear BK250
          clear HI2
          clear HK
          clear HB
          have BK248 := n0_
          have BK249 := n1_
          have BK250 := n2_
          have HI2 := n3_
          have HK := n4_
          have HB := n5_
          clear n0_ n1_ n2_ n3_ n4_ n5_
          refine start_ (n := 7) (S := fun w' => w'.cell? ⟨gb248, 0, none⟩ = some (.slice A0_0 l0_0.length c0_0) ∧ w'.cell? ⟨gb248, 1, none⟩ = some (.slice A0_1 l0_1.length c0_1) ∧ w'.cell? ⟨gb248, 2, none⟩ = some (.int .i64 a0_2) ∧ w'.cell? ⟨gb249, 0, none⟩ = some (.int .u8 a1_0) ∧ w'.cell? ⟨gb249, 1, none⟩ = some (.int .i64 a1_1) ∧ w'.cell? ⟨gb249, 2, none⟩ = some (.int .i64 a1_2)) (ds := []) #[false, false, false, false, false, false, false] (by kernel_rfl) rfl rfl ⟨(blk_cell BK248.out 0).trans rfl, (blk_cell BK248.out 1).trans rfl, (blk_cell BK248.out 2).trans rfl, (blk_cell BK249.out 0).trans rfl, (blk_cell BK249.out 1).trans rfl, (blk_cell BK249.out 2).trans rfl⟩ (fun hHeld => ?_)
          generalize w43.drew = w44 at BK248 BK249 BK250 HI2 HK HB hHeld ⊢
          refine pure_ (i := 2) (N := some 40) (v := ?_) (a' := ?_) #[false, false, true, false, false, false, false] rfl rfl (by kernel_rfl) (fun _ _ _ h => h) (Or.inl ⟨by rfl, ?_⟩) ?_ ?_
          rotate_left
          · intro w'
            go_simp
            with_reducible rfl
          rotate_left
          · simp only [Act.put, List.setIfInBounds_toArray, List.set_cons_zero, List.set_cons_succ, i64_w, i32_w]
            rfl
          refine take_ (i := 0) (N := some 38) (v := ?_) (a' := ?_) #[true, false, true, false, false, false, false] rfl rfl (by kernel_rfl) (fun _ _ _ h => h) (Or.inl ⟨by rfl, ?_⟩) hHeld ?_ ?_
          rotate_left
          · rintro w' ⟨s0, s1, s2, s3, s4, s5⟩
            go_simp
            with_reducible rfl
          rotate_left
          · simp only [Act.put, List.setIfInBounds_toArray, List.set_cons_zero, List.set_cons_succ, i64_w, i32_w]
            rfl
          refine take_ (i := 1) (N := some 39) (v := ?_) (a' := ?_) #[true, true, true, false, false, false, false] rfl rfl (by kernel_rfl) (fun _ _ _ h => h) (Or.inl ⟨by rfl, ?_⟩) hHeld ?_ ?_
          rotate_left
          · rintro w' ⟨s0, s1, s2, s3, s4, s5⟩
            go_simp
            with_reducible rfl
          rotate_left
          · simp only [Act.put, List.setIfInBounds_toArray, List.set_cons_zero, List.set_cons_succ, i64_w, i32_w]
            rfl
          refine one_ (i := 3) (N := some 41) #[true, true, true, true, false, false, false] rfl rfl (by kernel_rfl) (by decide) (fun K hK => ?_)
          refine goes_ Tryd.func30 (by kernel_rfl) rfl #[.pointer (some ⟨g, 0, none⟩)] (by rfl) rfl rfl (by (try simp only [List.map_toArray, List.map_cons, List.map_nil]); first | done | rfl | (simp only [List.length_drop, List.length_take]; rfl)) ?_
          with_reducible refine (transomhand05_Source_next.calls g s2_0 s2_1 t254 t255 w0 _ ?side1 ?side2 A39.out).mono ?_
          (case side1 => repeat (first | (with_reducible first | exact HI2.out | apply IsS69.alloc | apply IsS69.drewN | apply IsS69.drew | apply IsS69.set_1 | refine IsS69.far ?_ NB2_248.out _ | refine IsS69.far ?_ NB2_249.out _ | refine IsS69.far ?_ NB2_250.out _) | exact HI2.out))
          (case side2 => repeat (first | (with_reducible first | exact HB.out | apply below_alloc | apply pw_below_drewN | apply below_drew1 | refine below_set ?_ (IsS69.ge HI2.out) | refine below_set ?_ GE248.out | refine below_set ?_ GE249.out | refine below_set ?_ GE250.out) | exact HB.out))
          rintro e w45 ⟨rfl, hi, hb, hk⟩
          refine ⟨_, rfl, ?_⟩
          have n0_ := Aside0.mk (KeepBut.blk hk (g' := gb248) (o := .cells #[.slice A0_0 l0_0.length c0_0, .slice A0_1 l0_1.length c0_1, .int .i64 a0_2] 34 (0, 0)) (by (with_reducible repeat (first | refine blk_drewN ?_ _ | refine blk_drew ?_ | refine blk_alloc ?_ _)); exact BK248.out) NB248_2.out (by simp))
          have n1_ := Aside0.mk (KeepBut.blk hk (g' := gb249) (o := .cells #[.int .u8 a1_0, .int .i64 a1_1, .int .i64 a1_2] 45 (0, 0)) (by (with_reducible repeat (first | refine blk_drewN ?_ _ | refine blk_drew ?_ | refine blk_alloc ?_ _)); exact BK249.out) NB249_2.out (by simp))
          have n2_ := Aside0.mk (KeepBut.blk hk (g' := gb250) (o := .cells #[.string a4_0, .int .u8 a4_1, .int .i64 a4_2, .int .i64 a4_3, .int .u64 a4_4] 47 (0, 0)) (by (with_reducible repeat (first | refine blk_drewN ?_ _ | refine blk_drew ?_ | refine blk_alloc ?_ _)); exact BK250.out) NB250_2.out (by simp))
          have n3_ := Aside0.mk (KeepBut.trans (by repeat (first | (with_reducible first | exact HK.out | apply KeepBut.set_ | apply keep_drewN | apply keep_drew | apply keep_alloc | refine keep_far ?_ GW248.out _ | refine keep_far ?_ GW249.out _ | refine keep_far ?_ GW250.out _) | exact HK.out)) hk (.inl rfl))
          have n4_ := Aside0.mk (hb)
          have n5_ := Aside0.mk (hi)
          clear BK248
          clear BK249
          clear BK250
          clear HK
          clear HB
          clear HI2
          have BK248 := n0_
          have BK249 := n1_
          have BK250 := n2_
          have HK := n3_
          have HB := n4_
          have HI2 := n5_
          clear n0_ n1_ n2_ n3_ n4_ n5_
          (try clear hb)
          (try clear hb2)
          (try clear hk)
          (try clear hi)
          refine hK.out _ _ ⟨(blk_cell BK248.out 0).trans rfl, (blk_cell BK248.out 1).trans rfl, (blk_cell BK248.out 2).trans rfl, (blk_cell BK249.out 0).trans rfl, (blk_cell BK249.out 1).trans rfl, (blk_cell BK249.out 2).trans rfl⟩ (fun hHeld => ?_)
          clear hK K
          refine norm_ (a' := ?_) ?_ ?_
          rotate_left
          · show Act.put _ (some 41) _ = _
            simp only [Act.put, List.setIfInBounds_toArray, List.set_cons_zero, List.set_cons_succ, i64_w, i32_w]
            rfl
          refine pure_ (i := 4) (N := some 42) (v := ?_) (a' := ?_) #[true, true, true, true, true, false, false] rfl rfl (by kernel_rfl) (fun _ _ _ h => h) (Or.inl ⟨by rfl, ?_⟩) ?_ ?_
          rotate_left
          · intro w'
            go_simp
            with_reducible rfl
          rotate_left
          · simp only [Act.put, List.setIfInBounds_toArray, List.set_cons_zero, List.set_cons_succ, i64_w, i32_w]
            rfl
          refine one_ (i := 5) (N := some 43) #[true, true, true, true, true, true, false] rfl rfl (by kernel_rfl) (by decide) (fun K hK => ?_)
          refine goes_ Tryd.func16 (by kernel_rfl) rfl #[.agg #[.slice A0_0 l0_0.length c0_0, .slice A0_1 l0_1.length c0_1, .int .i64 a0_2], .agg #[.int .u8 a1_0, .int .i64 a1_1, .int .i64 a1_2], .int .u64 (IntKind.u64.wrap (t254))] (by rfl) rfl rfl (by (try simp only [List.map_toArray, List.map_cons, List.map_nil]); first | done | rfl | (simp only [List.length_drop, List.length_take]; rfl)) ?_
          with_reducible refine (transomhand05_Number.calls k _ _ l0_0 _ _ l0_1 a0_2 a1_0 a1_1 a1_2 (IntKind.u64.wrap (t254)) t256 _ ?side1 ?side2 ?side3 ?side4 A40.out).mono ?_
          (case side1 => exact Kd.C_foot_now HR0_0.out (by repeat (first | (with_reducible first | exact HK.out | apply KeepBut.set_ | apply keep_drewN | apply keep_drew | apply keep_alloc | refine keep_far ?_ GW248.out _ | refine keep_far ?_ GW249.out _ | refine keep_far ?_ GW250.out _) | exact HK.out)))
          (case side2 => exact HC0_0.out)
          (case side3 => exact Kd.C_foot_now HR0_1.out (by repeat (first | (with_reducible first | exact HK.out | apply KeepBut.set_ | apply keep_drewN | apply keep_drew | apply keep_alloc | refine keep_far ?_ GW248.out _ | refine keep_far ?_ GW249.out _ | refine keep_far ?_ GW250.out _) | exact HK.out)))
          (case side4 => exact HC0_1.out)
          rintro e w46 ⟨rfl, hb⟩
          refine ⟨_, rfl, ?_⟩
          have n0_ := Aside0.mk (IsS69.below (by repeat (first | (with_reducible first | exact HI2.out | apply IsS69.alloc | apply IsS69.drewN | apply IsS69.drew | apply IsS69.set_1 | refine IsS69.far ?_ NB2_248.out _ | refine IsS69.far ?_ NB2_249.out _ | refine IsS69.far ?_ NB2_250.out _) | exact HI2.out)) hb)
          have n1_ := Aside0.mk (blk_below (g := gb248) (o := .cells #[.slice A0_0 l0_0.length c0_0, .slice A0_1 l0_1.length c0_1, .int .i64 a0_2] 34 (0, 0)) (by (with_reducible repeat (first | refine blk_drewN ?_ _ | refine blk_drew ?_ | refine blk_alloc ?_ _)); exact BK248.out) hb)
          have n2_ := Aside0.mk (blk_below (g := gb249) (o := .cells #[.int .u8 a1_0, .int .i64 a1_1, .int .i64 a1_2] 45 (0, 0)) (by (with_reducible repeat (first | refine blk_drewN ?_ _ | refine blk_drew ?_ | refine blk_alloc ?_ _)); exact BK249.out) hb)
          have n3_ := Aside0.mk (blk_below (g := gb250) (o := .cells #[.string a4_0, .int .u8 a4_1, .int .i64 a4_2, .int .i64 a4_3, .int .u64 a4_4] 47 (0, 0)) (by (with_reducible repeat (first | refine blk_drewN ?_ _ | refine blk_drew ?_ | refine blk_alloc ?_ _)); exact BK250.out) hb)
          have n4_ := Aside0.mk (KeepBut.trans (by repeat (first | (with_reducible first | exact HK.out | apply KeepBut.set_ | apply keep_drewN | apply keep_drew | apply keep_alloc | refine keep_far ?_ GW248.out _ | refine keep_far ?_ GW249.out _ | refine keep_far ?_ GW250.out _) | exact HK.out)) (KeepBut.of_below hb g none) (.inl rfl))
          have n5_ := Aside0.mk (below_step (by repeat (first | (with_reducible first | exact HB.out | apply below_alloc | apply pw_below_drewN | apply below_drew1 | refine below_set ?_ (IsS69.ge HI2.out) | refine below_set ?_ GE248.out | refine below_set ?_ GE249.out | refine below_set ?_ GE250.out) | exact HB.out)) hb)
          clear HI2
          clear BK248
          clear BK249
          clear BK250
          clear HK
          clear HB
          have HI2 := n0_
          have BK248 := n1_
          have BK249 := n2_
          have BK250 := n3_
          have HK := n4_
          have HB := n5_
          clear n0_ n1_ n2_ n3_ n4_ n5_
          (try clear hb)
          (try clear hb2)
          (try clear hk)
          (try clear hi)
          refine hK.out _ _ ⟨(blk_cell BK248.out 0).trans rfl, (blk_cell BK248.out 1).trans rfl, (blk_cell BK248.out 2).trans rfl, (blk_cell BK249.out 0).trans rfl, (blk_cell BK249.out 1).trans rfl, (blk_cell BK249.out 2).trans rfl⟩ (fun hHeld => ?_)
          clear hK K
          refine norm_ (a' := ?_) ?_ ?_
          rotate_left
          · show Act.put _ (some 43) _ = _
            simp only [Act.put, List.setIfInBounds_toArray, List.set_cons_zero, List.set_cons_succ, i64_w, i32_w]
            rfl
          refine pure_ (i := 6) (N := some 10) (v := ?_) (a' := ?_) #[true, true, true, true, true, true, true] rfl rfl (by kernel_rfl) (fun _ _ _ h => h) (Or.inl ⟨by rfl, ?_⟩) ?_ ?_
          rotate_left
          · intro w'
            go_simp
            with_reducible rfl
          rotate_left
          · simp only [Act.put, List.setIfInBounds_toArray, List.set_cons_zero, List.set_cons_succ, i64_w, i32_w]
            rfl
          refine done_ (by kernel_rfl) ?_
          try go_wp2
          go_ret
          exact ⟨by first | rfl | (simp [errW_none, errW_some] <;> rfl) | (simp [*, errW_none, errW_some] <;> rfl), by repeat (first | (with_reducible first | exact HI2.out | apply IsS69.alloc | apply IsS69.drewN | apply IsS69.drew | apply IsS69.set_1 | refine IsS69.far ?_ NB2_248.out _ | refine IsS69.far ?_ NB2_249.out _ | refine IsS69.far ?_ NB2_250.out _) | exact HI2.out), by repeat (first | (with_reducible first | exact HB.out | apply below_alloc | apply pw_below_drewN | apply below_drew1 | refine below_set ?_ (IsS69.ge HI2.out) | refine below_set ?_ GE248.out | refine below_set ?_ GE249.out | refine below_set ?_ GE250.out) | exact HB.out), by repeat (first | (with_reducible first | exact HK.out | apply KeepBut.set_ | apply keep_drewN | apply keep_drew | apply keep_alloc | refine keep_far ?_ GW248.out _ | refine keep_far ?_ GW249.out _ | refine keep_far ?_ GW250.out _) | exact HK.out)⟩
        · rw [if_neg c38] at H
          have c38b0 : ((Int.tmod a3 5) == 3) = false := beq_eq_false_iff_ne.mpr c38
          have c38b1 : ((Int.tmod a3 5) != 3) = true := bne_iff_ne.mpr c38
          have H' := Aside0.mk H
          clear H
          go_enter Tryd.func31, Tryd.ntmps31
          go_wp2_with (first | ((with_reducible refine gate_dst (N := 5) rfl ?_); refine box_event ?hg (N := 5) ?hd (cs := #[.slice A0_0 l0_0.length c0_0, .slice A0_1 l0_1.length c0_1, .int .i64 a0_2]) (t := 34) ?hr ?_; (case hd => rfl); (case hg => rfl); (case hr => first | (go_simp; done) | (go_simp; rfl)); intro gb248 hg w47 hbox hb; have n0_ := Aside0.mk (IsS69.below (by repeat (first | (with_reducible first | exact HI2.out | apply IsS69.alloc | apply IsS69.drewN | apply IsS69.drew | apply IsS69.set_1) | exact HI2.out)) hb); have n1_ := Aside0.mk (KeepBut.trans (by repeat (first | (with_reducible first | exact HK.out | apply KeepBut.set_ | apply keep_drewN | apply keep_drew | apply keep_alloc) | exact HK.out)) (KeepBut.of_below hb g none) (.inl rfl)); have n2_ := Aside0.mk (below_step (by repeat (first | (with_reducible first | exact HB.out | apply below_alloc | apply pw_below_drewN | apply below_drew1 | refine below_set ?_ (IsS69.ge HI2.out)) | exact HB.out)) hb); have n3_ := Aside0.mk (hbox); have n4_ := Aside0.mk ((by rw [hg]; exact (keep_size (w := w) (g := g) (row := none) (by repeat (first | (with_reducible first | exact HK.out | apply KeepBut.set_ | apply keep_drewN | apply keep_drew | apply keep_alloc) | exact HK.out))) : w.heap.size ≤ gb248)); have n5_ := Aside0.mk ((Nat.le_trans HW0.out (by rw [hg]; exact (keep_size (w := w) (g := g) (row := none) (by repeat (first | (with_reducible first | exact HK.out | apply KeepBut.set_ | apply keep_drewN | apply keep_drew | apply keep_alloc) | exact HK.out))) : w.heap.size ≤ gb248) : w0.heap.size ≤ gb248)); have n6_ := Aside0.mk ((by rw [hg]; exact Nat.ne_of_lt (IsS69.lt (show IsS69 w0 _ g s2_0 s2_1 from by repeat (first | (with_reducible first | exact HI2.out | apply IsS69.alloc | apply IsS69.drewN | apply IsS69.drew | apply IsS69.set_1) | exact HI2.out))) : g ≠ gb248)); have n7_ := Aside0.mk ((by rw [hg]; exact Nat.ne_of_gt (IsS69.lt (show IsS69 w0 _ g s2_0 s2_1 from by repeat (first | (with_reducible first | exact HI2.out | apply IsS69.alloc | apply IsS69.drewN | apply IsS69.drew | apply IsS69.set_1) | exact HI2.out))) : gb248 ≠ g)); clear HI2; clear HK; clear HB; have HI2 := n0_; have HK := n1_; have HB := n2_; have BK248 := n3_; have GW248 := n4_; have GE248 := n5_; have NB2_248 := n6_; have NB248_2 := n7_; clear n0_ n1_ n2_ n3_ n4_ n5_ n6_ n7_; clear hb hbox hg) | ((with_reducible refine gate_dst (N := 6) rfl ?_); refine box_event ?hg (N := 6) ?hd (cs := #[.int .u8 a1_0, .int .i64 a1_1, .int .i64 a1_2]) (t := 45) ?hr ?_; (case hd => rfl); (case hg => rfl); (case hr => first | (go_simp; done) | (go_simp; rfl)); intro gb249 hg w48 hbox hb; have n0_ := Aside0.mk (IsS69.below (by repeat (first | (with_reducible first | exact HI2.out | apply IsS69.alloc | apply IsS69.drewN | apply IsS69.drew | apply IsS69.set_1 | refine IsS69.far ?_ NB2_248.out _) | exact HI2.out)) hb); have n1_ := Aside0.mk (blk_below (g := gb248) (o := .cells #[.slice A0_0 l0_0.length c0_0, .slice A0_1 l0_1.length c0_1, .int .i64 a0_2] 34 (0, 0)) (by (with_reducible repeat (first | refine blk_drewN ?_ _ | refine blk_drew ?_ | refine blk_alloc ?_ _)); exact BK248.out) hb); have n2_ := Aside0.mk (KeepBut.trans (by repeat (first | (with_reducible first | exact HK.out | apply KeepBut.set_ | apply keep_drewN | apply keep_drew | apply keep_alloc | refine keep_far ?_ GW248.out _) | exact HK.out)) (KeepBut.of_below hb g none) (.inl rfl)); have n3_ := Aside0.mk (below_step (by repeat (first | (with_reducible first | exact HB.out | apply below_alloc | apply pw_below_drewN | apply below_drew1 | refine below_set ?_ (IsS69.ge HI2.out) | refine below_set ?_ GE248.out) | exact HB.out)) hb); have n4_ := Aside0.mk (hbox); have n5_ := Aside0.mk ((by rw [hg]; exact (keep_size (w := w) (g := g) (row := none) (by repeat (first | (with_reducible first | exact HK.out | apply KeepBut.set_ | apply keep_drewN | apply keep_drew | apply keep_alloc | refine keep_far ?_ GW248.out _) | exact HK.out))) : w.heap.size ≤ gb249)); have n6_ := Aside0.mk ((Nat.le_trans HW0.out (by rw [hg]; exact (keep_size (w := w) (g := g) (row := none) (by repeat (first | (with_reducible first | exact HK.out | apply KeepBut.set_ | apply keep_drewN | apply keep_drew | apply keep_alloc | refine keep_far ?_ GW248.out _) | exact HK.out))) : w.heap.size ≤ gb249) : w0.heap.size ≤ gb249)); have n7_ := Aside0.mk ((by rw [hg]; exact Nat.ne_of_lt (blk_lt (g := gb248) (o := .cells #[.slice A0_0 l0_0.length c0_0, .slice A0_1 l0_1.length c0_1, .int .i64 a0_2] 34 (0, 0)) (by (with_reducible repeat (first | refine blk_drewN ?_ _ | refine blk_drew ?_ | refine blk_alloc ?_ _)); exact BK248.out)) : gb248 ≠ gb249)); have n8_ := Aside0.mk ((by rw [hg]; exact Nat.ne_of_gt (blk_lt (g := gb248) (o := .cells #[.slice A0_0 l0_0.length c0_0, .slice A0_1 l0_1.length c0_1, .int .i64 a0_2] 34 (0, 0)) (by (with_reducible repeat (first | refine blk_drewN ?_ _ | refine blk_drew ?_ | refine blk_alloc ?_ _)); exact BK248.out)) : gb249 ≠ gb248)); have n9_ := Aside0.mk ((by rw [hg]; exact Nat.ne_of_lt (IsS69.lt (show IsS69 w0 _ g s2_0 s2_1 from by repeat (first | (with_reducible first | exact HI2.out | apply IsS69.alloc | apply IsS69.drewN | apply IsS69.drew | apply IsS69.set_1 | refine IsS69.far ?_ NB2_248.out _) | exact HI2.out))) : g ≠ gb249)); have n10_ := Aside0.mk ((by rw [hg]; exact Nat.ne_of_gt (IsS69.lt (show IsS69 w0 _ g s2_0 s2_1 from by repeat (first | (with_reducible first | exact HI2.out | apply IsS69.alloc | apply IsS69.drewN | apply IsS69.drew | apply IsS69.set_1 | refine IsS69.far ?_ NB2_248.out _) | exact HI2.out))) : gb249 ≠ g)); clear HI2; clear BK248; clear HK; clear HB; have HI2 := n0_; have BK248 := n1_; have HK := n2_; have HB := n3_; have BK249 := n4_; have GW249 := n5_; have GE249 := n6_; have NB248_249 := n7_; have NB249_248 := n8_; have NB2_249 := n9_; have NB249_2 := n10_; clear n0_ n1_ n2_ n3_ n4_ n5_ n6_ n7_ n8_ n9_ n10_; clear hb hbox hg) | ((with_reducible refine gate_dst (N := 9) rfl ?_); refine box_event ?hg (N := 9) ?hd (cs := #[.string a4_0, .int .u8 a4_1, .int .i64 a4_2, .int .i64 a4_3, .int .u64 a4_4]) (t := 47) ?hr ?_; (case hd => rfl); (case hg => rfl); (case hr => first | (go_simp; done) | (go_simp; rfl)); intro gb250 hg w49 hbox hb; have n0_ := Aside0.mk (IsS69.below (by repeat (first | (with_reducible first | exact HI2.out | apply IsS69.alloc | apply IsS69.drewN | apply IsS69.drew | apply IsS69.set_1 | refine IsS69.far ?_ NB2_248.out _ | refine IsS69.far ?_ NB2_249.out _) | exact HI2.out)) hb); have n1_ := Aside0.mk (blk_below (g := gb248) (o := .cells #[.slice A0_0 l0_0.length c0_0, .slice A0_1 l0_1.length c0_1, .int .i64 a0_2] 34 (0, 0)) (by (with_reducible repeat (first | refine blk_drewN ?_ _ | refine blk_drew ?_ | refine blk_alloc ?_ _)); exact BK248.out) hb); have n2_ := Aside0.mk (blk_below (g := gb249) (o := .cells #[.int .u8 a1_0, .int .i64 a1_1, .int .i64 a1_2] 45 (0, 0)) (by (with_reducible repeat (first | refine blk_drewN ?_ _ | refine blk_drew ?_ | refine blk_alloc ?_ _)); exact BK249.out) hb); have n3_ := Aside0.mk (KeepBut.trans (by repeat (first | (with_reducible first | exact HK.out | apply KeepBut.set_ | apply keep_drewN | apply keep_drew | apply keep_alloc | refine keep_far ?_ GW248.out _ | refine keep_far ?_ GW249.out _) | exact HK.out)) (KeepBut.of_below hb g none) (.inl rfl)); have n4_ := Aside0.mk (below_step (by repeat (first | (with_reducible first | exact HB.out | apply below_alloc | apply pw_below_drewN | apply below_drew1 | refine below_set ?_ (IsS69.ge HI2.out) | refine below_set ?_ GE248.out | refine below_set ?_ GE249.out) | exact HB.out)) hb); have n5_ := Aside0.mk (hbox); have n6_ := Aside0.mk ((by rw [hg]; exact (keep_size (w := w) (g := g) (row := none) (by repeat (first | (with_reducible first | exact HK.out | apply KeepBut.set_ | apply keep_drewN | apply keep_drew | apply keep_alloc | refine keep_far ?_ GW248.out _ | refine keep_far ?_ GW249.out _) | exact HK.out))) : w.heap.size ≤ gb250)); have n7_ := Aside0.mk ((Nat.le_trans HW0.out (by rw [hg]; exact (keep_size (w := w) (g := g) (row := none) (by repeat (first | (with_reducible first | exact HK.out | apply KeepBut.set_ | apply keep_drewN | apply keep_drew | apply keep_alloc | refine keep_far ?_ GW248.out _ | refine keep_far ?_ GW249.out _) | exact HK.out))) : w.heap.size ≤ gb250) : w0.heap.size ≤ gb250)); have n8_ := Aside0.mk ((by rw [hg]; exact Nat.ne_of_lt (blk_lt (g := gb248) (o := .cells #[.slice A0_0 l0_0.length c0_0, .slice A0_1 l0_1.length c0_1, .int .i64 a0_2] 34 (0, 0)) (by (with_reducible repeat (first | refine blk_drewN ?_ _ | refine blk_drew ?_ | refine blk_alloc ?_ _)); exact BK248.out)) : gb248 ≠ gb250)); have n9_ := Aside0.mk ((by rw [hg]; exact Nat.ne_of_gt (blk_lt (g := gb248) (o := .cells #[.slice A0_0 l0_0.length c0_0, .slice A0_1 l0_1.length c0_1, .int .i64 a0_2] 34 (0, 0)) (by (with_reducible repeat (first | refine blk_drewN ?_ _ | refine blk_drew ?_ | refine blk_alloc ?_ _)); exact BK248.out)) : gb250 ≠ gb248)); have n10_ := Aside0.mk ((by rw [hg]; exact Nat.ne_of_lt (blk_lt (g := gb249) (o := .cells #[.int .u8 a1_0, .int .i64 a1_1, .int .i64 a1_2] 45 (0, 0)) (by (with_reducible repeat (first | refine blk_drewN ?_ _ | refine blk_drew ?_ | refine blk_alloc ?_ _)); exact BK249.out)) : gb249 ≠ gb250)); have n11_ := Aside0.mk ((by rw [hg]; exact Nat.ne_of_gt (blk_lt (g := gb249) (o := .cells #[.int .u8 a1_0, .int .i64 a1_1, .int .i64 a1_2] 45 (0, 0)) (by (with_reducible repeat (first | refine blk_drewN ?_ _ | refine blk_drew ?_ | refine blk_alloc ?_ _)); exact BK249.out)) : gb250 ≠ gb249)); have n12_ := Aside0.mk ((by rw [hg]; exact Nat.ne_of_lt (IsS69.lt (show IsS69 w0 _ g s2_0 s2_1 from by repeat (first | (with_reducible first | exact HI2.out | apply IsS69.alloc | apply IsS69.drewN | apply IsS69.drew | apply IsS69.set_1 | refine IsS69.far ?_ NB2_248.out _ | refine IsS69.far ?_ NB2_249.out _) | exact HI2.out))) : g ≠ gb250)); have n13_ := Aside0.mk ((by rw [hg]; exact Nat.ne_of_gt (IsS69.lt (show IsS69 w0 _ g s2_0 s2_1 from by repeat (first | (with_reducible first | exact HI2.out | apply IsS69.alloc | apply IsS69.drewN | apply IsS69.drew | apply IsS69.set_1 | refine IsS69.far ?_ NB2_248.out _ | refine IsS69.far ?_ NB2_249.out _) | exact HI2.out))) : gb250 ≠ g)); clear HI2; clear BK248; clear BK249; clear HK; clear HB; have HI2 := n0_; have BK248 := n1_; have BK249 := n2_; have HK := n3_; have HB := n4_; have BK250 := n5_; have GW250 := n6_; have GE250 := n7_; have NB248_250 := n8_; have NB250_248 := n9_; have NB249_250 := n10_; have NB250_249 := n11_; have NB2_250 := n12_; have NB250_2 := n13_; clear n0_ n1_ n2_ n3_ n4_ n5_ n6_ n7_ n8_ n9_ n10_ n11_ n12_ n13_; clear hb hbox hg))
          go_loopg [11, 12] k (fun kq v11 v12 w' => ∃ (x11_1 : Int) (x12_1 : Int) (x3001_1 : Int), v11 = .int .u64 x11_1 ∧ v12 = .int .i64 x12_1 ∧ Aside0 (transomhand05_number.l0 kq x11_1 x12_1 s2_0 x3001_1 l0_0 l0_1 a0_2 a1_0 a1_1 a1_2 = some (r1, r2)) ∧ Aside0 (kq ≤ k) ∧ Aside0 (w'.heap[gb248]? = some (.cells #[(.slice A0_0 l0_0.length c0_0), (.slice A0_1 l0_1.length c0_1), .int .i64 a0_2] 34 (0, 0))) ∧ Aside0 (w'.heap[gb249]? = some (.cells #[.int .u8 a1_0, .int .i64 a1_1, .int .i64 a1_2] 45 (0, 0))) ∧ Aside0 (w'.heap[gb250]? = some (.cells #[.string a4_0, .int .u8 a4_1, .int .i64 a4_2, .int .i64 a4_3, .int .u64 a4_4] 47 (0, 0))) ∧ Aside0 (IsS69 w0 w' g s2_0 x3001_1) ∧ Aside0 (KeepBut w w' g none) ∧ Aside0 (Below w0.heap.size w0 w'))
          case atStart => exact ⟨(0), (0), (s2_1), (by first | rfl | (simp; done) | (simp [*]; done)), (by first | rfl | (simp; done) | (simp [*]; done)), H', ⟨Nat.le_refl _⟩, ⟨by (with_reducible repeat (first | refine blk_drewN ?_ _ | refine blk_drew ?_ | refine blk_alloc ?_ _)); exact BK248.out⟩, ⟨by (with_reducible repeat (first | refine blk_drewN ?_ _ | refine blk_drew ?_ | refine blk_alloc ?_ _)); exact BK249.out⟩, ⟨by (with_reducible repeat (first | refine blk_drewN ?_ _ | refine blk_drew ?_ | refine blk_alloc ?_ _)); exact BK250.out⟩, ⟨by repeat (first | (with_reducible first | exact HI2.out | apply IsS69.alloc | apply IsS69.drewN | apply IsS69.drew | apply IsS69.set_1 | refine IsS69.far ?_ NB2_248.out _ | refine IsS69.far ?_ NB2_249.out _ | refine IsS69.far ?_ NB2_250.out _) | exact HI2.out)⟩, ⟨by repeat (first | (with_reducible first | exact HK.out | apply KeepBut.set_ | apply keep_drewN | apply keep_drew | apply keep_alloc | refine keep_far ?_ GW248.out _ | refine keep_far ?_ GW249.out _ | refine keep_far ?_ GW250.out _) | exact HK.out)⟩, ⟨by repeat (first | (with_reducible first | exact HB.out | apply below_alloc | apply pw_below_drewN | apply below_drew1 | refine below_set ?_ (IsS69.ge HI2.out) | refine below_set ?_ GE248.out | refine below_set ?_ GE249.out | refine below_set ?_ GE250.out) | exact HB.out)⟩⟩
          case round =>
            clear H'
            try clear c1
            try clear c2
            try clear p2
            try clear c3
            try clear c6
            try clear c6b0
            try clear c6b1
            try clear p6
            try clear c10
            try clear c11
            try clear c12
            try clear c14
            try clear c14b0
            try clear c14b1
            try clear c16
            try clear c19
            try clear c20
            try clear c21
            try clear c23
            try clear c24
            try clear c27
            try clear c27b0
            try clear c27b1
            try clear c30
            try clear c30b0
            try clear c30b1
            try clear c31
            try clear c38
            try clear c38b0
            try clear c38b1
            try clear hcz13_0
            try clear hcz13_1
            try clear hcz13_2
            try clear hcz13_3
            try clear hcz13_4
            try clear hcz22_0
            try clear hcz22_1
            try clear hcz22_2
            try clear hcz25_0
            try clear hcz25_1
            try clear hcz25_2
            try clear hfz13_0
            try clear hfz13_1
            try clear hfz13_2
            try clear hfz13_3
            try clear hfz13_4
            try clear hfz22_0
            try clear hfz22_1
            try clear hfz22_2
            try clear hfz25_0
            try clear hfz25_1
            try clear hfz25_2
            obtain ⟨x11_1, x12_1, x3001_1, rfl, rfl, HA, HK1, BK248, BK249, BK250, HI2, HK, HB⟩ := hrel
            cases gk with
            | zero => exact absurd HA.out (by simp [transomhand05_number.l0])
            | succ k1 =>
              have H := HA.out
              clear HA
              simp only [transomhand05_number.l0] at H
              by_cases c50 : x12_1 < 8
              · rw [if_pos c50] at H
                have c50b0 : decide (x12_1 < 8) = true := decide_eq_true c50
                clear c50
                replace H := Option.bind_eq_some_iff.mp H
                obtain ⟨⟨t257, t258⟩, A510, H⟩ := H
                replace H : (transomhand05_number.l0 k1 (Go.bits .or .u64 (IntKind.u64.wrap (x11_1 * 256)) (IntKind.u64.wrap (t257))) (wrap64 (x12_1 + 1)) s2_0 t258 l0_0 l0_1 a0_2 a1_0 a1_1 a1_2) = some (r1, r2) := H
                have A51 := Aside0.mk A510
                clear A510
                have H' := Aside0.mk H
                clear H
                go_wp2_with (first | ((with_reducible refine gate_callee (f := 30) rfl ?_); refine goesL_ (some 51) rfl rfl Tryd.func30 (by kernel_rfl) rfl #[.pointer (some ⟨g, 0, none⟩)] rfl (by (try simp only [List.map_toArray, List.map_cons, List.map_nil]); first | done | rfl | (simp only [List.length_drop, List.length_take]; rfl)) ?_; (with_reducible refine (transomhand05_Source_next.calls g s2_0 x3001_1 t257 t258 w0 _ ?side1 ?side2 A51.out).mono ?_); (case side1 => repeat (first | (with_reducible first | exact HI2.out | apply IsS69.alloc | apply IsS69.drewN | apply IsS69.drew | apply IsS69.set_1 | refine IsS69.far ?_ NB2_248.out _ | refine IsS69.far ?_ NB2_249.out _ | refine IsS69.far ?_ NB2_250.out _) | exact HI2.out)); (case side2 => repeat (first | (with_reducible first | exact HB.out | apply below_alloc | apply pw_below_drewN | apply below_drew1 | refine below_set ?_ (IsS69.ge HI2.out) | refine below_set ?_ GE248.out | refine below_set ?_ GE249.out | refine below_set ?_ GE250.out) | exact HB.out)); rintro e w52 ⟨rfl, hi, hb, hk⟩; refine ⟨_, rfl, ?_⟩; have n0_ := Aside0.mk (KeepBut.blk hk (g' := gb248) (o := .cells #[.slice A0_0 l0_0.length c0_0, .slice A0_1 l0_1.length c0_1, .int .i64 a0_2] 34 (0, 0)) (by (with_reducible repeat (first | refine blk_drewN ?_ _ | refine blk_drew ?_ | refine blk_alloc ?_ _)); exact BK248.out) NB248_2.out (by simp)); have n1_ := Aside0.mk (KeepBut.blk hk (g' := gb249) (o := .cells #[.int .u8 a1_0, .int .i64 a1_1, .int .i64 a1_2] 45 (0, 0)) (by (with_reducible repeat (first | refine blk_drewN ?_ _ | refine blk_drew ?_ | refine blk_alloc ?_ _)); exact BK249.out) NB249_2.out (by simp)); have n2_ := Aside0.mk (KeepBut.blk hk (g' := gb250) (o := .cells #[.string a4_0, .int .u8 a4_1, .int .i64 a4_2, .int .i64 a4_3, .int .u64 a4_4] 47 (0, 0)) (by (with_reducible repeat (first | refine blk_drewN ?_ _ | refine blk_drew ?_ | refine blk_alloc ?_ _)); exact BK250.out) NB250_2.out (by simp)); have n3_ := Aside0.mk (KeepBut.trans (by repeat (first | (with_reducible first | exact HK.out | apply KeepBut.set_ | apply keep_drewN | apply keep_drew | apply keep_alloc | refine keep_far ?_ GW248.out _ | refine keep_far ?_ GW249.out _ | refine keep_far ?_ GW250.out _) | exact HK.out)) hk (.inl rfl)); have n4_ := Aside0.mk (hb); have n5_ := Aside0.mk (hi); clear BK248; clear BK249; clear BK250; clear HK; clear HB; clear HI2; have BK248 := n0_; have BK249 := n1_; have BK250 := n2_; have HK := n3_; have HB := n4_; have HI2 := n5_; clear n0_ n1_ n2_ n3_ n4_ n5_; (try clear hb); (try clear hb2); (try clear hk); (try clear hi)))
                go_roundg k1
                case measure => have := HK1.out; omega
                case rel => exact ⟨(Go.bits .or .u64 (IntKind.u64.wrap (x11_1 * 256)) (IntKind.u64.wrap (t257))), (wrap64 (x12_1 + 1)), (t258), (by first | rfl | (simp; done) | (simp [*]; done)), (by first | rfl | (simp; done) | (simp [*]; done)), H', ⟨by have := HK1.out; omega⟩, ⟨by (with_reducible repeat (first | refine blk_drewN ?_ _ | refine blk_drew ?_ | refine blk_alloc ?_ _)); exact BK248.out⟩, ⟨by (with_reducible repeat (first | refine blk_drewN ?_ _ | refine blk_drew ?_ | refine blk_alloc ?_ _)); exact BK249.out⟩, ⟨by (with_reducible repeat (first | refine blk_drewN ?_ _ | refine blk_drew ?_ | refine blk_alloc ?_ _)); exact BK250.out⟩, ⟨by repeat (first | (with_reducible first | exact HI2.out | apply IsS69.alloc | apply IsS69.drewN | apply IsS69.drew | apply IsS69.set_1 | refine IsS69.far ?_ NB2_248.out _ | refine IsS69.far ?_ NB2_249.out _ | refine IsS69.far ?_ NB2_250.out _) | exact HI2.out)⟩, ⟨by repeat (first | (with_reducible first | exact HK.out | apply KeepBut.set_ | apply keep_drewN | apply keep_drew | apply keep_alloc | refine keep_far ?_ GW248.out _ | refine keep_far ?_ GW249.out _ | refine keep_far ?_ GW250.out _) | exact HK.out)⟩, ⟨by repeat (first | (with_reducible first | exact HB.out | apply below_alloc | apply pw_below_drewN | apply below_drew1 | refine below_set ?_ (IsS69.ge HI2.out) | refine below_set ?_ GE248.out | refine below_set ?_ GE249.out | refine below_set ?_ GE250.out) | exact HB.out)⟩⟩
              · rw [if_neg c50] at H
                have c50b0 : decide (x12_1 < 8) = false := decide_eq_false c50
                clear c50
                replace H := Option.bind_eq_some_iff.mp H
                obtain ⟨t259, A530, H⟩ := H
                replace H : (some (t259, x3001_1)) = some (r1, r2) := H
                have A53 := Aside0.mk A530
                clear A530
                simp only [Option.some.injEq, Prod.mk.injEq] at H
                obtain ⟨rfl, rfl⟩ := H
                have hnb54 := NB248_249.out
                have hnc54 := NB249_248.out
                have hnb55 := NB248_250.out
                have hnc55 := NB250_248.out
                have hnb56 := NB248_2.out
                have hnc56 := NB2_248.out
                have hcz57_0 : wr.cell? ⟨gb248, 0, none⟩ = some (.slice A0_0 l0_0.length c0_0) := (blk_cell BK248.out 0).trans rfl
                have hcz57_1 : wr.cell? ⟨gb248, 1, none⟩ = some (.slice A0_1 l0_1.length c0_1) := (blk_cell BK248.out 1).trans rfl
                have hcz57_2 : wr.cell? ⟨gb248, 2, none⟩ = some (.int .i64 a0_2) := (blk_cell BK248.out 2).trans rfl
                have hfz57_0 := blk_frozen BK248.out 0
                have hfz57_1 := blk_frozen BK248.out 1
                have hfz57_2 := blk_frozen BK248.out 2
                have hnb58 := NB249_250.out
                have hnc58 := NB250_249.out
                have hnb59 := NB249_2.out
                have hnc59 := NB2_249.out
                have hcz60_0 : wr.cell? ⟨gb249, 0, none⟩ = some (.int .u8 a1_0) := (blk_cell BK249.out 0).trans rfl
                have hcz60_1 : wr.cell? ⟨gb249, 1, none⟩ = some (.int .i64 a1_1) := (blk_cell BK249.out 1).trans rfl
                have hcz60_2 : wr.cell? ⟨gb249, 2, none⟩ = some (.int .i64 a1_2) := (blk_cell BK249.out 2).trans rfl
                have hfz60_0 := blk_frozen BK249.out 0
                have hfz60_1 := blk_frozen BK249.out 1
                have hfz60_2 := blk_frozen BK249.out 2
                go_wp2_with (first | ((with_reducible refine gate_callee (f := 16) rfl ?_); refine goesL_ (some 57) rfl rfl Tryd.func16 (by kernel_rfl) rfl #[.agg #[.slice A0_0 l0_0.length c0_0, .slice A0_1 l0_1.length c0_1, .int .i64 a0_2], .agg #[.int .u8 a1_0, .int .i64 a1_1, .int .i64 a1_2], .int .u64 x11_1] rfl (by (try simp only [List.map_toArray, List.map_cons, List.map_nil]); first | done | rfl | (simp only [List.length_drop, List.length_take]; rfl)) ?_; (with_reducible refine (transomhand05_Number.calls k1 _ _ l0_0 _ _ l0_1 a0_2 a1_0 a1_1 a1_2 x11_1 t259 _ ?side1 ?side2 ?side3 ?side4 A53.out).mono ?_); (case side1 => exact Kd.C_foot_now HR0_0.out (by repeat (first | (with_reducible first | exact HK.out | apply KeepBut.set_ | apply keep_drewN | apply keep_drew | apply keep_alloc | refine keep_far ?_ GW248.out _ | refine keep_far ?_ GW249.out _ | refine keep_far ?_ GW250.out _) | exact HK.out))); (case side2 => exact HC0_0.out); (case side3 => exact Kd.C_foot_now HR0_1.out (by repeat (first | (with_reducible first | exact HK.out | apply KeepBut.set_ | apply keep_drewN | apply keep_drew | apply keep_alloc | refine keep_far ?_ GW248.out _ | refine keep_far ?_ GW249.out _ | refine keep_far ?_ GW250.out _) | exact HK.out))); (case side4 => exact HC0_1.out); rintro e w61 ⟨rfl, hb⟩; refine ⟨_, rfl, ?_⟩; have n0_ := Aside0.mk (blk_below (g := gb248) (o := .cells #[.slice A0_0 l0_0.length c0_0, .slice A0_1 l0_1.length c0_1, .int .i64 a0_2] 34 (0, 0)) (by (with_reducible repeat (first | refine blk_drewN ?_ _ | refine blk_drew ?_ | refine blk_alloc ?_ _)); exact BK248.out) hb); have n1_ := Aside0.mk (blk_below (g := gb249) (o := .cells #[.int .u8 a1_0, .int .i64 a1_1, .int .i64 a1_2] 45 (0, 0)) (by (with_reducible repeat (first | refine blk_drewN ?_ _ | refine blk_drew ?_ | refine blk_alloc ?_ _)); exact BK249.out) hb); have n2_ := Aside0.mk (blk_below (g := gb250) (o := .cells #[.string a4_0, .int .u8 a4_1, .int .i64 a4_2, .int .i64 a4_3, .int .u64 a4_4] 47 (0, 0)) (by (with_reducible repeat (first | refine blk_drewN ?_ _ | refine blk_drew ?_ | refine blk_alloc ?_ _)); exact BK250.out) hb); have n3_ := Aside0.mk (IsS69.below (by repeat (first | (with_reducible first | exact HI2.out | apply IsS69.alloc | apply IsS69.drewN | apply IsS69.drew | apply IsS69.set_1 | refine IsS69.far ?_ NB2_248.out _ | refine IsS69.far ?_ NB2_249.out _ | refine IsS69.far ?_ NB2_250.out _) | exact HI2.out)) hb); have n4_ := Aside0.mk (KeepBut.trans (by repeat (first | (with_reducible first | exact HK.out | apply KeepBut.set_ | apply keep_drewN | apply keep_drew | apply keep_alloc | refine keep_far ?_ GW248.out _ | refine keep_far ?_ GW249.out _ | refine keep_far ?_ GW250.out _) | exact HK.out)) (KeepBut.of_below hb g none) (.inl rfl)); have n5_ := Aside0.mk (below_step (by repeat (first | (with_reducible first | exact HB.out | apply below_alloc | apply pw_below_drewN | apply below_drew1 | refine below_set ?_ (IsS69.ge HI2.out) | refine below_set ?_ GE248.out | refine below_set ?_ GE249.out | refine below_set ?_ GE250.out) | exact HB.out)) hb); clear BK248; clear BK249; clear BK250; clear HI2; clear HK; clear HB; have BK248 := n0_; have BK249 := n1_; have BK250 := n2_; have HI2 := n3_; have HK := n4_; have HB := n5_; clear n0_ n1_ n2_ n3_ n4_ n5_; (try clear hb); (try clear hb2); (try clear hk); (try clear hi)))
                go_ret
                exact ⟨by first | rfl | (simp [errW_none, errW_some] <;> rfl) | (simp [*, errW_none, errW_some] <;> rfl), by repeat (first | (with_reducible first | exact HI2.out | apply IsS69.alloc | apply IsS69.drewN | apply IsS69.drew | apply IsS69.set_1 | refine IsS69.far ?_ NB2_248.out _ | refine IsS69.far ?_ NB2_249.out _ | refine IsS69.far ?_ NB2_250.out _) | exact HI2.out), by repeat (first | (with_reducible first | exact HB.out | apply below_alloc | apply pw_below_drewN | apply below_drew1 | refine below_set ?_ (IsS69.ge HI2.out) | refine below_set ?_ GE248.out | refine below_set ?_ GE249.out | refine below_set ?_ GE250.out) | exact HB.out), by repeat (first | (with_reducible first | exact HK.out | apply KeepBut.set_ | apply keep_drewN | apply keep_drew | apply keep_alloc | refine keep_far ?_ GW248.out _ | refine keep_far ?_ GW249.out _ | refine keep_far ?_ GW250.out _) | exact HK.out)⟩

end Go.Proofs.YthilhndejhnlnaaDoor.QAll
end
