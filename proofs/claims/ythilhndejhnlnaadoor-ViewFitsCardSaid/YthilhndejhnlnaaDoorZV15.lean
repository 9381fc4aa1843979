/- Texts joined: QAllx4 QAllx1. -/
import Derived.Test.YthilhndejhnlnaaDoorZV13
import Derived.Test.YthilhndejhnlnaaDoorZV14
section
-- written by a program of this session (turned from a print)
namespace Go.Proofs.YthilhndejhnlnaaDoor.QAll
open Go.RowKit Go.Proofs.YthilhndejhnlnaaDoorW.PrintWords Go.Proofs.YthilhndejhnlnaaDoorW.PrintLast Go.Proofs.YthilhndejhnlnaaDoorW.PrintMore
attribute [local go_sem] max2_int min2_int max_two min_two max_three min_three max_four min_four   -- for this text's walks alone
set_option linter.unusedVariables false
set_option linter.unusedSimpArgs false

/-! ### transomref01_Signed: function 22 -/
def transomref01_Signed.j0 : Nat → Int → Int → Bool → Option (Int)
  | 0, _, _, _ => none
  | k + 1, x0, x1, x15 => if x15 = true then (some x0) else (if 0 ≤ (wrap64 (8 * x1)) then (if 0 ≤ (wrap64 ((wrap64 (8 * x1)) - 1)) then (if (shr .u64 (Go.bits .and .u64 x0 (IntKind.u64.wrap ((shl .u64 1 (wrap64 (8 * x1))) - 1))) (wrap64 ((wrap64 (8 * x1)) - 1))) = 1 then (some (Go.bits .or .u64 (Go.bits .and .u64 x0 (IntKind.u64.wrap ((shl .u64 1 (wrap64 (8 * x1))) - 1))) (shl .u64 18446744073709551615 (wrap64 (8 * x1))))) else (some (Go.bits .and .u64 x0 (IntKind.u64.wrap ((shl .u64 1 (wrap64 (8 * x1))) - 1))))) else (none)) else (none))
def transomref01_Signed.f (k : Nat) (a0 : Int) (a1 : Int) : Option (Int) := if a1 = 1 then (transomref01_Signed.j0 k a0 a1 false) else (if a1 = 2 then (transomref01_Signed.j0 k a0 a1 false) else (transomref01_Signed.j0 k a0 a1 (a1 != 4)))
theorem transomref01_Signed.mono_l : ∀ k, (∀ y0 y1 y2, LeO (transomref01_Signed.j0 k y0 y1 y2) (transomref01_Signed.j0 (k + 1) y0 y1 y2))
  | 0 => fun _ _ _ r h => by simp [transomref01_Signed.j0] at h
  | k + 1 => by
    have ih0 := transomref01_Signed.mono_l k
    · intro y0 y1 y2
      unfold transomref01_Signed.j0
      repeat' first
      | (with_reducible exact ih0 _ _ _)
      | (with_reducible exact LeO.refl _)
      | (with_reducible exact LeO.none _)
      | (with_reducible refine LeO.ite ?_ ?_)
      | (with_reducible refine LeO.bind ?_ (fun _ => ?_))
      | exact ih0 _ _ _
      | exact LeO.none _
      | refine LeO.ite ?_ ?_
      | refine LeO.bind ?_ (fun _ => ?_)
theorem transomref01_Signed.mono : ∀ a0 a1 k, LeO (transomref01_Signed.f k a0 a1) (transomref01_Signed.f (k + 1) a0 a1) := by
  intro a0 a1 k
  have ih0 := transomref01_Signed.mono_l k
  unfold transomref01_Signed.f
  repeat' first
      | (with_reducible exact ih0 _ _ _)
      | (with_reducible exact LeO.refl _)
      | (with_reducible exact LeO.none _)
      | (with_reducible refine LeO.ite ?_ ?_)
      | (with_reducible refine LeO.bind ?_ (fun _ => ?_))
      | exact ih0 _ _ _
      | exact LeO.none _
      | refine LeO.ite ?_ ?_
      | refine LeO.bind ?_ (fun _ => ?_)
set_option maxHeartbeats 8000000 in
set_option maxRecDepth 100000 in
theorem transomref01_Signed.calls (k : Nat) (a0 : Int) (a1 : Int) (r : Int) (w : World) (h : transomref01_Signed.f k a0 a1 = some r) :
    Calls Tryd.prog 22 #[.int .u64 a0, .int .i64 a1] w fun e w' => e = .returned (.int .u64 r) ∧ Drawn0 w w' := by
  have H : (if a1 = 1 then (transomref01_Signed.j0 k a0 a1 false) else (if a1 = 2 then (transomref01_Signed.j0 k a0 a1 false) else (transomref01_Signed.j0 k a0 a1 (a1 != 4)))) = some r := h
  clear h
  have HC3 := Aside0.mk H
  clear H
  go_enter Tryd.func22, Tryd.ntmps22
  go_upto_region 1 with (fail)
  go_cut [15] (fun v15 wc => ∃ (kq : Nat) (x15_2 : Bool), v15 = .bool x15_2 ∧ Aside0 (transomref01_Signed.j0 kq a0 a1 x15_2 = some r) ∧ Aside0 (kq ≤ k) ∧ Drawn0 w wc)
  case first =>
    have H := HC3.out
    clear HC3
    by_cases c4 : a1 = 1
    · rw [if_pos c4] at H
      have c4b0 : (a1 == 1) = true := beq_iff_eq.mpr c4
      have c4b1 : (a1 != 1) = false := bne_eq_false_iff_eq.mpr c4
      clear c4
      (first | rw [c4b0] | (simp only [i64_w, i32_w]; rw [c4b0]) | skip)
      have H' := Aside0.mk H
      clear H
      go_wp2
      go_meet
      case rel => exact ⟨_, (false), (by first | rfl | (simp; done) | (simp [*]; done)), H', ⟨by first | omega | exact Nat.le_refl _⟩, by repeat (first | exact Drawn0.refl _ | apply Drawn0.step)⟩
    · rw [if_neg c4] at H
      have c4b0 : (a1 == 1) = false := beq_eq_false_iff_ne.mpr c4
      have c4b1 : (a1 != 1) = true := bne_iff_ne.mpr c4
      (first | rw [c4b0] | (simp only [i64_w, i32_w]; rw [c4b0]) | skip)
      by_cases c5 : a1 = 2
      · rw [if_pos c5] at H
        have c5b0 : (a1 == 2) = true := beq_iff_eq.mpr c5
        have c5b1 : (a1 != 2) = false := bne_eq_false_iff_eq.mpr c5
        clear c5
        have H' := Aside0.mk H
        clear H
        go_wp2
        go_meet
        case rel => exact ⟨_, (false), (by first | rfl | (simp; done) | (simp [*]; done)), H', ⟨by first | omega | exact Nat.le_refl _⟩, by repeat (first | exact Drawn0.refl _ | apply Drawn0.step)⟩
      · rw [if_neg c5] at H
        have c5b0 : (a1 == 2) = false := beq_eq_false_iff_ne.mpr c5
        have c5b1 : (a1 != 2) = true := bne_iff_ne.mpr c5
        have H' := Aside0.mk H
        clear H
        go_wp2
        go_meet
        case rel => exact ⟨_, ((a1 != 4)), (by first | rfl | (simp; done) | (simp [*]; done)), H', ⟨by first | omega | exact Nat.le_refl _⟩, by repeat (first | exact Drawn0.refl _ | apply Drawn0.step)⟩
  case rest =>
    clear HC3
    try clear c2
    try clear p2
    try clear c4
    try clear c4b0
    try clear c4b1
    try clear c5
    try clear c5b0
    try clear c5b1
    obtain ⟨kq, x15_2, rfl, HA, HJ2, ⟨mc2, rfl⟩⟩ := hcut
    cases kq with
    | zero => exact absurd HA.out (by simp [transomref01_Signed.j0])
    | succ kj2 =>
      have H := HA.out
      clear HA
      simp only [transomref01_Signed.j0] at H
      by_cases c6 : x15_2 = true
      · subst c6
        have H1 : (some a0) = some r := by rw [if_pos rfl] at H; exact H
        clear H
        have H := H1
        clear H1
        obtain rfl := Option.some.inj H
        go_wp2
        go_ret
        exact ⟨by first | rfl | (simp; done) | (simp [*]; done), by repeat (first | exact Drawn0.refl _ | apply Drawn0.step)⟩
      · replace c6 := Bool.eq_false_iff.mpr c6
        subst c6
        have H1 : (if 0 ≤ (wrap64 (8 * a1)) then (if 0 ≤ (wrap64 ((wrap64 (8 * a1)) - 1)) then (if (shr .u64 (Go.bits .and .u64 a0 (IntKind.u64.wrap ((shl .u64 1 (wrap64 (8 * a1))) - 1))) (wrap64 ((wrap64 (8 * a1)) - 1))) = 1 then (some (Go.bits .or .u64 (Go.bits .and .u64 a0 (IntKind.u64.wrap ((shl .u64 1 (wrap64 (8 * a1))) - 1))) (shl .u64 18446744073709551615 (wrap64 (8 * a1))))) else (some (Go.bits .and .u64 a0 (IntKind.u64.wrap ((shl .u64 1 (wrap64 (8 * a1))) - 1))))) else (none)) else (none)) = some r := by rw [if_neg (show ¬ (false = true) by decide)] at H; exact H
        clear H
        have H := H1
        clear H1
        obtain ⟨ji7, hji7⟩ : ∃ j_ : Int, (wrap64 (8 * a1)) = j_ := ⟨_, rfl⟩
        replace H : (if 0 ≤ (ji7) then (if 0 ≤ (wrap64 ((ji7) - 1)) then (if (shr .u64 (Go.bits .and .u64 a0 (IntKind.u64.wrap ((shl .u64 1 (ji7)) - 1))) (wrap64 ((ji7) - 1))) = 1 then (some (Go.bits .or .u64 (Go.bits .and .u64 a0 (IntKind.u64.wrap ((shl .u64 1 (ji7)) - 1))) (shl .u64 18446744073709551615 (ji7)))) else (some (Go.bits .and .u64 a0 (IntKind.u64.wrap ((shl .u64 1 (ji7)) - 1))))) else (none)) else (none)) = some r := by first | (rw [hji7] at H; exact H) | (simp only [hji7] at H ⊢; exact H)
        have hji7w : (IntKind.i64.wrap (8 * a1)) = ji7 := (i64_w _).trans hji7
        by_cases c8 : 0 ≤ (ji7)
        · rw [if_pos c8] at H
          have c8b0 := eq_true c8
          have c8b1 : decide (0 ≤ (ji7)) = true := decide_eq_true c8
          clear c8
          obtain ⟨ji9, hji9⟩ : ∃ j_ : Int, (shl .u64 1 (ji7)) = j_ := ⟨_, rfl⟩
          replace H : (if 0 ≤ (wrap64 ((ji7) - 1)) then (if (shr .u64 (Go.bits .and .u64 a0 (IntKind.u64.wrap ((ji9) - 1))) (wrap64 ((ji7) - 1))) = 1 then (some (Go.bits .or .u64 (Go.bits .and .u64 a0 (IntKind.u64.wrap ((ji9) - 1))) (shl .u64 18446744073709551615 (ji7)))) else (some (Go.bits .and .u64 a0 (IntKind.u64.wrap ((ji9) - 1))))) else (none)) = some r := by first | (rw [hji9] at H; exact H) | (simp only [hji9] at H ⊢; exact H)
          have hji9_ : (IntKind.u64.wrap (1 * 2 ^ min (ji7).toNat 64)) = ji9 := hji9
          have hji9z : (ji7) ≤ 64 → (IntKind.u64.wrap (1 * 2 ^ (ji7).toNat)) = ji9 := shl_small hji9
          have hji9u : (IntKind.u64.wrap (2 ^ min (ji7).toNat 64)) = ji9 := by have h_ := hji9_; rw [Int.one_mul] at h_; exact h_
          have hji9v : (ji7) ≤ 64 → (IntKind.u64.wrap (2 ^ (ji7).toNat)) = ji9 := fun hle_ => by have h_ := hji9z hle_; rw [Int.one_mul] at h_; exact h_
          obtain ⟨ji10, hji10⟩ : ∃ j_ : Int, (wrap64 ((ji7) - 1)) = j_ := ⟨_, rfl⟩
          replace H : (if 0 ≤ (ji10) then (if (shr .u64 (Go.bits .and .u64 a0 (IntKind.u64.wrap ((ji9) - 1))) (ji10)) = 1 then (some (Go.bits .or .u64 (Go.bits .and .u64 a0 (IntKind.u64.wrap ((ji9) - 1))) (shl .u64 18446744073709551615 (ji7)))) else (some (Go.bits .and .u64 a0 (IntKind.u64.wrap ((ji9) - 1))))) else (none)) = some r := by first | (rw [hji10] at H; exact H) | (simp only [hji10] at H ⊢; exact H)
          have hji10w : (IntKind.i64.wrap ((ji7) - 1)) = ji10 := (i64_w _).trans hji10
          by_cases c11 : 0 ≤ (ji10)
          · rw [if_pos c11] at H
            have c11b0 := eq_true c11
            have c11b1 : decide (0 ≤ (ji10)) = true := decide_eq_true c11
            clear c11
            obtain ⟨ji12, hji12⟩ : ∃ j_ : Int, (shr .u64 (Go.bits .and .u64 a0 (IntKind.u64.wrap ((ji9) - 1))) (ji10)) = j_ := ⟨_, rfl⟩
            replace H : (if (ji12) = 1 then (some (Go.bits .or .u64 (Go.bits .and .u64 a0 (IntKind.u64.wrap ((ji9) - 1))) (shl .u64 18446744073709551615 (ji7)))) else (some (Go.bits .and .u64 a0 (IntKind.u64.wrap ((ji9) - 1))))) = some r := by first | (rw [hji12] at H; exact H) | (simp only [hji12] at H ⊢; exact H)
            have hji12_ : ((Go.bits .and .u64 a0 (IntKind.u64.wrap ((ji9) - 1))) / 2 ^ min (ji10).toNat 64) = ji12 := hji12
            have hji12z : (ji10) ≤ 64 → ((Go.bits .and .u64 a0 (IntKind.u64.wrap ((ji9) - 1))) / 2 ^ (ji10).toNat) = ji12 := shr_small hji12
            by_cases c13 : (ji12) = 1
            · rw [if_pos c13] at H
              have c13b0 : ((ji12) == 1) = true := beq_iff_eq.mpr c13
              have c13b1 : ((ji12) != 1) = false := bne_eq_false_iff_eq.mpr c13
              clear c13
              have c14b0 := eq_true (of_decide_eq_true (by first | (with_reducible assumption) | assumption) : 0 ≤ (ji7))
              obtain ⟨ji15, hji15⟩ : ∃ j_ : Int, (shl .u64 18446744073709551615 (ji7)) = j_ := ⟨_, rfl⟩
              replace H : (some (Go.bits .or .u64 (Go.bits .and .u64 a0 (IntKind.u64.wrap ((ji9) - 1))) (ji15))) = some r := by first | (rw [hji15] at H; exact H) | (simp only [hji15] at H ⊢; exact H)
              have hji15_ : (IntKind.u64.wrap (18446744073709551615 * 2 ^ min (ji7).toNat 64)) = ji15 := hji15
              have hji15z : (ji7) ≤ 64 → (IntKind.u64.wrap (18446744073709551615 * 2 ^ (ji7).toNat)) = ji15 := shl_small hji15
              obtain rfl := Option.some.inj H
              go_wp2
              go_ret
              exact ⟨by first | rfl | (simp; done) | (simp only [← hji7, ← hji9, ← hji10, ← hji12, ← hji15] <;> (first | rfl | simp)) | (simp [*]; done), by repeat (first | exact Drawn0.refl _ | apply Drawn0.step)⟩
            · rw [if_neg c13] at H
              have c13b0 : ((ji12) == 1) = false := beq_eq_false_iff_ne.mpr c13
              have c13b1 : ((ji12) != 1) = true := bne_iff_ne.mpr c13
              obtain rfl := Option.some.inj H
              go_wp2
              go_ret
              exact ⟨by first | rfl | (simp; done) | (simp only [← hji7, ← hji9, ← hji10, ← hji12] <;> (first | rfl | simp)) | (simp [*]; done), by repeat (first | exact Drawn0.refl _ | apply Drawn0.step)⟩
          · rw [if_neg c11] at H
            exact absurd H (by simp)
        · rw [if_neg c8] at H
          exact absurd H (by simp)

/-! ### transomhand05_Number: function 16 -/
def transomhand05_Number.j0 : Nat → Int → Int → Int → Int → Int → Option (Int)
  | 0, _, _, _, _, _ => none
  | k + 1, x2, x7, x155000, x155001, x155002 => (transomref01_Sign.f (wrap64 (x155000))).bind fun t157 => (if t157 = true then ((transomref01_Signed.f k x2 x7).bind fun t158 => (some t158)) else (some x2))
def transomhand05_Number.f (k : Nat) (l0_0 : List (S50)) (l0_1 : List (S58)) (a0_2 : Int) (a1_0 : Int) (a1_1 : Int) (a1_2 : Int) (a2 : Int) : Option (Int) := (transomref01_Size.f k (wrap64 (a1_0))).bind fun t155 => (if a1_0 = 1 then (some (Int.tmod a2 2)) else (if a1_0 = 10 then (if 0 ≤ a1_1 then (if a1_1 < (l0_1.length : Int) then (if (IntKind.u64.wrap ((((rd_T58 l0_1 a1_1).f1).length : Int))) = 0 then (none) else (some (Int.tmod a2 (IntKind.u64.wrap ((((rd_T58 l0_1 a1_1).f1).length : Int)))))) else (none)) else (none)) else (if t155 < 8 then (if 0 ≤ (wrap64 (8 * t155)) then (if (shl .u64 1 (wrap64 (8 * t155))) = 0 then (none) else (transomhand05_Number.j0 k (Int.tmod a2 (shl .u64 1 (wrap64 (8 * t155)))) t155 a1_0 a1_1 a1_2)) else (none)) else (transomhand05_Number.j0 k a2 t155 a1_0 a1_1 a1_2))))
theorem transomhand05_Number.mono_l : ∀ k, (∀ y0 y1 y2 y3 y4, LeO (transomhand05_Number.j0 k y0 y1 y2 y3 y4) (transomhand05_Number.j0 (k + 1) y0 y1 y2 y3 y4))
  | 0 => fun _ _ _ _ _ r h => by simp [transomhand05_Number.j0] at h
  | k + 1 => by
    have ih0 := transomhand05_Number.mono_l k
    · intro y0 y1 y2 y3 y4
      unfold transomhand05_Number.j0
      repeat' first
      | (with_reducible exact ih0 _ _ _ _ _)
      | (with_reducible exact transomref01_Signed.mono _ _ _)
      | (with_reducible exact transomref01_Size.mono _ _)
      | (with_reducible exact LeO.refl _)
      | (with_reducible exact LeO.none _)
      | (with_reducible refine LeO.ite ?_ ?_)
      | (with_reducible refine LeO.bind ?_ (fun _ => ?_))
      | exact ih0 _ _ _ _ _
      | exact transomref01_Signed.mono _ _ _
      | exact transomref01_Size.mono _ _
      | exact LeO.none _
      | refine LeO.ite ?_ ?_
      | refine LeO.bind ?_ (fun _ => ?_)
theorem transomhand05_Number.mono : ∀ a0 a1 a2 a3 a4 a5 a6 k, LeO (transomhand05_Number.f k a0 a1 a2 a3 a4 a5 a6) (transomhand05_Number.f (k + 1) a0 a1 a2 a3 a4 a5 a6) := by
  intro a0 a1 a2 a3 a4 a5 a6 k
  have ih0 := transomhand05_Number.mono_l k
  unfold transomhand05_Number.f
  repeat' first
      | (with_reducible exact ih0 _ _ _ _ _)
      | (with_reducible exact transomref01_Signed.mono _ _ _)
      | (with_reducible exact transomref01_Size.mono _ _)
      | (with_reducible exact LeO.refl _)
      | (with_reducible exact LeO.none _)
      | (with_reducible refine LeO.ite ?_ ?_)
      | (with_reducible refine LeO.bind ?_ (fun _ => ?_))
      | exact ih0 _ _ _ _ _
      | exact transomref01_Signed.mono _ _ _
      | exact transomref01_Size.mono _ _
      | exact LeO.none _
      | refine LeO.ite ?_ ?_
      | refine LeO.bind ?_ (fun _ => ?_)
set_option maxHeartbeats 8000000 in
set_option maxRecDepth 100000 in
theorem transomhand05_Number.calls (k : Nat) (A0_0 : Option Addr) (c0_0 : Nat) (l0_0 : List (S50)) (A0_1 : Option Addr) (c0_1 : Nat) (l0_1 : List (S58)) (a0_2 : Int) (a1_0 : Int) (a1_1 : Int) (a1_2 : Int) (a2 : Int) (r : Int) (w : World) (hr0_0 : Kd.C k50 w A0_0 l0_0.length l0_0) (hc0_0 : l0_0.length ≤ c0_0) (hr0_1 : Kd.C k58 w A0_1 l0_1.length l0_1) (hc0_1 : l0_1.length ≤ c0_1) (h : transomhand05_Number.f k l0_0 l0_1 a0_2 a1_0 a1_1 a1_2 a2 = some r) :
    Calls Tryd.prog 16 #[.agg #[.slice A0_0 l0_0.length c0_0, .slice A0_1 l0_1.length c0_1, .int .i64 a0_2], .agg #[.int .u8 a1_0, .int .i64 a1_1, .int .i64 a1_2], .int .u64 a2] w fun e w' => e = .returned (.int .u64 r) ∧ Below w.heap.size w w' := by
  have hu34 := Tryd.underlying34
  have hu45 := Tryd.underlying45
  have HR0_0 := Aside0.mk hr0_0
  have HC0_0 := Aside0.mk hc0_0
  clear hr0_0 hc0_0
  have HR0_1 := Aside0.mk hr0_1
  have HC0_1 := Aside0.mk hc0_1
  clear hr0_1 hc0_1
  have HB := Aside0.mk (Below.refl w.heap.size w)
  have H : ((transomref01_Size.f k (wrap64 (a1_0))).bind fun t155 => (if a1_0 = 1 then (some (Int.tmod a2 2)) else (if a1_0 = 10 then (if 0 ≤ a1_1 then (if a1_1 < (l0_1.length : Int) then (if (IntKind.u64.wrap ((((rd_T58 l0_1 a1_1).f1).length : Int))) = 0 then (none) else (some (Int.tmod a2 (IntKind.u64.wrap ((((rd_T58 l0_1 a1_1).f1).length : Int)))))) else (none)) else (none)) else (if t155 < 8 then (if 0 ≤ (wrap64 (8 * t155)) then (if (shl .u64 1 (wrap64 (8 * t155))) = 0 then (none) else (transomhand05_Number.j0 k (Int.tmod a2 (shl .u64 1 (wrap64 (8 * t155)))) t155 a1_0 a1_1 a1_2)) else (none)) else (transomhand05_Number.j0 k a2 t155 a1_0 a1_1 a1_2))))) = some r := h
  clear h
  replace H := Option.bind_eq_some_iff.mp H
  obtain ⟨t155, A40, H⟩ := H
  replace H : (if a1_0 = 1 then (some (Int.tmod a2 2)) else (if a1_0 = 10 then (if 0 ≤ a1_1 then (if a1_1 < (l0_1.length : Int) then (if (IntKind.u64.wrap ((((rd_T58 l0_1 a1_1).f1).length : Int))) = 0 then (none) else (some (Int.tmod a2 (IntKind.u64.wrap ((((rd_T58 l0_1 a1_1).f1).length : Int)))))) else (none)) else (none)) else (if t155 < 8 then (if 0 ≤ (wrap64 (8 * t155)) then (if (shl .u64 1 (wrap64 (8 * t155))) = 0 then (none) else (transomhand05_Number.j0 k (Int.tmod a2 (shl .u64 1 (wrap64 (8 * t155)))) t155 a1_0 a1_1 a1_2)) else (none)) else (transomhand05_Number.j0 k a2 t155 a1_0 a1_1 a1_2)))) = some r := H
  have A4 := Aside0.mk A40
  clear A40
  have HC5 := Aside0.mk H
  clear H
  go_enter Tryd.func16, Tryd.ntmps16
  go_upto_block 0 with (first | ((with_reducible refine gate_dst (N := 3) rfl ?_); refine box_event ?hg (N := 3) ?hd (cs := #[.slice A0_0 l0_0.length c0_0, .slice A0_1 l0_1.length c0_1, .int .i64 a0_2]) (t := 34) ?hr ?_; (case hd => rfl); (case hg => rfl); (case hr => first | (go_simp; done) | (go_simp; rfl)); intro gb153 hg w6 hbox hb; have n0_ := Aside0.mk (below_step (by repeat (first | (with_reducible first | exact HB.out | apply below_alloc | apply pw_below_drewN | apply below_drew1) | exact HB.out)) hb); have n1_ := Aside0.mk (hbox); have n2_ := Aside0.mk ((by rw [hg]; exact (below_size (by repeat (first | (with_reducible first | exact HB.out | apply below_alloc | apply pw_below_drewN | apply below_drew1) | exact HB.out))) : w.heap.size ≤ gb153)); have n3_ := Aside0.mk ((by rw [hg]; exact (below_size (by repeat (first | (with_reducible first | exact HB.out | apply below_alloc | apply pw_below_drewN | apply below_drew1) | exact HB.out))) : w.heap.size ≤ gb153)); clear HB; have HB := n0_; have BK153 := n1_; have GW153 := n2_; have GE153 := n3_; clear n0_ n1_ n2_ n3_; clear hb hbox hg) | ((with_reducible refine gate_dst (N := 4) rfl ?_); refine box_event ?hg (N := 4) ?hd (cs := #[.int .u8 a1_0, .int .i64 a1_1, .int .i64 a1_2]) (t := 45) ?hr ?_; (case hd => rfl); (case hg => rfl); (case hr => first | (go_simp; done) | (go_simp; rfl)); intro gb154 hg w7 hbox hb; have n0_ := Aside0.mk (blk_below (g := gb153) (o := .cells #[.slice A0_0 l0_0.length c0_0, .slice A0_1 l0_1.length c0_1, .int .i64 a0_2] 34 (0, 0)) (by (with_reducible repeat (first | refine blk_drewN ?_ _ | refine blk_drew ?_ | refine blk_alloc ?_ _)); exact BK153.out) hb); have n1_ := Aside0.mk (below_step (by repeat (first | (with_reducible first | exact HB.out | apply below_alloc | apply pw_below_drewN | apply below_drew1 | refine below_set ?_ GE153.out) | exact HB.out)) hb); have n2_ := Aside0.mk (hbox); have n3_ := Aside0.mk ((by rw [hg]; exact (below_size (by repeat (first | (with_reducible first | exact HB.out | apply below_alloc | apply pw_below_drewN | apply below_drew1 | refine below_set ?_ GE153.out) | exact HB.out))) : w.heap.size ≤ gb154)); have n4_ := Aside0.mk ((by rw [hg]; exact (below_size (by repeat (first | (with_reducible first | exact HB.out | apply below_alloc | apply pw_below_drewN | apply below_drew1 | refine below_set ?_ GE153.out) | exact HB.out))) : w.heap.size ≤ gb154)); have n5_ := Aside0.mk ((by rw [hg]; exact Nat.ne_of_lt (blk_lt (g := gb153) (o := .cells #[.slice A0_0 l0_0.length c0_0, .slice A0_1 l0_1.length c0_1, .int .i64 a0_2] 34 (0, 0)) (by (with_reducible repeat (first | refine blk_drewN ?_ _ | refine blk_drew ?_ | refine blk_alloc ?_ _)); exact BK153.out)) : gb153 ≠ gb154)); have n6_ := Aside0.mk ((by rw [hg]; exact Nat.ne_of_gt (blk_lt (g := gb153) (o := .cells #[.slice A0_0 l0_0.length c0_0, .slice A0_1 l0_1.length c0_1, .int .i64 a0_2] 34 (0, 0)) (by (with_reducible repeat (first | refine blk_drewN ?_ _ | refine blk_drew ?_ | refine blk_alloc ?_ _)); exact BK153.out)) : gb154 ≠ gb153)); clear BK153; clear HB; have BK153 := n0_; have HB := n1_; have BK154 := n2_; have GW154 := n3_; have GE154 := n4_; have NB153_154 := n5_; have NB154_153 := n6_; clear n0_ n1_ n2_ n3_ n4_ n5_ n6_; clear hb hbox hg; have hnb8 := NB154_153.out; have hnc8 := NB153_154.out; have hcz9_0 : w7.cell? ⟨gb154, 0, none⟩ = some (.int .u8 a1_0) := (blk_cell BK154.out 0).trans rfl; have hcz9_1 : w7.cell? ⟨gb154, 1, none⟩ = some (.int .i64 a1_1) := (blk_cell BK154.out 1).trans rfl; have hcz9_2 : w7.cell? ⟨gb154, 2, none⟩ = some (.int .i64 a1_2) := (blk_cell BK154.out 2).trans rfl; have hfz9_0 := blk_frozen BK154.out 0; have hfz9_1 := blk_frozen BK154.out 1; have hfz9_2 := blk_frozen BK154.out 2) | ((with_reducible refine gate_callee (f := 20) rfl ?_); refine goesL_ (some 11) rfl rfl Tryd.func20 (by kernel_rfl) rfl #[.int .i64 (wrap64 (a1_0))] rfl (by (try simp only [List.map_toArray, List.map_cons, List.map_nil]); first | done | rfl | (simp only [List.length_drop, List.length_take]; rfl)) ?_; (with_reducible refine (transomref01_Size.calls k (wrap64 (a1_0)) t155 _ A4.out).mono ?_); rintro e w' ⟨rfl, ⟨nd, rfl⟩⟩; refine ⟨_, rfl, ?_⟩))
  (try simp only [Act.put, List.setIfInBounds_toArray, List.set_cons_zero, List.set_cons_succ])
  go_cut [2] (fun v2 wc => ∃ (kq : Nat) (x2_4 : Int), v2 = .int .u64 x2_4 ∧ Aside0 (transomhand05_Number.j0 kq x2_4 t155 a1_0 a1_1 a1_2 = some r) ∧ Aside0 (kq ≤ k) ∧ Aside0 (wc.heap[gb153]? = some (.cells #[(.slice A0_0 l0_0.length c0_0), (.slice A0_1 l0_1.length c0_1), .int .i64 a0_2] 34 (0, 0))) ∧ Aside0 (wc.heap[gb154]? = some (.cells #[.int .u8 a1_0, .int .i64 a1_1, .int .i64 a1_2] 45 (0, 0))) ∧ Aside0 (Below w.heap.size w wc))
  case first =>
    have H := HC5.out
    clear HC5
    by_cases c10 : a1_0 = 1
    · rw [if_pos c10] at H
      have c10b0 : (a1_0 == 1) = true := beq_iff_eq.mpr c10
      have c10b1 : (a1_0 != 1) = false := bne_eq_false_iff_eq.mpr c10
      clear c10
      (first | rw [c10b0] | (simp only [i64_w, i32_w]; rw [c10b0]) | skip)
      obtain rfl := Option.some.inj H
      have hnb11 := NB154_153.out
      have hnc11 := NB153_154.out
      have hcz12_0 : w7.cell? ⟨gb154, 0, none⟩ = some (.int .u8 a1_0) := (blk_cell BK154.out 0).trans rfl
      have hcz12_1 : w7.cell? ⟨gb154, 1, none⟩ = some (.int .i64 a1_1) := (blk_cell BK154.out 1).trans rfl
      have hcz12_2 : w7.cell? ⟨gb154, 2, none⟩ = some (.int .i64 a1_2) := (blk_cell BK154.out 2).trans rfl
      have hfz12_0 := blk_frozen BK154.out 0
      have hfz12_1 := blk_frozen BK154.out 1
      have hfz12_2 := blk_frozen BK154.out 2
      go_wp2
      go_ret
      exact ⟨by first | rfl | (simp [errW_none, errW_some] <;> rfl) | (simp [*, errW_none, errW_some] <;> rfl), by repeat (first | (with_reducible first | exact HB.out | apply below_alloc | apply pw_below_drewN | apply below_drew1 | refine below_set ?_ GE153.out | refine below_set ?_ GE154.out) | exact HB.out)⟩
    · rw [if_neg c10] at H
      have c10b0 : (a1_0 == 1) = false := beq_eq_false_iff_ne.mpr c10
      have c10b1 : (a1_0 != 1) = true := bne_iff_ne.mpr c10
      (first | rw [c10b0] | (simp only [i64_w, i32_w]; rw [c10b0]) | skip)
      by_cases c13 : a1_0 = 10
      · rw [if_pos c13] at H
        have c13b0 : (a1_0 == 10) = true := beq_iff_eq.mpr c13
        have c13b1 : (a1_0 != 10) = false := bne_eq_false_iff_eq.mpr c13
        clear c13
        by_cases c14 : 0 ≤ a1_1
        · rw [if_pos c14] at H
          have c14b0 : decide (0 ≤ a1_1) = true := decide_eq_true c14
          clear c14
          by_cases c15 : a1_1 < (l0_1.length : Int)
          · rw [if_pos c15] at H
            have c15b0 : decide (a1_1 < (l0_1.length : Int)) = true := decide_eq_true c15
            clear c15
            by_cases c16 : (IntKind.u64.wrap ((((rd_T58 l0_1 a1_1).f1).length : Int))) = 0
            · rw [if_pos c16] at H
              exact absurd H (by simp)
            · rw [if_neg c16] at H
              have c16b0 : ((IntKind.u64.wrap ((((rd_T58 l0_1 a1_1).f1).length : Int))) == 0) = false := beq_eq_false_iff_ne.mpr c16
              have c16b1 : ((IntKind.u64.wrap ((((rd_T58 l0_1 a1_1).f1).length : Int))) != 0) = true := bne_iff_ne.mpr c16
              obtain rfl := Option.some.inj H
              have hnb17 := NB154_153.out
              have hnc17 := NB153_154.out
              have hcz18_0 : w7.cell? ⟨gb154, 0, none⟩ = some (.int .u8 a1_0) := (blk_cell BK154.out 0).trans rfl
              have hcz18_1 : w7.cell? ⟨gb154, 1, none⟩ = some (.int .i64 a1_1) := (blk_cell BK154.out 1).trans rfl
              have hcz18_2 : w7.cell? ⟨gb154, 2, none⟩ = some (.int .i64 a1_2) := (blk_cell BK154.out 2).trans rfl
              have hfz18_0 := blk_frozen BK154.out 0
              have hfz18_1 := blk_frozen BK154.out 1
              have hfz18_2 := blk_frozen BK154.out 2
              have hcz19_0 : w7.cell? ⟨gb153, 0, none⟩ = some (.slice A0_0 l0_0.length c0_0) := (blk_cell BK153.out 0).trans rfl
              have hcz19_1 : w7.cell? ⟨gb153, 1, none⟩ = some (.slice A0_1 l0_1.length c0_1) := (blk_cell BK153.out 1).trans rfl
              have hcz19_2 : w7.cell? ⟨gb153, 2, none⟩ = some (.int .i64 a0_2) := (blk_cell BK153.out 2).trans rfl
              have hfz19_0 := blk_frozen BK153.out 0
              have hfz19_1 := blk_frozen BK153.out 1
              have hfz19_2 := blk_frozen BK153.out 2
              have p156 : 0 ≤ (a1_1 : Int) := of_decide_eq_true (by first | (with_reducible assumption) | assumption)
              have q156 : a1_1 < (l0_1.length : Int) := of_decide_eq_true (by first | (with_reducible assumption) | assumption)
              obtain ⟨ad156, A156_1, c156_1, e156, hx156_0, hx156_1, hl156_1, hi156_1⟩ := at_T58 HR0_1.out a1_1 p156 q156
              cases e156
              replace hx156_0 := (HB.out.cell (World.block_lt_of_cell? w _ hx156_0)).trans hx156_0
              replace hx156_1 := (HB.out.cell (World.block_lt_of_cell? w _ hx156_1)).trans hx156_1
              have HR156_1 := Aside0.mk hi156_1
              have HC156_1 := Aside0.mk hl156_1
              clear hi156_1 hl156_1
              replace p156 := eq_true p156
              replace q156 := eq_true q156
              go_wp2
              go_ret
              exact ⟨by first | rfl | (simp [errW_none, errW_some] <;> rfl) | (simp [*, errW_none, errW_some] <;> rfl), by repeat (first | (with_reducible first | exact HB.out | apply below_alloc | apply pw_below_drewN | apply below_drew1 | refine below_set ?_ GE153.out | refine below_set ?_ GE154.out) | exact HB.out)⟩
          · rw [if_neg c15] at H
            exact absurd H (by simp)
        · rw [if_neg c14] at H
          exact absurd H (by simp)
      · rw [if_neg c13] at H
        have c13b0 : (a1_0 == 10) = false := beq_eq_false_iff_ne.mpr c13
        have c13b1 : (a1_0 != 10) = true := bne_iff_ne.mpr c13
        by_cases c20 : t155 < 8
        · rw [if_pos c20] at H
          have c20b0 : decide (t155 < 8) = true := decide_eq_true c20
          clear c20
          obtain ⟨ji21, hji21⟩ : ∃ j_ : Int, (wrap64 (8 * t155)) = j_ := ⟨_, rfl⟩
          replace H : (if 0 ≤ (ji21) then (if (shl .u64 1 (ji21)) = 0 then (none) else (transomhand05_Number.j0 k (Int.tmod a2 (shl .u64 1 (ji21))) t155 a1_0 a1_1 a1_2)) else (none)) = some r := by first | (rw [hji21] at H; exact H) | (simp only [hji21] at H ⊢; exact H)
          have hji21w : (IntKind.i64.wrap (8 * t155)) = ji21 := (i64_w _).trans hji21
          by_cases c22 : 0 ≤ (ji21)
          · rw [if_pos c22] at H
            have c22b0 := eq_true c22
            have c22b1 : decide (0 ≤ (ji21)) = true := decide_eq_true c22
            clear c22
            obtain ⟨ji23, hji23⟩ : ∃ j_ : Int, (shl .u64 1 (ji21)) = j_ := ⟨_, rfl⟩
            replace H : (if (ji23) = 0 then (none) else (transomhand05_Number.j0 k (Int.tmod a2 (ji23)) t155 a1_0 a1_1 a1_2)) = some r := by first | (rw [hji23] at H; exact H) | (simp only [hji23] at H ⊢; exact H)
            have hji23_ : (IntKind.u64.wrap (1 * 2 ^ min (ji21).toNat 64)) = ji23 := hji23
            have hji23z : (ji21) ≤ 64 → (IntKind.u64.wrap (1 * 2 ^ (ji21).toNat)) = ji23 := shl_small hji23
            have hji23u : (IntKind.u64.wrap (2 ^ min (ji21).toNat 64)) = ji23 := by have h_ := hji23_; rw [Int.one_mul] at h_; exact h_
            have hji23v : (ji21) ≤ 64 → (IntKind.u64.wrap (2 ^ (ji21).toNat)) = ji23 := fun hle_ => by have h_ := hji23z hle_; rw [Int.one_mul] at h_; exact h_
            by_cases c24 : (ji23) = 0
            · rw [if_pos c24] at H
              exact absurd H (by simp)
            · rw [if_neg c24] at H
              have c24b0 : ((ji23) == 0) = false := beq_eq_false_iff_ne.mpr c24
              have c24b1 : ((ji23) != 0) = true := bne_iff_ne.mpr c24
              have H' := Aside0.mk H
              clear H
              have hnb25 := NB154_153.out
              have hnc25 := NB153_154.out
              have hcz26_0 : w7.cell? ⟨gb154, 0, none⟩ = some (.int .u8 a1_0) := (blk_cell BK154.out 0).trans rfl
              have hcz26_1 : w7.cell? ⟨gb154, 1, none⟩ = some (.int .i64 a1_1) := (blk_cell BK154.out 1).trans rfl
              have hcz26_2 : w7.cell? ⟨gb154, 2, none⟩ = some (.int .i64 a1_2) := (blk_cell BK154.out 2).trans rfl
              have hfz26_0 := blk_frozen BK154.out 0
              have hfz26_1 := blk_frozen BK154.out 1
              have hfz26_2 := blk_frozen BK154.out 2
              go_wp2
              go_meet
              case rel => exact ⟨_, (Int.tmod a2 (ji23)), (by first | rfl | (simp; done) | (simp only [← hji23] <;> (first | rfl | simp)) | (simp [*]; done)), H', ⟨by first | omega | exact Nat.le_refl _⟩, ⟨by (with_reducible repeat (first | refine blk_drewN ?_ _ | refine blk_drew ?_ | refine blk_alloc ?_ _)); exact BK153.out⟩, ⟨by (with_reducible repeat (first | refine blk_drewN ?_ _ | refine blk_drew ?_ | refine blk_alloc ?_ _)); exact BK154.out⟩, ⟨by repeat (first | (with_reducible first | exact HB.out | apply below_alloc | apply pw_below_drewN | apply below_drew1 | refine below_set ?_ GE153.out | refine below_set ?_ GE154.out) | exact HB.out)⟩⟩
          · rw [if_neg c22] at H
            exact absurd H (by simp)
        · rw [if_neg c20] at H
          have c20b0 : decide (t155 < 8) = false := decide_eq_false c20
          clear c20
          have H' := Aside0.mk H
          clear H
          have hnb27 := NB154_153.out
          have hnc27 := NB153_154.out
          have hcz28_0 : w7.cell? ⟨gb154, 0, none⟩ = some (.int .u8 a1_0) := (blk_cell BK154.out 0).trans rfl
          have hcz28_1 : w7.cell? ⟨gb154, 1, none⟩ = some (.int .i64 a1_1) := (blk_cell BK154.out 1).trans rfl
          have hcz28_2 : w7.cell? ⟨gb154, 2, none⟩ = some (.int .i64 a1_2) := (blk_cell BK154.out 2).trans rfl
          have hfz28_0 := blk_frozen BK154.out 0
          have hfz28_1 := blk_frozen BK154.out 1
          have hfz28_2 := blk_frozen BK154.out 2
          go_wp2
          go_meet
          case rel => exact ⟨_, (a2), (by first | rfl | (simp; done) | (simp [*]; done)), H', ⟨by first | omega | exact Nat.le_refl _⟩, ⟨by (with_reducible repeat (first | refine blk_drewN ?_ _ | refine blk_drew ?_ | refine blk_alloc ?_ _)); exact BK153.out⟩, ⟨by (with_reducible repeat (first | refine blk_drewN ?_ _ | refine blk_drew ?_ | refine blk_alloc ?_ _)); exact BK154.out⟩, ⟨by repeat (first | (with_reducible first | exact HB.out | apply below_alloc | apply pw_below_drewN | apply below_drew1 | refine below_set ?_ GE153.out | refine below_set ?_ GE154.out) | exact HB.out)⟩⟩
  case rest =>
    clear HC5
    try clear c1
    try clear p1
    try clear q1
    try clear hx1
    try clear c2
    try clear p2
    try clear p6
    try clear c8
    try clear c10
    try clear c10b0
    try clear c10b1
    try clear c11
    try clear c13
    try clear c13b0
    try clear c13b1
    try clear c14
    try clear c14b0
    try clear c15
    try clear c15b0
    try clear p15
    try clear q15
    try clear hx15
    try clear c16
    try clear c16b0
    try clear c16b1
    try clear c17
    try clear c20
    try clear c20b0
    try clear c22
    try clear c22b0
    try clear c22b1
    try clear c24
    try clear c24b0
    try clear c24b1
    try clear c25
    try clear c27
    try clear hcz12_0
    try clear hcz12_1
    try clear hcz12_2
    try clear hcz18_0
    try clear hcz18_1
    try clear hcz18_2
    try clear hcz19_0
    try clear hcz19_1
    try clear hcz19_2
    try clear hcz26_0
    try clear hcz26_1
    try clear hcz26_2
    try clear hcz28_0
    try clear hcz28_1
    try clear hcz28_2
    try clear hcz9_0
    try clear hcz9_1
    try clear hcz9_2
    try clear hfz12_0
    try clear hfz12_1
    try clear hfz12_2
    try clear hfz18_0
    try clear hfz18_1
    try clear hfz18_2
    try clear hfz19_0
    try clear hfz19_1
    try clear hfz19_2
    try clear hfz26_0
    try clear hfz26_1
    try clear hfz26_2
    try clear hfz28_0
    try clear hfz28_1
    try clear hfz28_2
    try clear hfz9_0
    try clear hfz9_1
    try clear hfz9_2
    try clear hx156_0
    try clear hx156_1
    try clear p156
    try clear q156
    obtain ⟨kq, x2_4, rfl, HA, HJ4, BK153, BK154, HB⟩ := hcut
    cases kq with
    | zero => exact absurd HA.out (by simp [transomhand05_Number.j0])
    | succ kj4 =>
      have H := HA.out
      clear HA
      simp only [transomhand05_Number.j0] at H
      replace H := Option.bind_eq_some_iff.mp H
      obtain ⟨t157, A290, H⟩ := H
      replace H : (if t157 = true then ((transomref01_Signed.f kj4 x2_4 t155).bind fun t158 => (some t158)) else (some x2_4)) = some r := H
      have A29 := Aside0.mk A290
      clear A290
      by_cases c30 : t157 = true
      · subst c30
        have H1 : ((transomref01_Signed.f kj4 x2_4 t155).bind fun t158 => (some t158)) = some r := by rw [if_pos rfl] at H; exact H
        clear H
        have H := H1
        clear H1
        replace H := Option.bind_eq_some_iff.mp H
        obtain ⟨t158, A310, H⟩ := H
        replace H : (some t158) = some r := H
        have A31 := Aside0.mk A310
        clear A310
        obtain rfl := Option.some.inj H
        have hnb32 := NB154_153.out
        have hnc32 := NB153_154.out
        have hcz33_0 : wc.cell? ⟨gb154, 0, none⟩ = some (.int .u8 a1_0) := (blk_cell BK154.out 0).trans rfl
        have hcz33_1 : wc.cell? ⟨gb154, 1, none⟩ = some (.int .i64 a1_1) := (blk_cell BK154.out 1).trans rfl
        have hcz33_2 : wc.cell? ⟨gb154, 2, none⟩ = some (.int .i64 a1_2) := (blk_cell BK154.out 2).trans rfl
        have hfz33_0 := blk_frozen BK154.out 0
        have hfz33_1 := blk_frozen BK154.out 1
        have hfz33_2 := blk_frozen BK154.out 2
        go_wp2_with (first | ((with_reducible refine gate_callee (f := 21) rfl ?_); refine goesL_ (some 44) rfl rfl Tryd.func21 (by kernel_rfl) rfl #[.int .i64 (wrap64 (a1_0))] rfl (by (try simp only [List.map_toArray, List.map_cons, List.map_nil]); first | done | rfl | (simp only [List.length_drop, List.length_take]; rfl)) ?_; (with_reducible refine (transomref01_Sign.calls (wrap64 (a1_0)) true _ A29.out).mono ?_); rintro e w' ⟨rfl, ⟨nd, rfl⟩⟩; refine ⟨_, rfl, ?_⟩) | ((with_reducible refine gate_callee (f := 22) rfl ?_); refine goesL_ (some 47) rfl rfl Tryd.func22 (by kernel_rfl) rfl #[.int .u64 x2_4, .int .i64 t155] rfl (by (try simp only [List.map_toArray, List.map_cons, List.map_nil]); first | done | rfl | (simp only [List.length_drop, List.length_take]; rfl)) ?_; (with_reducible refine (transomref01_Signed.calls kj4 x2_4 t155 t158 _ A31.out).mono ?_); rintro e w' ⟨rfl, ⟨nd, rfl⟩⟩; refine ⟨_, rfl, ?_⟩))
        go_ret
        exact ⟨by first | rfl | (simp [errW_none, errW_some] <;> rfl) | (simp [*, errW_none, errW_some] <;> rfl), by repeat (first | (with_reducible first | exact HB.out | apply below_alloc | apply pw_below_drewN | apply below_drew1 | refine below_set ?_ GE153.out | refine below_set ?_ GE154.out) | exact HB.out)⟩
      · replace c30 := Bool.eq_false_iff.mpr c30
        subst c30
        have H1 : (some x2_4) = some r := by rw [if_neg (show ¬ (false = true) by decide)] at H; exact H
        clear H
        have H := H1
        clear H1
        obtain rfl := Option.some.inj H
        have hnb34 := NB154_153.out
        have hnc34 := NB153_154.out
        have hcz35_0 : wc.cell? ⟨gb154, 0, none⟩ = some (.int .u8 a1_0) := (blk_cell BK154.out 0).trans rfl
        have hcz35_1 : wc.cell? ⟨gb154, 1, none⟩ = some (.int .i64 a1_1) := (blk_cell BK154.out 1).trans rfl
        have hcz35_2 : wc.cell? ⟨gb154, 2, none⟩ = some (.int .i64 a1_2) := (blk_cell BK154.out 2).trans rfl
        have hfz35_0 := blk_frozen BK154.out 0
        have hfz35_1 := blk_frozen BK154.out 1
        have hfz35_2 := blk_frozen BK154.out 2
        go_wp2_with (first | ((with_reducible refine gate_callee (f := 21) rfl ?_); refine goesL_ (some 44) rfl rfl Tryd.func21 (by kernel_rfl) rfl #[.int .i64 (wrap64 (a1_0))] rfl (by (try simp only [List.map_toArray, List.map_cons, List.map_nil]); first | done | rfl | (simp only [List.length_drop, List.length_take]; rfl)) ?_; (with_reducible refine (transomref01_Sign.calls (wrap64 (a1_0)) false _ A29.out).mono ?_); rintro e w' ⟨rfl, ⟨nd, rfl⟩⟩; refine ⟨_, rfl, ?_⟩))
        go_ret
        exact ⟨by first | rfl | (simp [errW_none, errW_some] <;> rfl) | (simp [*, errW_none, errW_some] <;> rfl), by repeat (first | (with_reducible first | exact HB.out | apply below_alloc | apply pw_below_drewN | apply below_drew1 | refine below_set ?_ GE153.out | refine below_set ?_ GE154.out) | exact HB.out)⟩

end Go.Proofs.YthilhndejhnlnaaDoor.QAll
end

section
-- written by a program of this session (turned from a print)
namespace Go.Proofs.YthilhndejhnlnaaDoor.QAll
open Go.RowKit Go.Proofs.YthilhndejhnlnaaDoorW.PrintWords Go.Proofs.YthilhndejhnlnaaDoorW.PrintLast Go.Proofs.YthilhndejhnlnaaDoorW.PrintMore
attribute [local go_sem] max2_int min2_int max_two min_two max_three min_three max_four min_four   -- for this text's walks alone
set_option linter.unusedVariables false
set_option linter.unusedSimpArgs false

-- NOT PRINTED: function 32 (api_Val_32)

-- NOT PRINTED: function 23 (api_Val_23)

/-! ### wire_Size: function 25 -/
mutual
def wire_Size.j0 : Nat → Int → Bool → Option (Int)
  | 0, _, _ => none
  | k + 1, x3, x4 => if x4 = true then (some 1) else (if x3 = 3 then (wire_Size.j1 k x3 (x3 == 3)) else (wire_Size.j1 k x3 (x3 == 7)))
def wire_Size.j1 : Nat → Int → Bool → Option (Int)
  | 0, _, _ => none
  | k + 1, x3, x9 => if x9 = true then (some 2) else (if x3 = 4 then (wire_Size.j2 k x3 (x3 == 4)) else (wire_Size.j2 k x3 (x3 == 8)))
def wire_Size.j2 : Nat → Int → Bool → Option (Int)
  | 0, _, _ => none
  | k + 1, x3, x12 => if x12 = true then (some 4) else (if x3 = 5 then (wire_Size.j3 k (x3 == 5)) else (wire_Size.j3 k (x3 == 9)))
def wire_Size.j3 : Nat → Bool → Option (Int)
  | 0, _ => none
  | k + 1, x15 => if x15 = true then (some 8) else (some 0)
end
def wire_Size.f (k : Nat) (a0 : Int) : Option (Int) := if a0 = 1 then (wire_Size.j0 k a0 (a0 == 1)) else (if a0 = 2 then (wire_Size.j0 k a0 (a0 == 2)) else (if a0 = 6 then (wire_Size.j0 k a0 (a0 == 6)) else (wire_Size.j0 k a0 (a0 == 10))))
theorem wire_Size.mono_l : ∀ k, (∀ y0 y1, LeO (wire_Size.j0 k y0 y1) (wire_Size.j0 (k + 1) y0 y1)) ∧ (∀ y0 y1, LeO (wire_Size.j1 k y0 y1) (wire_Size.j1 (k + 1) y0 y1)) ∧ (∀ y0 y1, LeO (wire_Size.j2 k y0 y1) (wire_Size.j2 (k + 1) y0 y1)) ∧ (∀ y0, LeO (wire_Size.j3 k y0) (wire_Size.j3 (k + 1) y0))
  | 0 => ⟨fun _ _ r h => by simp [wire_Size.j0] at h, fun _ _ r h => by simp [wire_Size.j1] at h, fun _ _ r h => by simp [wire_Size.j2] at h, fun _ r h => by simp [wire_Size.j3] at h⟩
  | k + 1 => by
    obtain ⟨ih0, ih1, ih2, ih3⟩ := wire_Size.mono_l k
    refine ⟨?_, ?_, ?_, ?_⟩
    · intro y0 y1
      unfold wire_Size.j0
      repeat' first
      | (with_reducible exact ih0 _ _)
      | (with_reducible exact ih1 _ _)
      | (with_reducible exact ih2 _ _)
      | (with_reducible exact ih3 _)
      | (with_reducible exact LeO.refl _)
      | (with_reducible exact LeO.none _)
      | (with_reducible refine LeO.ite ?_ ?_)
      | (with_reducible refine LeO.bind ?_ (fun _ => ?_))
      | exact ih0 _ _
      | exact ih1 _ _
      | exact ih2 _ _
      | exact ih3 _
      | exact LeO.none _
      | refine LeO.ite ?_ ?_
      | refine LeO.bind ?_ (fun _ => ?_)
    · intro y0 y1
      unfold wire_Size.j1
      repeat' first
      | (with_reducible exact ih0 _ _)
      | (with_reducible exact ih1 _ _)
      | (with_reducible exact ih2 _ _)
      | (with_reducible exact ih3 _)
      | (with_reducible exact LeO.refl _)
      | (with_reducible exact LeO.none _)
      | (with_reducible refine LeO.ite ?_ ?_)
      | (with_reducible refine LeO.bind ?_ (fun _ => ?_))
      | exact ih0 _ _
      | exact ih1 _ _
      | exact ih2 _ _
      | exact ih3 _
      | exact LeO.none _
      | refine LeO.ite ?_ ?_
      | refine LeO.bind ?_ (fun _ => ?_)
    · intro y0 y1
      unfold wire_Size.j2
      repeat' first
      | (with_reducible exact ih0 _ _)
      | (with_reducible exact ih1 _ _)
      | (with_reducible exact ih2 _ _)
      | (with_reducible exact ih3 _)
      | (with_reducible exact LeO.refl _)
      | (with_reducible exact LeO.none _)
      | (with_reducible refine LeO.ite ?_ ?_)
      | (with_reducible refine LeO.bind ?_ (fun _ => ?_))
      | exact ih0 _ _
      | exact ih1 _ _
      | exact ih2 _ _
      | exact ih3 _
      | exact LeO.none _
      | refine LeO.ite ?_ ?_
      | refine LeO.bind ?_ (fun _ => ?_)
    · intro y0
      unfold wire_Size.j3
      repeat' first
      | (with_reducible exact ih0 _ _)
      | (with_reducible exact ih1 _ _)
      | (with_reducible exact ih2 _ _)
      | (with_reducible exact ih3 _)
      | (with_reducible exact LeO.refl _)
      | (with_reducible exact LeO.none _)
      | (with_reducible refine LeO.ite ?_ ?_)
      | (with_reducible refine LeO.bind ?_ (fun _ => ?_))
      | exact ih0 _ _
      | exact ih1 _ _
      | exact ih2 _ _
      | exact ih3 _
      | exact LeO.none _
      | refine LeO.ite ?_ ?_
      | refine LeO.bind ?_ (fun _ => ?_)
theorem wire_Size.mono : ∀ a0 k, LeO (wire_Size.f k a0) (wire_Size.f (k + 1) a0) := by
  intro a0 k
  obtain ⟨ih0, ih1, ih2, ih3⟩ := wire_Size.mono_l k
  unfold wire_Size.f
  repeat' first
      | (with_reducible exact ih0 _ _)
      | (with_reducible exact ih1 _ _)
      | (with_reducible exact ih2 _ _)
      | (with_reducible exact ih3 _)
      | (with_reducible exact LeO.refl _)
      | (with_reducible exact LeO.none _)
      | (with_reducible refine LeO.ite ?_ ?_)
      | (with_reducible refine LeO.bind ?_ (fun _ => ?_))
      | exact ih0 _ _
      | exact ih1 _ _
      | exact ih2 _ _
      | exact ih3 _
      | exact LeO.none _
      | refine LeO.ite ?_ ?_
      | refine LeO.bind ?_ (fun _ => ?_)
set_option maxHeartbeats 8000000 in
set_option maxRecDepth 100000 in
theorem wire_Size.calls (k : Nat) (a0 : Int) (r : Int) (w : World) (h : wire_Size.f k a0 = some r) :
    Calls Tryd.prog 25 #[.int .u8 a0] w fun e w' => e = .returned (.int .i64 r) ∧ Drawn0 w w' := by
  have H : (if a0 = 1 then (wire_Size.j0 k a0 (a0 == 1)) else (if a0 = 2 then (wire_Size.j0 k a0 (a0 == 2)) else (if a0 = 6 then (wire_Size.j0 k a0 (a0 == 6)) else (wire_Size.j0 k a0 (a0 == 10))))) = some r := h
  clear h
  have HC2 := Aside0.mk H
  clear H
  go_enter Tryd.func25, Tryd.ntmps25
  go_upto_if 4 with (fail)
  go_cut [4] (fun v4 wc => ∃ (kq : Nat) (x4_1 : Bool), v4 = .bool x4_1 ∧ Aside0 (wire_Size.j0 kq a0 x4_1 = some r) ∧ Aside0 (kq ≤ k) ∧ Drawn0 w wc)
  case first =>
    have H := HC2.out
    clear HC2
    by_cases c3 : a0 = 1
    · rw [if_pos c3] at H
      have c3b0 : (a0 == 1) = true := beq_iff_eq.mpr c3
      have c3b1 : (a0 != 1) = false := bne_eq_false_iff_eq.mpr c3
      clear c3
      (first | rw [c3b0] | (simp only [i64_w, i32_w]; rw [c3b0]) | skip)
      have H' := Aside0.mk H
      clear H
      go_wp2
      go_meet
      case rel => exact ⟨_, ((a0 == 1)), (by first | rfl | (simp; done) | (simp [*]; done)), H', ⟨by first | omega | exact Nat.le_refl _⟩, by repeat (first | exact Drawn0.refl _ | apply Drawn0.step)⟩
    · rw [if_neg c3] at H
      have c3b0 : (a0 == 1) = false := beq_eq_false_iff_ne.mpr c3
      have c3b1 : (a0 != 1) = true := bne_iff_ne.mpr c3
      (first | rw [c3b0] | (simp only [i64_w, i32_w]; rw [c3b0]) | skip)
      by_cases c4 : a0 = 2
      · rw [if_pos c4] at H
        have c4b0 : (a0 == 2) = true := beq_iff_eq.mpr c4
        have c4b1 : (a0 != 2) = false := bne_eq_false_iff_eq.mpr c4
        clear c4
        have H' := Aside0.mk H
        clear H
        go_wp2
        go_meet
        case rel => exact ⟨_, ((a0 == 2)), (by first | rfl | (simp; done) | (simp [*]; done)), H', ⟨by first | omega | exact Nat.le_refl _⟩, by repeat (first | exact Drawn0.refl _ | apply Drawn0.step)⟩
      · rw [if_neg c4] at H
        have c4b0 : (a0 == 2) = false := beq_eq_false_iff_ne.mpr c4
        have c4b1 : (a0 != 2) = true := bne_iff_ne.mpr c4
        by_cases c5 : a0 = 6
        · rw [if_pos c5] at H
          have c5b0 : (a0 == 6) = true := beq_iff_eq.mpr c5
          have c5b1 : (a0 != 6) = false := bne_eq_false_iff_eq.mpr c5
          clear c5
          have H' := Aside0.mk H
          clear H
          go_wp2
          go_meet
          case rel => exact ⟨_, ((a0 == 6)), (by first | rfl | (simp; done) | (simp [*]; done)), H', ⟨by first | omega | exact Nat.le_refl _⟩, by repeat (first | exact Drawn0.refl _ | apply Drawn0.step)⟩
        · rw [if_neg c5] at H
          have c5b0 : (a0 == 6) = false := beq_eq_false_iff_ne.mpr c5
          have c5b1 : (a0 != 6) = true := bne_iff_ne.mpr c5
          have H' := Aside0.mk H
          clear H
          go_wp2
          go_meet
          case rel => exact ⟨_, ((a0 == 10)), (by first | rfl | (simp; done) | (simp [*]; done)), H', ⟨by first | omega | exact Nat.le_refl _⟩, by repeat (first | exact Drawn0.refl _ | apply Drawn0.step)⟩
  case rest =>
    clear HC2
    try clear c2
    try clear p2
    try clear c3
    try clear c3b0
    try clear c3b1
    try clear c4
    try clear c4b0
    try clear c4b1
    try clear c5
    try clear c5b0
    try clear c5b1
    obtain ⟨kq, x4_1, rfl, HA, HJ1, ⟨mc1, rfl⟩⟩ := hcut
    cases kq with
    | zero => exact absurd HA.out (by simp [wire_Size.j0])
    | succ kj1 =>
      have H := HA.out
      clear HA
      simp only [wire_Size.j0] at H
      by_cases c6 : x4_1 = true
      · subst c6
        have H1 : (some 1) = some r := by rw [if_pos rfl] at H; exact H
        clear H
        have H := H1
        clear H1
        obtain rfl := Option.some.inj H
        go_wp2
        go_ret
        exact ⟨by first | rfl | (simp; done) | (simp [*]; done), by repeat (first | exact Drawn0.refl _ | apply Drawn0.step)⟩
      · replace c6 := Bool.eq_false_iff.mpr c6
        subst c6
        have H1 : (if a0 = 3 then (wire_Size.j1 kj1 a0 (a0 == 3)) else (wire_Size.j1 kj1 a0 (a0 == 7))) = some r := by rw [if_neg (show ¬ (false = true) by decide)] at H; exact H
        clear H
        have H := H1
        clear H1
        have HC7 := Aside0.mk H
        clear H
        go_upto_if 9 with (fail)
        go_cut [9] (fun v9 wc => ∃ (kq : Nat) (x9_6 : Bool), v9 = .bool x9_6 ∧ Aside0 (wire_Size.j1 kq a0 x9_6 = some r) ∧ Aside0 (kq ≤ kj1) ∧ Drawn0 w wc)
        case first =>
          have H := HC7.out
          clear HC7
          by_cases c8 : a0 = 3
          · rw [if_pos c8] at H
            have c8b0 : (a0 == 3) = true := beq_iff_eq.mpr c8
            have c8b1 : (a0 != 3) = false := bne_eq_false_iff_eq.mpr c8
            clear c8
            (first | rw [c8b0] | (simp only [i64_w, i32_w]; rw [c8b0]) | skip)
            have H' := Aside0.mk H
            clear H
            go_wp2
            go_meet
            case rel => exact ⟨_, ((a0 == 3)), (by first | rfl | (simp; done) | (simp [*]; done)), H', ⟨by have := HJ1.out; first | omega | exact Nat.le_refl _⟩, by repeat (first | exact Drawn0.refl _ | apply Drawn0.step)⟩
          · rw [if_neg c8] at H
            have c8b0 : (a0 == 3) = false := beq_eq_false_iff_ne.mpr c8
            have c8b1 : (a0 != 3) = true := bne_iff_ne.mpr c8
            (first | rw [c8b0] | (simp only [i64_w, i32_w]; rw [c8b0]) | skip)
            have H' := Aside0.mk H
            clear H
            go_wp2
            go_meet
            case rel => exact ⟨_, ((a0 == 7)), (by first | rfl | (simp; done) | (simp [*]; done)), H', ⟨by have := HJ1.out; first | omega | exact Nat.le_refl _⟩, by repeat (first | exact Drawn0.refl _ | apply Drawn0.step)⟩
        case rest =>
          clear HC7
          try clear c1
          try clear c2
          try clear p2
          try clear c3
          try clear c3b0
          try clear c3b1
          try clear c4
          try clear c4b0
          try clear c4b1
          try clear c5
          try clear c5b0
          try clear c5b1
          try clear c6
          try clear c8
          try clear c8b0
          try clear c8b1
          try clear p2
          obtain ⟨kq, x9_6, rfl, HA, HJ6, ⟨mc6, rfl⟩⟩ := hcut
          cases kq with
          | zero => exact absurd HA.out (by simp [wire_Size.j1])
          | succ kj6 =>
            have H := HA.out
            clear HA
            simp only [wire_Size.j1] at H
            by_cases c9 : x9_6 = true
            · subst c9
              have H1 : (some 2) = some r := by rw [if_pos rfl] at H; exact H
              clear H
              have H := H1
              clear H1
              obtain rfl := Option.some.inj H
              go_wp2
              go_ret
              exact ⟨by first | rfl | (simp; done) | (simp [*]; done), by repeat (first | exact Drawn0.refl _ | apply Drawn0.step)⟩
            · replace c9 := Bool.eq_false_iff.mpr c9
              subst c9
              have H1 : (if a0 = 4 then (wire_Size.j2 kj6 a0 (a0 == 4)) else (wire_Size.j2 kj6 a0 (a0 == 8))) = some r := by rw [if_neg (show ¬ (false = true) by decide)] at H; exact H
              clear H
              have H := H1
              clear H1
              have HC10 := Aside0.mk H
              clear H
              go_upto_if 12 with (fail)
              go_cut [12] (fun v12 wc => ∃ (kq : Nat) (x12_9 : Bool), v12 = .bool x12_9 ∧ Aside0 (wire_Size.j2 kq a0 x12_9 = some r) ∧ Aside0 (kq ≤ kj6) ∧ Drawn0 w wc)
              case first =>
                have H := HC10.out
                clear HC10
                by_cases c11 : a0 = 4
                · rw [if_pos c11] at H
                  have c11b0 : (a0 == 4) = true := beq_iff_eq.mpr c11
                  have c11b1 : (a0 != 4) = false := bne_eq_false_iff_eq.mpr c11
                  clear c11
                  (first | rw [c11b0] | (simp only [i64_w, i32_w]; rw [c11b0]) | skip)
                  have H' := Aside0.mk H
                  clear H
                  go_wp2
                  go_meet
                  case rel => exact ⟨_, ((a0 == 4)), (by first | rfl | (simp; done) | (simp [*]; done)), H', ⟨by have := HJ1.out; have := HJ6.out; first | omega | exact Nat.le_refl _⟩, by repeat (first | exact Drawn0.refl _ | apply Drawn0.step)⟩
                · rw [if_neg c11] at H
                  have c11b0 : (a0 == 4) = false := beq_eq_false_iff_ne.mpr c11
                  have c11b1 : (a0 != 4) = true := bne_iff_ne.mpr c11
                  (first | rw [c11b0] | (simp only [i64_w, i32_w]; rw [c11b0]) | skip)
                  have H' := Aside0.mk H
                  clear H
                  go_wp2
                  go_meet
                  case rel => exact ⟨_, ((a0 == 8)), (by first | rfl | (simp; done) | (simp [*]; done)), H', ⟨by have := HJ1.out; have := HJ6.out; first | omega | exact Nat.le_refl _⟩, by repeat (first | exact Drawn0.refl _ | apply Drawn0.step)⟩
              case rest =>
                clear HC10
                try clear c1
                try clear c2
                try clear p2
                try clear c3
                try clear c3b0
                try clear c3b1
                try clear c4
                try clear c4b0
                try clear c4b1
                try clear c5
                try clear c5b0
                try clear c5b1
                try clear c6
                try clear c8
                try clear c8b0
                try clear c8b1
                try clear c9
                try clear c11
                try clear c11b0
                try clear c11b1
                try clear p2
                obtain ⟨kq, x12_9, rfl, HA, HJ9, ⟨mc9, rfl⟩⟩ := hcut
                cases kq with
                | zero => exact absurd HA.out (by simp [wire_Size.j2])
                | succ kj9 =>
                  have H := HA.out
                  clear HA
                  simp only [wire_Size.j2] at H
                  by_cases c12 : x12_9 = true
                  · subst c12
                    have H1 : (some 4) = some r := by rw [if_pos rfl] at H; exact H
                    clear H
                    have H := H1
                    clear H1
                    obtain rfl := Option.some.inj H
                    go_wp2
                    go_ret
                    exact ⟨by first | rfl | (simp; done) | (simp [*]; done), by repeat (first | exact Drawn0.refl _ | apply Drawn0.step)⟩
                  · replace c12 := Bool.eq_false_iff.mpr c12
                    subst c12
                    have H1 : (if a0 = 5 then (wire_Size.j3 kj9 (a0 == 5)) else (wire_Size.j3 kj9 (a0 == 9))) = some r := by rw [if_neg (show ¬ (false = true) by decide)] at H; exact H
                    clear H
                    have H := H1
                    clear H1
                    have HC13 := Aside0.mk H
                    clear H
                    go_upto_if 15 with (fail)
                    go_cut [15] (fun v15 wc => ∃ (kq : Nat) (x15_12 : Bool), v15 = .bool x15_12 ∧ Aside0 (wire_Size.j3 kq x15_12 = some r) ∧ Aside0 (kq ≤ kj9) ∧ Drawn0 w wc)
                    case first =>
                      have H := HC13.out
                      clear HC13
                      by_cases c14 : a0 = 5
                      · rw [if_pos c14] at H
                        have c14b0 : (a0 == 5) = true := beq_iff_eq.mpr c14
                        have c14b1 : (a0 != 5) = false := bne_eq_false_iff_eq.mpr c14
                        clear c14
                        (first | rw [c14b0] | (simp only [i64_w, i32_w]; rw [c14b0]) | skip)
                        have H' := Aside0.mk H
                        clear H
                        go_wp2
                        go_meet
                        case rel => exact ⟨_, ((a0 == 5)), (by first | rfl | (simp; done) | (simp [*]; done)), H', ⟨by have := HJ1.out; have := HJ6.out; have := HJ9.out; first | omega | exact Nat.le_refl _⟩, by repeat (first | exact Drawn0.refl _ | apply Drawn0.step)⟩
                      · rw [if_neg c14] at H
                        have c14b0 : (a0 == 5) = false := beq_eq_false_iff_ne.mpr c14
                        have c14b1 : (a0 != 5) = true := bne_iff_ne.mpr c14
                        (first | rw [c14b0] | (simp only [i64_w, i32_w]; rw [c14b0]) | skip)
                        have H' := Aside0.mk H
                        clear H
                        go_wp2
                        go_meet
                        case rel => exact ⟨_, ((a0 == 9)), (by first | rfl | (simp; done) | (simp [*]; done)), H', ⟨by have := HJ1.out; have := HJ6.out; have := HJ9.out; first | omega | exact Nat.le_refl _⟩, by repeat (first | exact Drawn0.refl _ | apply Drawn0.step)⟩
                    case rest =>
                      clear HC13
                      try clear c1
                      try clear c2
                      try clear p2
                      try clear c3
                      try clear c3b0
                      try clear c3b1
                      try clear c4
                      try clear c4b0
                      try clear c4b1
                      try clear c5
                      try clear c5b0
                      try clear c5b1
                      try clear c6
                      try clear c8
                      try clear c8b0
                      try clear c8b1
                      try clear c9
                      try clear c11
                      try clear c11b0
                      try clear c11b1
                      try clear c12
                      try clear c14
                      try clear c14b0
                      try clear c14b1
                      try clear p2
                      obtain ⟨kq, x15_12, rfl, HA, HJ12, ⟨mc12, rfl⟩⟩ := hcut
                      cases kq with
                      | zero => exact absurd HA.out (by simp [wire_Size.j3])
                      | succ kj12 =>
                        have H := HA.out
                        clear HA
                        simp only [wire_Size.j3] at H
                        by_cases c15 : x15_12 = true
                        · subst c15
                          have H1 : (some 8) = some r := by rw [if_pos rfl] at H; exact H
                          clear H
                          have H := H1
                          clear H1
                          obtain rfl := Option.some.inj H
                          go_wp2
                          go_ret
                          exact ⟨by first | rfl | (simp; done) | (simp [*]; done), by repeat (first | exact Drawn0.refl _ | apply Drawn0.step)⟩
                        · replace c15 := Bool.eq_false_iff.mpr c15
                          subst c15
                          have H1 : (some 0) = some r := by rw [if_neg (show ¬ (false = true) by decide)] at H; exact H
                          clear H
                          have H := H1
                          clear H1
                          obtain rfl := Option.some.inj H
                          go_wp2
                          go_ret
                          exact ⟨by first | rfl | (simp; done) | (simp [*]; done), by repeat (first | exact Drawn0.refl _ | apply Drawn0.step)⟩

/-! ### wire_Sign: function 33 -/
def wire_Sign.f (a0 : Int) : Option (Bool) := if a0 ≥ 2 then (some (decide (a0 ≤ 5))) else (some false)
set_option maxHeartbeats 8000000 in
set_option maxRecDepth 100000 in
theorem wire_Sign.calls (a0 : Int) (r : Bool) (w : World) (h : wire_Sign.f a0 = some r) :
    Calls Tryd.prog 33 #[.int .u8 a0] w fun e w' => e = .returned (.bool r) ∧ Drawn0 w w' := by
  have H : (if a0 ≥ 2 then (some (decide (a0 ≤ 5))) else (some false)) = some r := h
  clear h
  by_cases c2 : a0 ≥ 2
  · rw [if_pos c2] at H
    have c2b0 : decide (2 ≤ a0) = true := decide_eq_true c2
    clear c2
    obtain rfl := Option.some.inj H
    go_enter Tryd.func33, Tryd.ntmps33
    go_wp2
    go_ret
    exact ⟨by first | rfl | (simp; done) | (simp [*]; done), by repeat (first | exact Drawn0.refl _ | apply Drawn0.step)⟩
  · rw [if_neg c2] at H
    have c2b0 : decide (2 ≤ a0) = false := decide_eq_false c2
    clear c2
    obtain rfl := Option.some.inj H
    go_enter Tryd.func33, Tryd.ntmps33
    go_wp2
    go_ret
    exact ⟨by first | rfl | (simp; done) | (simp [*]; done), by repeat (first | exact Drawn0.refl _ | apply Drawn0.step)⟩

/-! ### wire_Signed: function 34 -/
def wire_Signed.f (a0 : Int) (a1 : Int) : Option (Int) := if a1 = 1 then (some (IntKind.u64.wrap (wrap64 (IntKind.i8.wrap (a0))))) else (if a1 = 2 then (some (IntKind.u64.wrap (wrap64 (IntKind.i16.wrap (a0))))) else (if a1 = 4 then (some (IntKind.u64.wrap (wrap64 (wrap32 (a0))))) else (some a0)))
set_option maxHeartbeats 8000000 in
set_option maxRecDepth 100000 in
theorem wire_Signed.calls (a0 : Int) (a1 : Int) (r : Int) (w : World) (h : wire_Signed.f a0 a1 = some r) :
    Calls Tryd.prog 34 #[.int .u64 a0, .int .i64 a1] w fun e w' => e = .returned (.int .u64 r) ∧ Drawn0 w w' := by
  have H : (if a1 = 1 then (some (IntKind.u64.wrap (wrap64 (IntKind.i8.wrap (a0))))) else (if a1 = 2 then (some (IntKind.u64.wrap (wrap64 (IntKind.i16.wrap (a0))))) else (if a1 = 4 then (some (IntKind.u64.wrap (wrap64 (wrap32 (a0))))) else (some a0)))) = some r := h
  clear h
  by_cases c3 : a1 = 1
  · rw [if_pos c3] at H
    have c3b0 : (a1 == 1) = true := beq_iff_eq.mpr c3
    have c3b1 : (a1 != 1) = false := bne_eq_false_iff_eq.mpr c3
    clear c3
    obtain rfl := Option.some.inj H
    go_enter Tryd.func34, Tryd.ntmps34
    go_wp2
    go_ret
    exact ⟨by first | rfl | (simp; done) | (simp [*]; done), by repeat (first | exact Drawn0.refl _ | apply Drawn0.step)⟩
  · rw [if_neg c3] at H
    have c3b0 : (a1 == 1) = false := beq_eq_false_iff_ne.mpr c3
    have c3b1 : (a1 != 1) = true := bne_iff_ne.mpr c3
    by_cases c4 : a1 = 2
    · rw [if_pos c4] at H
      have c4b0 : (a1 == 2) = true := beq_iff_eq.mpr c4
      have c4b1 : (a1 != 2) = false := bne_eq_false_iff_eq.mpr c4
      clear c4
      obtain rfl := Option.some.inj H
      go_enter Tryd.func34, Tryd.ntmps34
      go_wp2
      go_ret
      exact ⟨by first | rfl | (simp; done) | (simp [*]; done), by repeat (first | exact Drawn0.refl _ | apply Drawn0.step)⟩
    · rw [if_neg c4] at H
      have c4b0 : (a1 == 2) = false := beq_eq_false_iff_ne.mpr c4
      have c4b1 : (a1 != 2) = true := bne_iff_ne.mpr c4
      by_cases c5 : a1 = 4
      · rw [if_pos c5] at H
        have c5b0 : (a1 == 4) = true := beq_iff_eq.mpr c5
        have c5b1 : (a1 != 4) = false := bne_eq_false_iff_eq.mpr c5
        clear c5
        obtain rfl := Option.some.inj H
        go_enter Tryd.func34, Tryd.ntmps34
        go_wp2
        go_ret
        exact ⟨by first | rfl | (simp; done) | (simp [*]; done), by repeat (first | exact Drawn0.refl _ | apply Drawn0.step)⟩
      · rw [if_neg c5] at H
        have c5b0 : (a1 == 4) = false := beq_eq_false_iff_ne.mpr c5
        have c5b1 : (a1 != 4) = true := bne_iff_ne.mpr c5
        obtain rfl := Option.some.inj H
        go_enter Tryd.func34, Tryd.ntmps34
        go_wp2
        go_ret
        exact ⟨by first | rfl | (simp; done) | (simp [*]; done), by repeat (first | exact Drawn0.refl _ | apply Drawn0.step)⟩

/-! ### schema_Fits: function 26 -/
def schema_Fits.j0 : Nat → Int → Int → Bool → List (S50) → List (S58) → Int → Int → Int → Int → Option (Bool)
  | 0, _, _, _, _, _, _, _, _, _ => none
  | k + 1, x2, x7, x11, x102000, x102001, x102002, x103000, x103001, x103002 => if x11 = true then (some false) else (if x103000 = 1 then (some (decide (x2 ≤ 1))) else (if x103000 = 10 then (if x103001 ≥ 0 then (if x103001 < (x102001.length : Int) then (if 0 ≤ x103001 then (some (decide (x2 < (IntKind.u64.wrap ((((rd_T58 x102001 x103001).f1).length : Int)))))) else (none)) else (some false)) else (some false)) else ((wire_Sign.f x103000).bind fun t105 => (if t105 = true then ((wire_Signed.f x2 x7).bind fun t106 => (some (t106 == x2))) else (if x7 = 8 then (some true) else (if 0 ≤ (wrap64 (8 * x7)) then (some ((shr .u64 x2 (wrap64 (8 * x7))) == 0)) else (none)))))))
def schema_Fits.f (k : Nat) (l0_0 : List (S50)) (l0_1 : List (S58)) (a0_2 : Int) (a1_0 : Int) (a1_1 : Int) (a1_2 : Int) (a2 : Int) : Option (Bool) := (wire_Size.f k a1_0).bind fun t103 => (if t103 = 0 then (schema_Fits.j0 k a2 t103 true l0_0 l0_1 a0_2 a1_0 a1_1 a1_2) else (schema_Fits.j0 k a2 t103 (a1_2 != 0) l0_0 l0_1 a0_2 a1_0 a1_1 a1_2))
theorem schema_Fits.mono_l : ∀ k, (∀ y0 y1 y2 y3 y4 y5 y6 y7 y8, LeO (schema_Fits.j0 k y0 y1 y2 y3 y4 y5 y6 y7 y8) (schema_Fits.j0 (k + 1) y0 y1 y2 y3 y4 y5 y6 y7 y8))
  | 0 => fun _ _ _ _ _ _ _ _ _ r h => by simp [schema_Fits.j0] at h
  | k + 1 => by
    have ih0 := schema_Fits.mono_l k
    · intro y0 y1 y2 y3 y4 y5 y6 y7 y8
      unfold schema_Fits.j0
      repeat' first
      | (with_reducible exact ih0 _ _ _ _ _ _ _ _ _)
      | (with_reducible exact wire_Size.mono _ _)
      | (with_reducible exact LeO.refl _)
      | (with_reducible exact LeO.none _)
      | (with_reducible refine LeO.ite ?_ ?_)
      | (with_reducible refine LeO.bind ?_ (fun _ => ?_))
      | exact ih0 _ _ _ _ _ _ _ _ _
      | exact wire_Size.mono _ _
      | exact LeO.none _
      | refine LeO.ite ?_ ?_
      | refine LeO.bind ?_ (fun _ => ?_)
theorem schema_Fits.mono : ∀ a0 a1 a2 a3 a4 a5 a6 k, LeO (schema_Fits.f k a0 a1 a2 a3 a4 a5 a6) (schema_Fits.f (k + 1) a0 a1 a2 a3 a4 a5 a6) := by
  intro a0 a1 a2 a3 a4 a5 a6 k
  have ih0 := schema_Fits.mono_l k
  unfold schema_Fits.f
  repeat' first
      | (with_reducible exact ih0 _ _ _ _ _ _ _ _ _)
      | (with_reducible exact wire_Size.mono _ _)
      | (with_reducible exact LeO.refl _)
      | (with_reducible exact LeO.none _)
      | (with_reducible refine LeO.ite ?_ ?_)
      | (with_reducible refine LeO.bind ?_ (fun _ => ?_))
      | exact ih0 _ _ _ _ _ _ _ _ _
      | exact wire_Size.mono _ _
      | exact LeO.none _
      | refine LeO.ite ?_ ?_
      | refine LeO.bind ?_ (fun _ => ?_)
set_option maxHeartbeats 8000000 in
set_option maxRecDepth 100000 in
theorem schema_Fits.calls (k : Nat) (A0_0 : Option Addr) (c0_0 : Nat) (l0_0 : List (S50)) (A0_1 : Option Addr) (c0_1 : Nat) (l0_1 : List (S58)) (a0_2 : Int) (a1_0 : Int) (a1_1 : Int) (a1_2 : Int) (a2 : Int) (r : Bool) (w : World) (hr0_0 : Kd.C k50 w A0_0 l0_0.length l0_0) (hc0_0 : l0_0.length ≤ c0_0) (hr0_1 : Kd.C k58 w A0_1 l0_1.length l0_1) (hc0_1 : l0_1.length ≤ c0_1) (h : schema_Fits.f k l0_0 l0_1 a0_2 a1_0 a1_1 a1_2 a2 = some r) :
    Calls Tryd.prog 26 #[.agg #[.slice A0_0 l0_0.length c0_0, .slice A0_1 l0_1.length c0_1, .int .i64 a0_2], .agg #[.int .u8 a1_0, .int .i64 a1_1, .int .i64 a1_2], .int .u64 a2] w fun e w' => e = .returned (.bool r) ∧ Below w.heap.size w w' := by
  have hu34 := Tryd.underlying34
  have hu45 := Tryd.underlying45
  have HR0_0 := Aside0.mk hr0_0
  have HC0_0 := Aside0.mk hc0_0
  clear hr0_0 hc0_0
  have HR0_1 := Aside0.mk hr0_1
  have HC0_1 := Aside0.mk hc0_1
  clear hr0_1 hc0_1
  have HB := Aside0.mk (Below.refl w.heap.size w)
  have H : ((wire_Size.f k a1_0).bind fun t103 => (if t103 = 0 then (schema_Fits.j0 k a2 t103 true l0_0 l0_1 a0_2 a1_0 a1_1 a1_2) else (schema_Fits.j0 k a2 t103 (a1_2 != 0) l0_0 l0_1 a0_2 a1_0 a1_1 a1_2))) = some r := h
  clear h
  replace H := Option.bind_eq_some_iff.mp H
  obtain ⟨t103, A40, H⟩ := H
  replace H : (if t103 = 0 then (schema_Fits.j0 k a2 t103 true l0_0 l0_1 a0_2 a1_0 a1_1 a1_2) else (schema_Fits.j0 k a2 t103 (a1_2 != 0) l0_0 l0_1 a0_2 a1_0 a1_1 a1_2)) = some r := H
  have A4 := Aside0.mk A40
  clear A40
  have HC5 := Aside0.mk H
  clear H
  go_enter Tryd.func26, Tryd.ntmps26
  go_upto_region 2 with (first | ((with_reducible refine gate_dst (N := 3) rfl ?_); (try (refine gate_guard (by rfl) ?_; dsimp only)); refine box_event ?hg (N := 3) ?hd (cs := #[.slice A0_0 l0_0.length c0_0, .slice A0_1 l0_1.length c0_1, .int .i64 a0_2]) (t := 34) ?hr ?_; (case hd => rfl); (case hg => rfl); (case hr => first | (go_simp; done) | (go_simp; rfl)); intro gb101 hg w6 hbox hb; have n0_ := Aside0.mk (below_step (by repeat (first | (with_reducible first | exact HB.out | apply below_alloc | apply pw_below_drewN | apply below_drew1) | exact HB.out)) hb); have n1_ := Aside0.mk (hbox); have n2_ := Aside0.mk ((by rw [hg]; exact (below_size (by repeat (first | (with_reducible first | exact HB.out | apply below_alloc | apply pw_below_drewN | apply below_drew1) | exact HB.out))) : w.heap.size ≤ gb101)); have n3_ := Aside0.mk ((by rw [hg]; exact (below_size (by repeat (first | (with_reducible first | exact HB.out | apply below_alloc | apply pw_below_drewN | apply below_drew1) | exact HB.out))) : w.heap.size ≤ gb101)); clear HB; have HB := n0_; have BK101 := n1_; have GW101 := n2_; have GE101 := n3_; clear n0_ n1_ n2_ n3_; clear hb hbox hg) | ((with_reducible refine gate_dst (N := 4) rfl ?_); (try (refine gate_guard (by rfl) ?_; dsimp only)); refine box_event ?hg (N := 4) ?hd (cs := #[.int .u8 a1_0, .int .i64 a1_1, .int .i64 a1_2]) (t := 45) ?hr ?_; (case hd => rfl); (case hg => rfl); (case hr => first | (go_simp; done) | (go_simp; rfl)); intro gb102 hg w7 hbox hb; have n0_ := Aside0.mk (blk_below (g := gb101) (o := .cells #[.slice A0_0 l0_0.length c0_0, .slice A0_1 l0_1.length c0_1, .int .i64 a0_2] 34 (0, 0)) (by (with_reducible repeat (first | refine blk_drewN ?_ _ | refine blk_drew ?_ | refine blk_alloc ?_ _)); exact BK101.out) hb); have n1_ := Aside0.mk (below_step (by repeat (first | (with_reducible first | exact HB.out | apply below_alloc | apply pw_below_drewN | apply below_drew1 | refine below_set ?_ GE101.out) | exact HB.out)) hb); have n2_ := Aside0.mk (hbox); have n3_ := Aside0.mk ((by rw [hg]; exact (below_size (by repeat (first | (with_reducible first | exact HB.out | apply below_alloc | apply pw_below_drewN | apply below_drew1 | refine below_set ?_ GE101.out) | exact HB.out))) : w.heap.size ≤ gb102)); have n4_ := Aside0.mk ((by rw [hg]; exact (below_size (by repeat (first | (with_reducible first | exact HB.out | apply below_alloc | apply pw_below_drewN | apply below_drew1 | refine below_set ?_ GE101.out) | exact HB.out))) : w.heap.size ≤ gb102)); have n5_ := Aside0.mk ((by rw [hg]; exact Nat.ne_of_lt (blk_lt (g := gb101) (o := .cells #[.slice A0_0 l0_0.length c0_0, .slice A0_1 l0_1.length c0_1, .int .i64 a0_2] 34 (0, 0)) (by (with_reducible repeat (first | refine blk_drewN ?_ _ | refine blk_drew ?_ | refine blk_alloc ?_ _)); exact BK101.out)) : gb101 ≠ gb102)); have n6_ := Aside0.mk ((by rw [hg]; exact Nat.ne_of_gt (blk_lt (g := gb101) (o := .cells #[.slice A0_0 l0_0.length c0_0, .slice A0_1 l0_1.length c0_1, .int .i64 a0_2] 34 (0, 0)) (by (with_reducible repeat (first | refine blk_drewN ?_ _ | refine blk_drew ?_ | refine blk_alloc ?_ _)); exact BK101.out)) : gb102 ≠ gb101)); clear BK101; clear HB; have BK101 := n0_; have HB := n1_; have BK102 := n2_; have GW102 := n3_; have GE102 := n4_; have NB101_102 := n5_; have NB102_101 := n6_; clear n0_ n1_ n2_ n3_ n4_ n5_ n6_; clear hb hbox hg; have hnb8 := NB102_101.out; have hnc8 := NB101_102.out; have hcz9_0 : w7.cell? ⟨gb102, 0, none⟩ = some (.int .u8 a1_0) := (blk_cell BK102.out 0).trans rfl; have hcz9_1 : w7.cell? ⟨gb102, 1, none⟩ = some (.int .i64 a1_1) := (blk_cell BK102.out 1).trans rfl; have hcz9_2 : w7.cell? ⟨gb102, 2, none⟩ = some (.int .i64 a1_2) := (blk_cell BK102.out 2).trans rfl; have hfz9_0 := blk_frozen BK102.out 0; have hfz9_1 := blk_frozen BK102.out 1; have hfz9_2 := blk_frozen BK102.out 2) | ((with_reducible refine gate_callee (f := 25) rfl ?_); refine goesL_ (some 10) rfl rfl Tryd.func25 (by kernel_rfl) rfl #[.int .u8 a1_0] rfl (by (try simp only [List.map_toArray, List.map_cons, List.map_nil]); first | done | rfl | (simp only [List.length_drop, List.length_take]; rfl)) ?_; (with_reducible refine (wire_Size.calls k a1_0 t103 _ A4.out).mono ?_); rintro e w' ⟨rfl, ⟨nd, rfl⟩⟩; refine ⟨_, rfl, ?_⟩))
  (try simp only [Act.put, List.setIfInBounds_toArray, List.set_cons_zero, List.set_cons_succ])
  go_cut [11] (fun v11 wc => ∃ (kq : Nat) (x11_4 : Bool), v11 = .bool x11_4 ∧ Aside0 (schema_Fits.j0 kq a2 t103 x11_4 l0_0 l0_1 a0_2 a1_0 a1_1 a1_2 = some r) ∧ Aside0 (kq ≤ k) ∧ Aside0 (wc.heap[gb101]? = some (.cells #[(.slice A0_0 l0_0.length c0_0), (.slice A0_1 l0_1.length c0_1), .int .i64 a0_2] 34 (0, 0))) ∧ Aside0 (wc.heap[gb102]? = some (.cells #[.int .u8 a1_0, .int .i64 a1_1, .int .i64 a1_2] 45 (0, 0))) ∧ Aside0 (Below w.heap.size w wc))
  case first =>
    have H := HC5.out
    clear HC5
    by_cases c10 : t103 = 0
    · rw [if_pos c10] at H
      have c10b0 : (t103 == 0) = true := beq_iff_eq.mpr c10
      have c10b1 : (t103 != 0) = false := bne_eq_false_iff_eq.mpr c10
      clear c10
      (first | rw [c10b0] | (simp only [i64_w, i32_w]; rw [c10b0]) | skip)
      have H' := Aside0.mk H
      clear H
      go_wp2
      go_meet
      case rel => exact ⟨_, (true), (by first | rfl | (simp; done) | (simp [*]; done)), H', ⟨by first | omega | exact Nat.le_refl _⟩, ⟨by (with_reducible repeat (first | refine blk_drewN ?_ _ | refine blk_drew ?_ | refine blk_alloc ?_ _)); exact BK101.out⟩, ⟨by (with_reducible repeat (first | refine blk_drewN ?_ _ | refine blk_drew ?_ | refine blk_alloc ?_ _)); exact BK102.out⟩, ⟨by repeat (first | (with_reducible first | exact HB.out | apply below_alloc | apply pw_below_drewN | apply below_drew1 | refine below_set ?_ GE101.out | refine below_set ?_ GE102.out) | exact HB.out)⟩⟩
    · rw [if_neg c10] at H
      have c10b0 : (t103 == 0) = false := beq_eq_false_iff_ne.mpr c10
      have c10b1 : (t103 != 0) = true := bne_iff_ne.mpr c10
      (first | rw [c10b0] | (simp only [i64_w, i32_w]; rw [c10b0]) | skip)
      have H' := Aside0.mk H
      clear H
      have hnb11 := NB102_101.out
      have hnc11 := NB101_102.out
      have hcz12_0 : w7.cell? ⟨gb102, 0, none⟩ = some (.int .u8 a1_0) := (blk_cell BK102.out 0).trans rfl
      have hcz12_1 : w7.cell? ⟨gb102, 1, none⟩ = some (.int .i64 a1_1) := (blk_cell BK102.out 1).trans rfl
      have hcz12_2 : w7.cell? ⟨gb102, 2, none⟩ = some (.int .i64 a1_2) := (blk_cell BK102.out 2).trans rfl
      have hfz12_0 := blk_frozen BK102.out 0
      have hfz12_1 := blk_frozen BK102.out 1
      have hfz12_2 := blk_frozen BK102.out 2
      go_wp2
      go_meet
      case rel => exact ⟨_, ((a1_2 != 0)), (by first | rfl | (simp; done) | (simp [*]; done)), H', ⟨by first | omega | exact Nat.le_refl _⟩, ⟨by (with_reducible repeat (first | refine blk_drewN ?_ _ | refine blk_drew ?_ | refine blk_alloc ?_ _)); exact BK101.out⟩, ⟨by (with_reducible repeat (first | refine blk_drewN ?_ _ | refine blk_drew ?_ | refine blk_alloc ?_ _)); exact BK102.out⟩, ⟨by repeat (first | (with_reducible first | exact HB.out | apply below_alloc | apply pw_below_drewN | apply below_drew1 | refine below_set ?_ GE101.out | refine below_set ?_ GE102.out) | exact HB.out)⟩⟩
  case rest =>
    clear HC5
    try clear c1
    try clear c2
    try clear p2
    try clear c8
    try clear c10
    try clear c10b0
    try clear c10b1
    try clear c11
    try clear hcz12_0
    try clear hcz12_1
    try clear hcz12_2
    try clear hcz9_0
    try clear hcz9_1
    try clear hcz9_2
    try clear hfz12_0
    try clear hfz12_1
    try clear hfz12_2
    try clear hfz9_0
    try clear hfz9_1
    try clear hfz9_2
    obtain ⟨kq, x11_4, rfl, HA, HJ4, BK101, BK102, HB⟩ := hcut
    cases kq with
    | zero => exact absurd HA.out (by simp [schema_Fits.j0])
    | succ kj4 =>
      have H := HA.out
      clear HA
      simp only [schema_Fits.j0] at H
      by_cases c13 : x11_4 = true
      · subst c13
        have H1 : (some false) = some r := by rw [if_pos rfl] at H; exact H
        clear H
        have H := H1
        clear H1
        obtain rfl := Option.some.inj H
        go_wp2
        go_ret
        exact ⟨by first | rfl | (simp [errW_none, errW_some] <;> rfl) | (simp [*, errW_none, errW_some] <;> rfl), by repeat (first | (with_reducible first | exact HB.out | apply below_alloc | apply pw_below_drewN | apply below_drew1 | refine below_set ?_ GE101.out | refine below_set ?_ GE102.out) | exact HB.out)⟩
      · replace c13 := Bool.eq_false_iff.mpr c13
        subst c13
        have H1 : (if a1_0 = 1 then (some (decide (a2 ≤ 1))) else (if a1_0 = 10 then (if a1_1 ≥ 0 then (if a1_1 < (l0_1.length : Int) then (if 0 ≤ a1_1 then (some (decide (a2 < (IntKind.u64.wrap ((((rd_T58 l0_1 a1_1).f1).length : Int)))))) else (none)) else (some false)) else (some false)) else ((wire_Sign.f a1_0).bind fun t105 => (if t105 = true then ((wire_Signed.f a2 t103).bind fun t106 => (some (t106 == a2))) else (if t103 = 8 then (some true) else (if 0 ≤ (wrap64 (8 * t103)) then (some ((shr .u64 a2 (wrap64 (8 * t103))) == 0)) else (none))))))) = some r := by rw [if_neg (show ¬ (false = true) by decide)] at H; exact H
        clear H
        have H := H1
        clear H1
        by_cases c14 : a1_0 = 1
        · rw [if_pos c14] at H
          have c14b0 : (a1_0 == 1) = true := beq_iff_eq.mpr c14
          have c14b1 : (a1_0 != 1) = false := bne_eq_false_iff_eq.mpr c14
          clear c14
          obtain rfl := Option.some.inj H
          have hnb15 := NB102_101.out
          have hnc15 := NB101_102.out
          have hcz16_0 : wc.cell? ⟨gb102, 0, none⟩ = some (.int .u8 a1_0) := (blk_cell BK102.out 0).trans rfl
          have hcz16_1 : wc.cell? ⟨gb102, 1, none⟩ = some (.int .i64 a1_1) := (blk_cell BK102.out 1).trans rfl
          have hcz16_2 : wc.cell? ⟨gb102, 2, none⟩ = some (.int .i64 a1_2) := (blk_cell BK102.out 2).trans rfl
          have hfz16_0 := blk_frozen BK102.out 0
          have hfz16_1 := blk_frozen BK102.out 1
          have hfz16_2 := blk_frozen BK102.out 2
          go_wp2
          go_ret
          exact ⟨by first | rfl | (simp [errW_none, errW_some] <;> rfl) | (simp [*, errW_none, errW_some] <;> rfl), by repeat (first | (with_reducible first | exact HB.out | apply below_alloc | apply pw_below_drewN | apply below_drew1 | refine below_set ?_ GE101.out | refine below_set ?_ GE102.out) | exact HB.out)⟩
        · rw [if_neg c14] at H
          have c14b0 : (a1_0 == 1) = false := beq_eq_false_iff_ne.mpr c14
          have c14b1 : (a1_0 != 1) = true := bne_iff_ne.mpr c14
          by_cases c17 : a1_0 = 10
          · rw [if_pos c17] at H
            have c17b0 : (a1_0 == 10) = true := beq_iff_eq.mpr c17
            have c17b1 : (a1_0 != 10) = false := bne_eq_false_iff_eq.mpr c17
            clear c17
            by_cases c18 : a1_1 ≥ 0
            · rw [if_pos c18] at H
              have c18b0 : decide (0 ≤ a1_1) = true := decide_eq_true c18
              clear c18
              by_cases c19 : a1_1 < (l0_1.length : Int)
              · rw [if_pos c19] at H
                have c19b0 : decide (a1_1 < (l0_1.length : Int)) = true := decide_eq_true c19
                clear c19
                by_cases c20 : 0 ≤ a1_1
                · rw [if_pos c20] at H
                  have c20b0 : decide (0 ≤ a1_1) = true := decide_eq_true c20
                  clear c20
                  obtain rfl := Option.some.inj H
                  have hnb21 := NB102_101.out
                  have hnc21 := NB101_102.out
                  have hcz22_0 : wc.cell? ⟨gb102, 0, none⟩ = some (.int .u8 a1_0) := (blk_cell BK102.out 0).trans rfl
                  have hcz22_1 : wc.cell? ⟨gb102, 1, none⟩ = some (.int .i64 a1_1) := (blk_cell BK102.out 1).trans rfl
                  have hcz22_2 : wc.cell? ⟨gb102, 2, none⟩ = some (.int .i64 a1_2) := (blk_cell BK102.out 2).trans rfl
                  have hfz22_0 := blk_frozen BK102.out 0
                  have hfz22_1 := blk_frozen BK102.out 1
                  have hfz22_2 := blk_frozen BK102.out 2
                  have hcz23_0 : wc.cell? ⟨gb101, 0, none⟩ = some (.slice A0_0 l0_0.length c0_0) := (blk_cell BK101.out 0).trans rfl
                  have hcz23_1 : wc.cell? ⟨gb101, 1, none⟩ = some (.slice A0_1 l0_1.length c0_1) := (blk_cell BK101.out 1).trans rfl
                  have hcz23_2 : wc.cell? ⟨gb101, 2, none⟩ = some (.int .i64 a0_2) := (blk_cell BK101.out 2).trans rfl
                  have hfz23_0 := blk_frozen BK101.out 0
                  have hfz23_1 := blk_frozen BK101.out 1
                  have hfz23_2 := blk_frozen BK101.out 2
                  have p104 : 0 ≤ (a1_1 : Int) := of_decide_eq_true (by first | (with_reducible assumption) | assumption)
                  have q104 : a1_1 < (l0_1.length : Int) := of_decide_eq_true (by first | (with_reducible assumption) | assumption)
                  obtain ⟨ad104, A104_1, c104_1, e104, hx104_0, hx104_1, hl104_1, hi104_1⟩ := at_T58 HR0_1.out a1_1 p104 q104
                  cases e104
                  replace hx104_0 := (HB.out.cell (World.block_lt_of_cell? w _ hx104_0)).trans hx104_0
                  replace hx104_1 := (HB.out.cell (World.block_lt_of_cell? w _ hx104_1)).trans hx104_1
                  have HR104_1 := Aside0.mk hi104_1
                  have HC104_1 := Aside0.mk hl104_1
                  clear hi104_1 hl104_1
                  replace p104 := eq_true p104
                  replace q104 := eq_true q104
                  go_wp2
                  go_ret
                  exact ⟨by first | rfl | (simp [errW_none, errW_some] <;> rfl) | (simp [*, errW_none, errW_some] <;> rfl), by repeat (first | (with_reducible first | exact HB.out | apply below_alloc | apply pw_below_drewN | apply below_drew1 | refine below_set ?_ GE101.out | refine below_set ?_ GE102.out) | exact HB.out)⟩
                · rw [if_neg c20] at H
                  exact absurd H (by simp)
              · rw [if_neg c19] at H
                have c19b0 : decide (a1_1 < (l0_1.length : Int)) = false := decide_eq_false c19
                clear c19
                obtain rfl := Option.some.inj H
                have hnb24 := NB102_101.out
                have hnc24 := NB101_102.out
                have hcz25_0 : wc.cell? ⟨gb102, 0, none⟩ = some (.int .u8 a1_0) := (blk_cell BK102.out 0).trans rfl
                have hcz25_1 : wc.cell? ⟨gb102, 1, none⟩ = some (.int .i64 a1_1) := (blk_cell BK102.out 1).trans rfl
                have hcz25_2 : wc.cell? ⟨gb102, 2, none⟩ = some (.int .i64 a1_2) := (blk_cell BK102.out 2).trans rfl
                have hfz25_0 := blk_frozen BK102.out 0
                have hfz25_1 := blk_frozen BK102.out 1
                have hfz25_2 := blk_frozen BK102.out 2
                have hcz26_0 : wc.cell? ⟨gb101, 0, none⟩ = some (.slice A0_0 l0_0.length c0_0) := (blk_cell BK101.out 0).trans rfl
                have hcz26_1 : wc.cell? ⟨gb101, 1, none⟩ = some (.slice A0_1 l0_1.length c0_1) := (blk_cell BK101.out 1).trans rfl
                have hcz26_2 : wc.cell? ⟨gb101, 2, none⟩ = some (.int .i64 a0_2) := (blk_cell BK101.out 2).trans rfl
                have hfz26_0 := blk_frozen BK101.out 0
                have hfz26_1 := blk_frozen BK101.out 1
                have hfz26_2 := blk_frozen BK101.out 2
                go_wp2
                go_ret
                exact ⟨by first | rfl | (simp [errW_none, errW_some] <;> rfl) | (simp [*, errW_none, errW_some] <;> rfl), by repeat (first | (with_reducible first | exact HB.out | apply below_alloc | apply pw_below_drewN | apply below_drew1 | refine below_set ?_ GE101.out | refine below_set ?_ GE102.out) | exact HB.out)⟩
            · rw [if_neg c18] at H
              have c18b0 : decide (0 ≤ a1_1) = false := decide_eq_false c18
              clear c18
              obtain rfl := Option.some.inj H
              have hnb27 := NB102_101.out
              have hnc27 := NB101_102.out
              have hcz28_0 : wc.cell? ⟨gb102, 0, none⟩ = some (.int .u8 a1_0) := (blk_cell BK102.out 0).trans rfl
              have hcz28_1 : wc.cell? ⟨gb102, 1, none⟩ = some (.int .i64 a1_1) := (blk_cell BK102.out 1).trans rfl
              have hcz28_2 : wc.cell? ⟨gb102, 2, none⟩ = some (.int .i64 a1_2) := (blk_cell BK102.out 2).trans rfl
              have hfz28_0 := blk_frozen BK102.out 0
              have hfz28_1 := blk_frozen BK102.out 1
              have hfz28_2 := blk_frozen BK102.out 2
              go_wp2
              go_ret
              exact ⟨by first | rfl | (simp [errW_none, errW_some] <;> rfl) | (simp [*, errW_none, errW_some] <;> rfl), by repeat (first | (with_reducible first | exact HB.out | apply below_alloc | apply pw_below_drewN | apply below_drew1 | refine below_set ?_ GE101.out | refine below_set ?_ GE102.out) | exact HB.out)⟩
          · rw [if_neg c17] at H
            have c17b0 : (a1_0 == 10) = false := beq_eq_false_iff_ne.mpr c17
            have c17b1 : (a1_0 != 10) = true := bne_iff_ne.mpr c17
            replace H := Option.bind_eq_some_iff.mp H
            obtain ⟨t105, A290, H⟩ := H
            replace H : (if t105 = true then ((wire_Signed.f a2 t103).bind fun t106 => (some (t106 == a2))) else (if t103 = 8 then (some true) else (if 0 ≤ (wrap64 (8 * t103)) then (some ((shr .u64 a2 (wrap64 (8 * t103))) == 0)) else (none)))) = some r := H
            have A29 := Aside0.mk A290
            clear A290
            by_cases c30 : t105 = true
            · subst c30
              have H1 : ((wire_Signed.f a2 t103).bind fun t106 => (some (t106 == a2))) = some r := by rw [if_pos rfl] at H; exact H
              clear H
              have H := H1
              clear H1
              replace H := Option.bind_eq_some_iff.mp H
              obtain ⟨t106, A310, H⟩ := H
              replace H : (some (t106 == a2)) = some r := H
              have A31 := Aside0.mk A310
              clear A310
              obtain rfl := Option.some.inj H
              have hnb32 := NB102_101.out
              have hnc32 := NB101_102.out
              have hcz33_0 : wc.cell? ⟨gb102, 0, none⟩ = some (.int .u8 a1_0) := (blk_cell BK102.out 0).trans rfl
              have hcz33_1 : wc.cell? ⟨gb102, 1, none⟩ = some (.int .i64 a1_1) := (blk_cell BK102.out 1).trans rfl
              have hcz33_2 : wc.cell? ⟨gb102, 2, none⟩ = some (.int .i64 a1_2) := (blk_cell BK102.out 2).trans rfl
              have hfz33_0 := blk_frozen BK102.out 0
              have hfz33_1 := blk_frozen BK102.out 1
              have hfz33_2 := blk_frozen BK102.out 2
              go_wp2_with (first | ((with_reducible refine gate_callee (f := 33) rfl ?_); refine goesL_ (some 56) rfl rfl Tryd.func33 (by kernel_rfl) rfl #[.int .u8 a1_0] rfl (by (try simp only [List.map_toArray, List.map_cons, List.map_nil]); first | done | rfl | (simp only [List.length_drop, List.length_take]; rfl)) ?_; (with_reducible refine (wire_Sign.calls a1_0 true _ A29.out).mono ?_); rintro e w' ⟨rfl, ⟨nd, rfl⟩⟩; refine ⟨_, rfl, ?_⟩) | ((with_reducible refine gate_callee (f := 34) rfl ?_); refine goesL_ (some 59) rfl rfl Tryd.func34 (by kernel_rfl) rfl #[.int .u64 a2, .int .i64 t103] rfl (by (try simp only [List.map_toArray, List.map_cons, List.map_nil]); first | done | rfl | (simp only [List.length_drop, List.length_take]; rfl)) ?_; (with_reducible refine (wire_Signed.calls a2 t103 t106 _ A31.out).mono ?_); rintro e w' ⟨rfl, ⟨nd, rfl⟩⟩; refine ⟨_, rfl, ?_⟩))
              go_ret
              exact ⟨by first | rfl | (simp [errW_none, errW_some] <;> rfl) | (simp [*, errW_none, errW_some] <;> rfl), by repeat (first | (with_reducible first | exact HB.out | apply below_alloc | apply pw_below_drewN | apply below_drew1 | refine below_set ?_ GE101.out | refine below_set ?_ GE102.out) | exact HB.out)⟩
            · replace c30 := Bool.eq_false_iff.mpr c30
              subst c30
              have H1 : (if t103 = 8 then (some true) else (if 0 ≤ (wrap64 (8 * t103)) then (some ((shr .u64 a2 (wrap64 (8 * t103))) == 0)) else (none))) = some r := by rw [if_neg (show ¬ (false = true) by decide)] at H; exact H
              clear H
              have H := H1
              clear H1
              by_cases c34 : t103 = 8
              · rw [if_pos c34] at H
                have c34b0 : (t103 == 8) = true := beq_iff_eq.mpr c34
                have c34b1 : (t103 != 8) = false := bne_eq_false_iff_eq.mpr c34
                clear c34
                obtain rfl := Option.some.inj H
                have hnb35 := NB102_101.out
                have hnc35 := NB101_102.out
                have hcz36_0 : wc.cell? ⟨gb102, 0, none⟩ = some (.int .u8 a1_0) := (blk_cell BK102.out 0).trans rfl
                have hcz36_1 : wc.cell? ⟨gb102, 1, none⟩ = some (.int .i64 a1_1) := (blk_cell BK102.out 1).trans rfl
                have hcz36_2 : wc.cell? ⟨gb102, 2, none⟩ = some (.int .i64 a1_2) := (blk_cell BK102.out 2).trans rfl
                have hfz36_0 := blk_frozen BK102.out 0
                have hfz36_1 := blk_frozen BK102.out 1
                have hfz36_2 := blk_frozen BK102.out 2
                go_wp2_with (first | ((with_reducible refine gate_callee (f := 33) rfl ?_); refine goesL_ (some 56) rfl rfl Tryd.func33 (by kernel_rfl) rfl #[.int .u8 a1_0] rfl (by (try simp only [List.map_toArray, List.map_cons, List.map_nil]); first | done | rfl | (simp only [List.length_drop, List.length_take]; rfl)) ?_; (with_reducible refine (wire_Sign.calls a1_0 false _ A29.out).mono ?_); rintro e w' ⟨rfl, ⟨nd, rfl⟩⟩; refine ⟨_, rfl, ?_⟩))
                go_ret
                exact ⟨by first | rfl | (simp [errW_none, errW_some] <;> rfl) | (simp [*, errW_none, errW_some] <;> rfl), by repeat (first | (with_reducible first | exact HB.out | apply below_alloc | apply pw_below_drewN | apply below_drew1 | refine below_set ?_ GE101.out | refine below_set ?_ GE102.out) | exact HB.out)⟩
              · rw [if_neg c34] at H
                have c34b0 : (t103 == 8) = false := beq_eq_false_iff_ne.mpr c34
                have c34b1 : (t103 != 8) = true := bne_iff_ne.mpr c34
                obtain ⟨ji37, hji37⟩ : ∃ j_ : Int, (wrap64 (8 * t103)) = j_ := ⟨_, rfl⟩
                replace H : (if 0 ≤ (ji37) then (some ((shr .u64 a2 (ji37)) == 0)) else (none)) = some r := by first | (rw [hji37] at H; exact H) | (simp only [hji37] at H ⊢; exact H)
                (try rw [hji37] at A29)
                have hji37w : (IntKind.i64.wrap (8 * t103)) = ji37 := (i64_w _).trans hji37
                by_cases c38 : 0 ≤ (ji37)
                · rw [if_pos c38] at H
                  have c38b0 := eq_true c38
                  have c38b1 : decide (0 ≤ (ji37)) = true := decide_eq_true c38
                  clear c38
                  obtain ⟨ji39, hji39⟩ : ∃ j_ : Int, (shr .u64 a2 (ji37)) = j_ := ⟨_, rfl⟩
                  replace H : (some ((ji39) == 0)) = some r := by first | (rw [hji39] at H; exact H) | (simp only [hji39] at H ⊢; exact H)
                  (try rw [hji39] at A29)
                  have hji39_ : (a2 / 2 ^ min (ji37).toNat 64) = ji39 := hji39
                  have hji39z : (ji37) ≤ 64 → (a2 / 2 ^ (ji37).toNat) = ji39 := shr_small hji39
                  obtain rfl := Option.some.inj H
                  have hnb40 := NB102_101.out
                  have hnc40 := NB101_102.out
                  have hcz41_0 : wc.cell? ⟨gb102, 0, none⟩ = some (.int .u8 a1_0) := (blk_cell BK102.out 0).trans rfl
                  have hcz41_1 : wc.cell? ⟨gb102, 1, none⟩ = some (.int .i64 a1_1) := (blk_cell BK102.out 1).trans rfl
                  have hcz41_2 : wc.cell? ⟨gb102, 2, none⟩ = some (.int .i64 a1_2) := (blk_cell BK102.out 2).trans rfl
                  have hfz41_0 := blk_frozen BK102.out 0
                  have hfz41_1 := blk_frozen BK102.out 1
                  have hfz41_2 := blk_frozen BK102.out 2
                  go_wp2_with (first | ((with_reducible refine gate_callee (f := 33) rfl ?_); refine goesL_ (some 56) rfl rfl Tryd.func33 (by kernel_rfl) rfl #[.int .u8 a1_0] rfl (by (try simp only [List.map_toArray, List.map_cons, List.map_nil]); first | done | rfl | (simp only [List.length_drop, List.length_take]; rfl)) ?_; (with_reducible refine (wire_Sign.calls a1_0 false _ A29.out).mono ?_); rintro e w' ⟨rfl, ⟨nd, rfl⟩⟩; refine ⟨_, rfl, ?_⟩))
                  go_ret
                  exact ⟨by first | rfl | (simp [errW_none, errW_some] <;> rfl) | (simp only [← hji37, ← hji39]; first | rfl | (simp [errW_none, errW_some] <;> rfl)) | (simp [*, errW_none, errW_some] <;> rfl), by repeat (first | (with_reducible first | exact HB.out | apply below_alloc | apply pw_below_drewN | apply below_drew1 | refine below_set ?_ GE101.out | refine below_set ?_ GE102.out) | exact HB.out)⟩
                · rw [if_neg c38] at H
                  exact absurd H (by simp)

end Go.Proofs.YthilhndejhnlnaaDoor.QAll
end
