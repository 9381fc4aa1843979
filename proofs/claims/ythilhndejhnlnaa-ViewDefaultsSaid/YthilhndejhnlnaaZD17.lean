/- Texts joined: QAllx4. -/
import Derived.Test.YthilhndejhnlnaaZD13
import Derived.Test.YthilhndejhnlnaaZD15
section
-- written by a program of this session (turned from a print)
namespace Go.Proofs.Ythilhndejhnlnaa.QAll
open Go.RowKit Go.Proofs.YthilhndejhnlnaaW.PrintWords Go.Proofs.YthilhndejhnlnaaW.PrintLast Go.Proofs.YthilhndejhnlnaaW.PrintMore
attribute [local go_sem] max2_int min2_int max_two min_two max_three min_three max_four min_four   -- for this text's walks alone
set_option linter.unusedVariables false
set_option linter.unusedSimpArgs false

/-! ### transomref01_Signed: function 31 -/
def transomref01_Signed.j0 : Nat → Int → Int → Bool → Option (Int)
  | 0, _, _, _ => none
  | k + 1, x0, x1, x15 => if x15 = true then (some x0) else (if 0 ≤ (wrap64 (8 * x1)) then (if 0 ≤ (wrap64 ((wrap64 (8 * x1)) - 1)) then (if (shr .u64 (Go.bits .and .u64 x0 (IntKind.u64.wrap ((shl .u64 1 (wrap64 (8 * x1))) - 1))) (wrap64 ((wrap64 (8 * x1)) - 1))) = 1 then (some (Go.bits .or .u64 (Go.bits .and .u64 x0 (IntKind.u64.wrap ((shl .u64 1 (wrap64 (8 * x1))) - 1))) (shl .u64 18446744073709551615 (wrap64 (8 * x1))))) else (some (Go.bits .and .u64 x0 (IntKind.u64.wrap ((shl .u64 1 (wrap64 (8 * x1))) - 1))))) else (none)) else (none))
def transomref01_Signed.f (k : Nat) (a0 : Int) (a1 : Int) : Option (Int) := if a1 = 1 then (transomref01_Signed.j0 k a0 a1 false) else (if a1 = 2 then (transomref01_Signed.j0 k a0 a1 false) else (transomref01_Signed.j0 k a0 a1 (a1 != 4)))
theorem transomref01_Signed.mono_l : ∀ k, (∀ y0 y1 y2, LeO (transomref01_Signed.j0 k y0 y1 y2) (transomref01_Signed.j0 (k + 1) y0 y1 y2))
  | 0 => fun _ _ _ r h => by simp [transomref01_Signed.j0] at h
  | k + 1 => by
    have ih0 := transomref01_Signed.mono_l k
    · intro y0 y1 y2
      unfold transomref01_Signed.j0
      repeat' first
      | (with_reducible exact ih0 _ _ _)
      | (with_reducible exact LeO.refl _)
      | (with_reducible exact LeO.none _)
      | (with_reducible refine LeO.ite ?_ ?_)
      | (with_reducible refine LeO.bind ?_ (fun _ => ?_))
      | exact ih0 _ _ _
      | exact LeO.none _
      | refine LeO.ite ?_ ?_
      | refine LeO.bind ?_ (fun _ => ?_)
theorem transomref01_Signed.mono : ∀ a0 a1 k, LeO (transomref01_Signed.f k a0 a1) (transomref01_Signed.f (k + 1) a0 a1) := by
  intro a0 a1 k
  have ih0 := transomref01_Signed.mono_l k
  unfold transomref01_Signed.f
  repeat' first
      | (with_reducible exact ih0 _ _ _)
      | (with_reducible exact LeO.refl _)
      | (with_reducible exact LeO.none _)
      | (with_reducible refine LeO.ite ?_ ?_)
      | (with_reducible refine LeO.bind ?_ (fun _ => ?_))
      | exact ih0 _ _ _
      | exact LeO.none _
      | refine LeO.ite ?_ ?_
      | refine LeO.bind ?_ (fun _ => ?_)
set_option maxHeartbeats 8000000 in
set_option maxRecDepth 100000 in
theorem transomref01_Signed.calls (k : Nat) (a0 : Int) (a1 : Int) (r : Int) (w : World) (h : transomref01_Signed.f k a0 a1 = some r) :
    Calls Try.prog 31 #[.int .u64 a0, .int .i64 a1] w fun e w' => e = .returned (.int .u64 r) ∧ Drawn0 w w' := by
  have H : (if a1 = 1 then (transomref01_Signed.j0 k a0 a1 false) else (if a1 = 2 then (transomref01_Signed.j0 k a0 a1 false) else (transomref01_Signed.j0 k a0 a1 (a1 != 4)))) = some r := h
  clear h
  have HC3 := Aside0.mk H
  clear H
  go_enter Try.func31, Try.ntmps31
  go_upto_region 1 with (fail)
  go_cut [15] (fun v15 wc => ∃ (kq : Nat) (x15_2 : Bool), v15 = .bool x15_2 ∧ Aside0 (transomref01_Signed.j0 kq a0 a1 x15_2 = some r) ∧ Aside0 (kq ≤ k) ∧ Drawn0 w wc)
  case first =>
    have H := HC3.out
    clear HC3
    by_cases c4 : a1 = 1
    · rw [if_pos c4] at H
      have c4b0 : (a1 == 1) = true := beq_iff_eq.mpr c4
      have c4b1 : (a1 != 1) = false := bne_eq_false_iff_eq.mpr c4
      clear c4
      (first | rw [c4b0] | (simp only [i64_w, i32_w]; rw [c4b0]) | skip)
      have H' := Aside0.mk H
      clear H
      go_wp2
      go_meet
      case rel => exact ⟨_, (false), (by first | rfl | (simp; done) | (simp [*]; done)), H', ⟨by first | omega | exact Nat.le_refl _⟩, by repeat (first | exact Drawn0.refl _ | apply Drawn0.step)⟩
    · rw [if_neg c4] at H
      have c4b0 : (a1 == 1) = false := beq_eq_false_iff_ne.mpr c4
      have c4b1 : (a1 != 1) = true := bne_iff_ne.mpr c4
      (first | rw [c4b0] | (simp only [i64_w, i32_w]; rw [c4b0]) | skip)
      by_cases c5 : a1 = 2
      · rw [if_pos c5] at H
        have c5b0 : (a1 == 2) = true := beq_iff_eq.mpr c5
        have c5b1 : (a1 != 2) = false := bne_eq_false_iff_eq.mpr c5
        clear c5
        have H' := Aside0.mk H
        clear H
        go_wp2
        go_meet
        case rel => exact ⟨_, (false), (by first | rfl | (simp; done) | (simp [*]; done)), H', ⟨by first | omega | exact Nat.le_refl _⟩, by repeat (first | exact Drawn0.refl _ | apply Drawn0.step)⟩
      · rw [if_neg c5] at H
        have c5b0 : (a1 == 2) = false := beq_eq_false_iff_ne.mpr c5
        have c5b1 : (a1 != 2) = true := bne_iff_ne.mpr c5
        have H' := Aside0.mk H
        clear H
        go_wp2
        go_meet
        case rel => exact ⟨_, ((a1 != 4)), (by first | rfl | (simp; done) | (simp [*]; done)), H', ⟨by first | omega | exact Nat.le_refl _⟩, by repeat (first | exact Drawn0.refl _ | apply Drawn0.step)⟩
  case rest =>
    clear HC3
    try clear p2
    try clear c3
    try clear c4
    try clear c4b0
    try clear c4b1
    try clear c5
    try clear c5b0
    try clear c5b1
    obtain ⟨kq, x15_2, rfl, HA, HJ2, ⟨mc2, rfl⟩⟩ := hcut
    cases kq with
    | zero => exact absurd HA.out (by simp [transomref01_Signed.j0])
    | succ kj2 =>
      have H := HA.out
      clear HA
      simp only [transomref01_Signed.j0] at H
      by_cases c6 : x15_2 = true
      · subst c6
        have H1 : (some a0) = some r := by rw [if_pos rfl] at H; exact H
        clear H
        have H := H1
        clear H1
        obtain rfl := Option.some.inj H
        go_wp2
        go_ret
        exact ⟨by first | rfl | (simp; done) | (simp [*]; done), by repeat (first | exact Drawn0.refl _ | apply Drawn0.step)⟩
      · replace c6 := Bool.eq_false_iff.mpr c6
        subst c6
        have H1 : (if 0 ≤ (wrap64 (8 * a1)) then (if 0 ≤ (wrap64 ((wrap64 (8 * a1)) - 1)) then (if (shr .u64 (Go.bits .and .u64 a0 (IntKind.u64.wrap ((shl .u64 1 (wrap64 (8 * a1))) - 1))) (wrap64 ((wrap64 (8 * a1)) - 1))) = 1 then (some (Go.bits .or .u64 (Go.bits .and .u64 a0 (IntKind.u64.wrap ((shl .u64 1 (wrap64 (8 * a1))) - 1))) (shl .u64 18446744073709551615 (wrap64 (8 * a1))))) else (some (Go.bits .and .u64 a0 (IntKind.u64.wrap ((shl .u64 1 (wrap64 (8 * a1))) - 1))))) else (none)) else (none)) = some r := by rw [if_neg (show ¬ (false = true) by decide)] at H; exact H
        clear H
        have H := H1
        clear H1
        obtain ⟨ji7, hji7⟩ : ∃ j_ : Int, (wrap64 (8 * a1)) = j_ := ⟨_, rfl⟩
        replace H : (if 0 ≤ (ji7) then (if 0 ≤ (wrap64 ((ji7) - 1)) then (if (shr .u64 (Go.bits .and .u64 a0 (IntKind.u64.wrap ((shl .u64 1 (ji7)) - 1))) (wrap64 ((ji7) - 1))) = 1 then (some (Go.bits .or .u64 (Go.bits .and .u64 a0 (IntKind.u64.wrap ((shl .u64 1 (ji7)) - 1))) (shl .u64 18446744073709551615 (ji7)))) else (some (Go.bits .and .u64 a0 (IntKind.u64.wrap ((shl .u64 1 (ji7)) - 1))))) else (none)) else (none)) = some r := by first | (rw [hji7] at H; exact H) | (simp only [hji7] at H ⊢; exact H)
        have hji7w : (IntKind.i64.wrap (8 * a1)) = ji7 := (i64_w _).trans hji7
        by_cases c8 : 0 ≤ (ji7)
        · rw [if_pos c8] at H
          have c8b0 := eq_true c8
          have c8b1 : decide (0 ≤ (ji7)) = true := decide_eq_true c8
          clear c8
          obtain ⟨ji9, hji9⟩ : ∃ j_ : Int, (shl .u64 1 (ji7)) = j_ := ⟨_, rfl⟩
          replace H : (if 0 ≤ (wrap64 ((ji7) - 1)) then (if (shr .u64 (Go.bits .and .u64 a0 (IntKind.u64.wrap ((ji9) - 1))) (wrap64 ((ji7) - 1))) = 1 then (some (Go.bits .or .u64 (Go.bits .and .u64 a0 (IntKind.u64.wrap ((ji9) - 1))) (shl .u64 18446744073709551615 (ji7)))) else (some (Go.bits .and .u64 a0 (IntKind.u64.wrap ((ji9) - 1))))) else (none)) = some r := by first | (rw [hji9] at H; exact H) | (simp only [hji9] at H ⊢; exact H)
          have hji9_ : (IntKind.u64.wrap (1 * 2 ^ min (ji7).toNat 64)) = ji9 := hji9
          have hji9z : (ji7) ≤ 64 → (IntKind.u64.wrap (1 * 2 ^ (ji7).toNat)) = ji9 := shl_small hji9
          have hji9u : (IntKind.u64.wrap (2 ^ min (ji7).toNat 64)) = ji9 := by have h_ := hji9_; rw [Int.one_mul] at h_; exact h_
          have hji9v : (ji7) ≤ 64 → (IntKind.u64.wrap (2 ^ (ji7).toNat)) = ji9 := fun hle_ => by have h_ := hji9z hle_; rw [Int.one_mul] at h_; exact h_
          obtain ⟨ji10, hji10⟩ : ∃ j_ : Int, (wrap64 ((ji7) - 1)) = j_ := ⟨_, rfl⟩
          replace H : (if 0 ≤ (ji10) then (if (shr .u64 (Go.bits .and .u64 a0 (IntKind.u64.wrap ((ji9) - 1))) (ji10)) = 1 then (some (Go.bits .or .u64 (Go.bits .and .u64 a0 (IntKind.u64.wrap ((ji9) - 1))) (shl .u64 18446744073709551615 (ji7)))) else (some (Go.bits .and .u64 a0 (IntKind.u64.wrap ((ji9) - 1))))) else (none)) = some r := by first | (rw [hji10] at H; exact H) | (simp only [hji10] at H ⊢; exact H)
          have hji10w : (IntKind.i64.wrap ((ji7) - 1)) = ji10 := (i64_w _).trans hji10
          by_cases c11 : 0 ≤ (ji10)
          · rw [if_pos c11] at H
            have c11b0 := eq_true c11
            have c11b1 : decide (0 ≤ (ji10)) = true := decide_eq_true c11
            clear c11
            obtain ⟨ji12, hji12⟩ : ∃ j_ : Int, (shr .u64 (Go.bits .and .u64 a0 (IntKind.u64.wrap ((ji9) - 1))) (ji10)) = j_ := ⟨_, rfl⟩
            replace H : (if (ji12) = 1 then (some (Go.bits .or .u64 (Go.bits .and .u64 a0 (IntKind.u64.wrap ((ji9) - 1))) (shl .u64 18446744073709551615 (ji7)))) else (some (Go.bits .and .u64 a0 (IntKind.u64.wrap ((ji9) - 1))))) = some r := by first | (rw [hji12] at H; exact H) | (simp only [hji12] at H ⊢; exact H)
            have hji12_ : ((Go.bits .and .u64 a0 (IntKind.u64.wrap ((ji9) - 1))) / 2 ^ min (ji10).toNat 64) = ji12 := hji12
            have hji12z : (ji10) ≤ 64 → ((Go.bits .and .u64 a0 (IntKind.u64.wrap ((ji9) - 1))) / 2 ^ (ji10).toNat) = ji12 := shr_small hji12
            by_cases c13 : (ji12) = 1
            · rw [if_pos c13] at H
              have c13b0 : ((ji12) == 1) = true := beq_iff_eq.mpr c13
              have c13b1 : ((ji12) != 1) = false := bne_eq_false_iff_eq.mpr c13
              clear c13
              have c14b0 := eq_true (of_decide_eq_true (by first | (with_reducible assumption) | assumption) : 0 ≤ (ji7))
              obtain ⟨ji15, hji15⟩ : ∃ j_ : Int, (shl .u64 18446744073709551615 (ji7)) = j_ := ⟨_, rfl⟩
              replace H : (some (Go.bits .or .u64 (Go.bits .and .u64 a0 (IntKind.u64.wrap ((ji9) - 1))) (ji15))) = some r := by first | (rw [hji15] at H; exact H) | (simp only [hji15] at H ⊢; exact H)
              have hji15_ : (IntKind.u64.wrap (18446744073709551615 * 2 ^ min (ji7).toNat 64)) = ji15 := hji15
              have hji15z : (ji7) ≤ 64 → (IntKind.u64.wrap (18446744073709551615 * 2 ^ (ji7).toNat)) = ji15 := shl_small hji15
              obtain rfl := Option.some.inj H
              go_wp2
              go_ret
              exact ⟨by first | rfl | (simp; done) | (simp only [← hji7, ← hji9, ← hji10, ← hji12, ← hji15] <;> (first | rfl | simp)) | (simp [*]; done), by repeat (first | exact Drawn0.refl _ | apply Drawn0.step)⟩
            · rw [if_neg c13] at H
              have c13b0 : ((ji12) == 1) = false := beq_eq_false_iff_ne.mpr c13
              have c13b1 : ((ji12) != 1) = true := bne_iff_ne.mpr c13
              obtain rfl := Option.some.inj H
              go_wp2
              go_ret
              exact ⟨by first | rfl | (simp; done) | (simp only [← hji7, ← hji9, ← hji10, ← hji12] <;> (first | rfl | simp)) | (simp [*]; done), by repeat (first | exact Drawn0.refl _ | apply Drawn0.step)⟩
          · rw [if_neg c11] at H
            exact absurd H (by simp)
        · rw [if_neg c8] at H
          exact absurd H (by simp)

/-! ### transomhand05_Number: function 20 -/
def transomhand05_Number.j0 : Nat → Int → Int → Int → Int → Int → Option (Int)
  | 0, _, _, _, _, _ => none
  | k + 1, x2, x7, x155000, x155001, x155002 => (transomref01_Sign.f (wrap64 (x155000))).bind fun t157 => (if t157 = true then ((transomref01_Signed.f k x2 x7).bind fun t158 => (some t158)) else (some x2))
def transomhand05_Number.f (k : Nat) (l0_0 : List (S31)) (l0_1 : List (S61)) (a0_2 : Int) (a1_0 : Int) (a1_1 : Int) (a1_2 : Int) (a2 : Int) : Option (Int) := (transomref01_Size.f k (wrap64 (a1_0))).bind fun t155 => (if a1_0 = 1 then (some (Int.tmod a2 2)) else (if a1_0 = 10 then (if 0 ≤ a1_1 then (if a1_1 < (l0_1.length : Int) then (if (IntKind.u64.wrap ((((rd_T61 l0_1 a1_1).f1).length : Int))) = 0 then (none) else (some (Int.tmod a2 (IntKind.u64.wrap ((((rd_T61 l0_1 a1_1).f1).length : Int)))))) else (none)) else (none)) else (if t155 < 8 then (if 0 ≤ (wrap64 (8 * t155)) then (if (shl .u64 1 (wrap64 (8 * t155))) = 0 then (none) else (transomhand05_Number.j0 k (Int.tmod a2 (shl .u64 1 (wrap64 (8 * t155)))) t155 a1_0 a1_1 a1_2)) else (none)) else (transomhand05_Number.j0 k a2 t155 a1_0 a1_1 a1_2))))
theorem transomhand05_Number.mono_l : ∀ k, (∀ y0 y1 y2 y3 y4, LeO (transomhand05_Number.j0 k y0 y1 y2 y3 y4) (transomhand05_Number.j0 (k + 1) y0 y1 y2 y3 y4))
  | 0 => fun _ _ _ _ _ r h => by simp [transomhand05_Number.j0] at h
  | k + 1 => by
    have ih0 := transomhand05_Number.mono_l k
    · intro y0 y1 y2 y3 y4
      unfold transomhand05_Number.j0
      repeat' first
      | (with_reducible exact ih0 _ _ _ _ _)
      | (with_reducible exact transomref01_Signed.mono _ _ _)
      | (with_reducible exact transomref01_Size.mono _ _)
      | (with_reducible exact LeO.refl _)
      | (with_reducible exact LeO.none _)
      | (with_reducible refine LeO.ite ?_ ?_)
      | (with_reducible refine LeO.bind ?_ (fun _ => ?_))
      | exact ih0 _ _ _ _ _
      | exact transomref01_Signed.mono _ _ _
      | exact transomref01_Size.mono _ _
      | exact LeO.none _
      | refine LeO.ite ?_ ?_
      | refine LeO.bind ?_ (fun _ => ?_)
theorem transomhand05_Number.mono : ∀ a0 a1 a2 a3 a4 a5 a6 k, LeO (transomhand05_Number.f k a0 a1 a2 a3 a4 a5 a6) (transomhand05_Number.f (k + 1) a0 a1 a2 a3 a4 a5 a6) := by
  intro a0 a1 a2 a3 a4 a5 a6 k
  have ih0 := transomhand05_Number.mono_l k
  unfold transomhand05_Number.f
  repeat' first
      | (with_reducible exact ih0 _ _ _ _ _)
      | (with_reducible exact transomref01_Signed.mono _ _ _)
      | (with_reducible exact transomref01_Size.mono _ _)
      | (with_reducible exact LeO.refl _)
      | (with_reducible exact LeO.none _)
      | (with_reducible refine LeO.ite ?_ ?_)
      | (with_reducible refine LeO.bind ?_ (fun _ => ?_))
      | exact ih0 _ _ _ _ _
      | exact transomref01_Signed.mono _ _ _
      | exact transomref01_Size.mono _ _
      | exact LeO.none _
      | refine LeO.ite ?_ ?_
      | refine LeO.bind ?_ (fun _ => ?_)
set_option maxHeartbeats 8000000 in
set_option maxRecDepth 100000 in
theorem transomhand05_Number.calls (k : Nat) (A0_0 : Option Addr) (c0_0 : Nat) (l0_0 : List (S31)) (A0_1 : Option Addr) (c0_1 : Nat) (l0_1 : List (S61)) (a0_2 : Int) (a1_0 : Int) (a1_1 : Int) (a1_2 : Int) (a2 : Int) (r : Int) (w : World) (hr0_0 : Kd.C k31 w A0_0 l0_0.length l0_0) (hc0_0 : l0_0.length ≤ c0_0) (hr0_1 : Kd.C k61 w A0_1 l0_1.length l0_1) (hc0_1 : l0_1.length ≤ c0_1) (h : transomhand05_Number.f k l0_0 l0_1 a0_2 a1_0 a1_1 a1_2 a2 = some r) :
    Calls Try.prog 20 #[.agg #[.slice A0_0 l0_0.length c0_0, .slice A0_1 l0_1.length c0_1, .int .i64 a0_2], .agg #[.int .u8 a1_0, .int .i64 a1_1, .int .i64 a1_2], .int .u64 a2] w fun e w' => e = .returned (.int .u64 r) ∧ Below w.heap.size w w' := by
  have hu35 := Try.underlying35
  have hu25 := Try.underlying25
  have HR0_0 := Aside0.mk hr0_0
  have HC0_0 := Aside0.mk hc0_0
  clear hr0_0 hc0_0
  have HR0_1 := Aside0.mk hr0_1
  have HC0_1 := Aside0.mk hc0_1
  clear hr0_1 hc0_1
  have HB := Aside0.mk (Below.refl w.heap.size w)
  have H : ((transomref01_Size.f k (wrap64 (a1_0))).bind fun t155 => (if a1_0 = 1 then (some (Int.tmod a2 2)) else (if a1_0 = 10 then (if 0 ≤ a1_1 then (if a1_1 < (l0_1.length : Int) then (if (IntKind.u64.wrap ((((rd_T61 l0_1 a1_1).f1).length : Int))) = 0 then (none) else (some (Int.tmod a2 (IntKind.u64.wrap ((((rd_T61 l0_1 a1_1).f1).length : Int)))))) else (none)) else (none)) else (if t155 < 8 then (if 0 ≤ (wrap64 (8 * t155)) then (if (shl .u64 1 (wrap64 (8 * t155))) = 0 then (none) else (transomhand05_Number.j0 k (Int.tmod a2 (shl .u64 1 (wrap64 (8 * t155)))) t155 a1_0 a1_1 a1_2)) else (none)) else (transomhand05_Number.j0 k a2 t155 a1_0 a1_1 a1_2))))) = some r := h
  clear h
  replace H := Option.bind_eq_some_iff.mp H
  obtain ⟨t155, A40, H⟩ := H
  replace H : (if a1_0 = 1 then (some (Int.tmod a2 2)) else (if a1_0 = 10 then (if 0 ≤ a1_1 then (if a1_1 < (l0_1.length : Int) then (if (IntKind.u64.wrap ((((rd_T61 l0_1 a1_1).f1).length : Int))) = 0 then (none) else (some (Int.tmod a2 (IntKind.u64.wrap ((((rd_T61 l0_1 a1_1).f1).length : Int)))))) else (none)) else (none)) else (if t155 < 8 then (if 0 ≤ (wrap64 (8 * t155)) then (if (shl .u64 1 (wrap64 (8 * t155))) = 0 then (none) else (transomhand05_Number.j0 k (Int.tmod a2 (shl .u64 1 (wrap64 (8 * t155)))) t155 a1_0 a1_1 a1_2)) else (none)) else (transomhand05_Number.j0 k a2 t155 a1_0 a1_1 a1_2)))) = some r := H
  have A4 := Aside0.mk A40
  clear A40
  have HC5 := Aside0.mk H
  clear H
  go_enter Try.func20, Try.ntmps20
  go_upto_block 0 with (first | ((with_reducible refine gate_dst (N := 3) rfl ?_); refine box_event ?hg (N := 3) ?hd (cs := #[.slice A0_0 l0_0.length c0_0, .slice A0_1 l0_1.length c0_1, .int .i64 a0_2]) (t := 35) ?hr ?_; (case hd => rfl); (case hg => rfl); (case hr => first | (go_simp; done) | (go_simp; rfl)); intro gb153 hg w6 hbox hb; have n0_ := Aside0.mk (below_step (by repeat (first | (with_reducible first | exact HB.out | apply below_alloc | apply pw_below_drewN | apply below_drew1) | exact HB.out)) hb); have n1_ := Aside0.mk (hbox); have n2_ := Aside0.mk ((by rw [hg]; exact (below_size (by repeat (first | (with_reducible first | exact HB.out | apply below_alloc | apply pw_below_drewN | apply below_drew1) | exact HB.out))) : w.heap.size ≤ gb153)); have n3_ := Aside0.mk ((by rw [hg]; exact (below_size (by repeat (first | (with_reducible first | exact HB.out | apply below_alloc | apply pw_below_drewN | apply below_drew1) | exact HB.out))) : w.heap.size ≤ gb153)); clear HB; have HB := n0_; have BK153 := n1_; have GW153 := n2_; have GE153 := n3_; clear n0_ n1_ n2_ n3_; clear hb hbox hg) | ((with_reducible refine gate_dst (N := 4) rfl ?_); refine box_event ?hg (N := 4) ?hd (cs := #[.int .u8 a1_0, .int .i64 a1_1, .int .i64 a1_2]) (t := 25) ?hr ?_; (case hd => rfl); (case hg => rfl); (case hr => first | (go_simp; done) | (go_simp; rfl)); intro gb154 hg w7 hbox hb; have n0_ := Aside0.mk (blk_below (g := gb153) (o := .cells #[.slice A0_0 l0_0.length c0_0, .slice A0_1 l0_1.length c0_1, .int .i64 a0_2] 35 (0, 0)) (by (with_reducible repeat (first | refine blk_drewN ?_ _ | refine blk_drew ?_ | refine blk_alloc ?_ _)); exact BK153.out) hb); have n1_ := Aside0.mk (below_step (by repeat (first | (with_reducible first | exact HB.out | apply below_alloc | apply pw_below_drewN | apply below_drew1 | refine below_set ?_ GE153.out) | exact HB.out)) hb); have n2_ := Aside0.mk (hbox); have n3_ := Aside0.mk ((by rw [hg]; exact (below_size (by repeat (first | (with_reducible first | exact HB.out | apply below_alloc | apply pw_below_drewN | apply below_drew1 | refine below_set ?_ GE153.out) | exact HB.out))) : w.heap.size ≤ gb154)); have n4_ := Aside0.mk ((by rw [hg]; exact (below_size (by repeat (first | (with_reducible first | exact HB.out | apply below_alloc | apply pw_below_drewN | apply below_drew1 | refine below_set ?_ GE153.out) | exact HB.out))) : w.heap.size ≤ gb154)); have n5_ := Aside0.mk ((by rw [hg]; exact Nat.ne_of_lt (blk_lt (g := gb153) (o := .cells #[.slice A0_0 l0_0.length c0_0, .slice A0_1 l0_1.length c0_1, .int .i64 a0_2] 35 (0, 0)) (by (with_reducible repeat (first | refine blk_drewN ?_ _ | refine blk_drew ?_ | refine blk_alloc ?_ _)); exact BK153.out)) : gb153 ≠ gb154)); have n6_ := Aside0.mk ((by rw [hg]; exact Nat.ne_of_gt (blk_lt (g := gb153) (o := .cells #[.slice A0_0 l0_0.length c0_0, .slice A0_1 l0_1.length c0_1, .int .i64 a0_2] 35 (0, 0)) (by (with_reducible repeat (first | refine blk_drewN ?_ _ | refine blk_drew ?_ | refine blk_alloc ?_ _)); exact BK153.out)) : gb154 ≠ gb153)); clear BK153; clear HB; have BK153 := n0_; have HB := n1_; have BK154 := n2_; have GW154 := n3_; have GE154 := n4_; have NB153_154 := n5_; have NB154_153 := n6_; clear n0_ n1_ n2_ n3_ n4_ n5_ n6_; clear hb hbox hg; have hnb8 := NB154_153.out; have hnc8 := NB153_154.out; have hcz9_0 : w7.cell? ⟨gb154, 0, none⟩ = some (.int .u8 a1_0) := (blk_cell BK154.out 0).trans rfl; have hcz9_1 : w7.cell? ⟨gb154, 1, none⟩ = some (.int .i64 a1_1) := (blk_cell BK154.out 1).trans rfl; have hcz9_2 : w7.cell? ⟨gb154, 2, none⟩ = some (.int .i64 a1_2) := (blk_cell BK154.out 2).trans rfl; have hfz9_0 := blk_frozen BK154.out 0; have hfz9_1 := blk_frozen BK154.out 1; have hfz9_2 := blk_frozen BK154.out 2) | ((with_reducible refine gate_callee (f := 29) rfl ?_); refine goesL_ (some 11) rfl rfl Try.func29 (by kernel_rfl) rfl #[.int .i64 (wrap64 (a1_0))] rfl (by (try simp only [List.map_toArray, List.map_cons, List.map_nil]); first | done | rfl | (simp only [List.length_drop, List.length_take]; rfl)) ?_; (with_reducible refine (transomref01_Size.calls k (wrap64 (a1_0)) t155 _ A4.out).mono ?_); rintro e w' ⟨rfl, ⟨nd, rfl⟩⟩; refine ⟨_, rfl, ?_⟩))
  (try simp only [Act.put, List.setIfInBounds_toArray, List.set_cons_zero, List.set_cons_succ])
  go_cut [2] (fun v2 wc => ∃ (kq : Nat) (x2_4 : Int), v2 = .int .u64 x2_4 ∧ Aside0 (transomhand05_Number.j0 kq x2_4 t155 a1_0 a1_1 a1_2 = some r) ∧ Aside0 (kq ≤ k) ∧ Aside0 (wc.heap[gb153]? = some (.cells #[(.slice A0_0 l0_0.length c0_0), (.slice A0_1 l0_1.length c0_1), .int .i64 a0_2] 35 (0, 0))) ∧ Aside0 (wc.heap[gb154]? = some (.cells #[.int .u8 a1_0, .int .i64 a1_1, .int .i64 a1_2] 25 (0, 0))) ∧ Aside0 (Below w.heap.size w wc))
  case first =>
    have H := HC5.out
    clear HC5
    by_cases c10 : a1_0 = 1
    · rw [if_pos c10] at H
      have c10b0 : (a1_0 == 1) = true := beq_iff_eq.mpr c10
      have c10b1 : (a1_0 != 1) = false := bne_eq_false_iff_eq.mpr c10
      clear c10
      (first | rw [c10b0] | (simp only [i64_w, i32_w]; rw [c10b0]) | skip)
      obtain rfl := Option.some.inj H
      have hnb11 := NB154_153.out
      have hnc11 := NB153_154.out
      have hcz12_0 : w7.cell? ⟨gb154, 0, none⟩ = some (.int .u8 a1_0) := (blk_cell BK154.out 0).trans rfl
      have hcz12_1 : w7.cell? ⟨gb154, 1, none⟩ = some (.int .i64 a1_1) := (blk_cell BK154.out 1).trans rfl
      have hcz12_2 : w7.cell? ⟨gb154, 2, none⟩ = some (.int .i64 a1_2) := (blk_cell BK154.out 2).trans rfl
      have hfz12_0 := blk_frozen BK154.out 0
      have hfz12_1 := blk_frozen BK154.out 1
      have hfz12_2 := blk_frozen BK154.out 2
      go_wp2
      go_ret
      exact ⟨by first | rfl | (simp [errW_none, errW_some] <;> rfl) | (simp [*, errW_none, errW_some] <;> rfl), by repeat (first | (with_reducible first | exact HB.out | apply below_alloc | apply pw_below_drewN | apply below_drew1 | refine below_set ?_ GE153.out | refine below_set ?_ GE154.out) | exact HB.out)⟩
    · rw [if_neg c10] at H
      have c10b0 : (a1_0 == 1) = false := beq_eq_false_iff_ne.mpr c10
      have c10b1 : (a1_0 != 1) = true := bne_iff_ne.mpr c10
      (first | rw [c10b0] | (simp only [i64_w, i32_w]; rw [c10b0]) | skip)
      by_cases c13 : a1_0 = 10
      · rw [if_pos c13] at H
        have c13b0 : (a1_0 == 10) = true := beq_iff_eq.mpr c13
        have c13b1 : (a1_0 != 10) = false := bne_eq_false_iff_eq.mpr c13
        clear c13
        by_cases c14 : 0 ≤ a1_1
        · rw [if_pos c14] at H
          have c14b0 : decide (0 ≤ a1_1) = true := decide_eq_true c14
          clear c14
          by_cases c15 : a1_1 < (l0_1.length : Int)
          · rw [if_pos c15] at H
            have c15b0 : decide (a1_1 < (l0_1.length : Int)) = true := decide_eq_true c15
            clear c15
            by_cases c16 : (IntKind.u64.wrap ((((rd_T61 l0_1 a1_1).f1).length : Int))) = 0
            · rw [if_pos c16] at H
              exact absurd H (by simp)
            · rw [if_neg c16] at H
              have c16b0 : ((IntKind.u64.wrap ((((rd_T61 l0_1 a1_1).f1).length : Int))) == 0) = false := beq_eq_false_iff_ne.mpr c16
              have c16b1 : ((IntKind.u64.wrap ((((rd_T61 l0_1 a1_1).f1).length : Int))) != 0) = true := bne_iff_ne.mpr c16
              obtain rfl := Option.some.inj H
              have hnb17 := NB154_153.out
              have hnc17 := NB153_154.out
              have hcz18_0 : w7.cell? ⟨gb154, 0, none⟩ = some (.int .u8 a1_0) := (blk_cell BK154.out 0).trans rfl
              have hcz18_1 : w7.cell? ⟨gb154, 1, none⟩ = some (.int .i64 a1_1) := (blk_cell BK154.out 1).trans rfl
              have hcz18_2 : w7.cell? ⟨gb154, 2, none⟩ = some (.int .i64 a1_2) := (blk_cell BK154.out 2).trans rfl
              have hfz18_0 := blk_frozen BK154.out 0
              have hfz18_1 := blk_frozen BK154.out 1
              have hfz18_2 := blk_frozen BK154.out 2
              have hcz19_0 : w7.cell? ⟨gb153, 0, none⟩ = some (.slice A0_0 l0_0.length c0_0) := (blk_cell BK153.out 0).trans rfl
              have hcz19_1 : w7.cell? ⟨gb153, 1, none⟩ = some (.slice A0_1 l0_1.length c0_1) := (blk_cell BK153.out 1).trans rfl
              have hcz19_2 : w7.cell? ⟨gb153, 2, none⟩ = some (.int .i64 a0_2) := (blk_cell BK153.out 2).trans rfl
              have hfz19_0 := blk_frozen BK153.out 0
              have hfz19_1 := blk_frozen BK153.out 1
              have hfz19_2 := blk_frozen BK153.out 2
              have p156 : 0 ≤ (a1_1 : Int) := of_decide_eq_true (by first | (with_reducible assumption) | assumption)
              have q156 : a1_1 < (l0_1.length : Int) := of_decide_eq_true (by first | (with_reducible assumption) | assumption)
              obtain ⟨ad156, A156_1, c156_1, e156, hx156_0, hx156_1, hl156_1, hi156_1⟩ := at_T61 HR0_1.out a1_1 p156 q156
              cases e156
              replace hx156_0 := (HB.out.cell (World.block_lt_of_cell? w _ hx156_0)).trans hx156_0
              replace hx156_1 := (HB.out.cell (World.block_lt_of_cell? w _ hx156_1)).trans hx156_1
              have HR156_1 := Aside0.mk hi156_1
              have HC156_1 := Aside0.mk hl156_1
              clear hi156_1 hl156_1
              replace p156 := eq_true p156
              replace q156 := eq_true q156
              go_wp2
              go_ret
              exact ⟨by first | rfl | (simp [errW_none, errW_some] <;> rfl) | (simp [*, errW_none, errW_some] <;> rfl), by repeat (first | (with_reducible first | exact HB.out | apply below_alloc | apply pw_below_drewN | apply below_drew1 | refine below_set ?_ GE153.out | refine below_set ?_ GE154.out) | exact HB.out)⟩
          · rw [if_neg c15] at H
            exact absurd H (by simp)
        · rw [if_neg c14] at H
          exact absurd H (by simp)
      · rw [if_neg c13] at H
        have c13b0 : (a1_0 == 10) = false := beq_eq_false_iff_ne.mpr c13
        have c13b1 : (a1_0 != 10) = true := bne_iff_ne.mpr c13
        by_cases c20 : t155 < 8
        · rw [if_pos c20] at H
          have c20b0 : decide (t155 < 8) = true := decide_eq_true c20
          clear c20
          obtain ⟨ji21, hji21⟩ : ∃ j_ : Int, (wrap64 (8 * t155)) = j_ := ⟨_, rfl⟩
          replace H : (if 0 ≤ (ji21) then (if (shl .u64 1 (ji21)) = 0 then (none) else (transomhand05_Number.j0 k (Int.tmod a2 (shl .u64 1 (ji21))) t155 a1_0 a1_1 a1_2)) else (none)) = some r := by first | (rw [hji21] at H; exact H) | (simp only [hji21] at H ⊢; exact H)
          have hji21w : (IntKind.i64.wrap (8 * t155)) = ji21 := (i64_w _).trans hji21
          by_cases c22 : 0 ≤ (ji21)
          · rw [if_pos c22] at H
            have c22b0 := eq_true c22
            have c22b1 : decide (0 ≤ (ji21)) = true := decide_eq_true c22
            clear c22
            obtain ⟨ji23, hji23⟩ : ∃ j_ : Int, (shl .u64 1 (ji21)) = j_ := ⟨_, rfl⟩
            replace H : (if (ji23) = 0 then (none) else (transomhand05_Number.j0 k (Int.tmod a2 (ji23)) t155 a1_0 a1_1 a1_2)) = some r := by first | (rw [hji23] at H; exact H) | (simp only [hji23] at H ⊢; exact H)
            have hji23_ : (IntKind.u64.wrap (1 * 2 ^ min (ji21).toNat 64)) = ji23 := hji23
            have hji23z : (ji21) ≤ 64 → (IntKind.u64.wrap (1 * 2 ^ (ji21).toNat)) = ji23 := shl_small hji23
            have hji23u : (IntKind.u64.wrap (2 ^ min (ji21).toNat 64)) = ji23 := by have h_ := hji23_; rw [Int.one_mul] at h_; exact h_
            have hji23v : (ji21) ≤ 64 → (IntKind.u64.wrap (2 ^ (ji21).toNat)) = ji23 := fun hle_ => by have h_ := hji23z hle_; rw [Int.one_mul] at h_; exact h_
            by_cases c24 : (ji23) = 0
            · rw [if_pos c24] at H
              exact absurd H (by simp)
            · rw [if_neg c24] at H
              have c24b0 : ((ji23) == 0) = false := beq_eq_false_iff_ne.mpr c24
              have c24b1 : ((ji23) != 0) = true := bne_iff_ne.mpr c24
              have H' := Aside0.mk H
              clear H
              have hnb25 := NB154_153.out
              have hnc25 := NB153_154.out
              have hcz26_0 : w7.cell? ⟨gb154, 0, none⟩ = some (.int .u8 a1_0) := (blk_cell BK154.out 0).trans rfl
              have hcz26_1 : w7.cell? ⟨gb154, 1, none⟩ = some (.int .i64 a1_1) := (blk_cell BK154.out 1).trans rfl
              have hcz26_2 : w7.cell? ⟨gb154, 2, none⟩ = some (.int .i64 a1_2) := (blk_cell BK154.out 2).trans rfl
              have hfz26_0 := blk_frozen BK154.out 0
              have hfz26_1 := blk_frozen BK154.out 1
              have hfz26_2 := blk_frozen BK154.out 2
              go_wp2
              go_meet
              case rel => exact ⟨_, (Int.tmod a2 (ji23)), (by first | rfl | (simp; done) | (simp only [← hji23] <;> (first | rfl | simp)) | (simp [*]; done)), H', ⟨by first | omega | exact Nat.le_refl _⟩, ⟨by (with_reducible repeat (first | refine blk_drewN ?_ _ | refine blk_drew ?_ | refine blk_alloc ?_ _)); exact BK153.out⟩, ⟨by (with_reducible repeat (first | refine blk_drewN ?_ _ | refine blk_drew ?_ | refine blk_alloc ?_ _)); exact BK154.out⟩, ⟨by repeat (first | (with_reducible first | exact HB.out | apply below_alloc | apply pw_below_drewN | apply below_drew1 | refine below_set ?_ GE153.out | refine below_set ?_ GE154.out) | exact HB.out)⟩⟩
          · rw [if_neg c22] at H
            exact absurd H (by simp)
        · rw [if_neg c20] at H
          have c20b0 : decide (t155 < 8) = false := decide_eq_false c20
          clear c20
          have H' := Aside0.mk H
          clear H
          have hnb27 := NB154_153.out
          have hnc27 := NB153_154.out
          have hcz28_0 : w7.cell? ⟨gb154, 0, none⟩ = some (.int .u8 a1_0) := (blk_cell BK154.out 0).trans rfl
          have hcz28_1 : w7.cell? ⟨gb154, 1, none⟩ = some (.int .i64 a1_1) := (blk_cell BK154.out 1).trans rfl
          have hcz28_2 : w7.cell? ⟨gb154, 2, none⟩ = some (.int .i64 a1_2) := (blk_cell BK154.out 2).trans rfl
          have hfz28_0 := blk_frozen BK154.out 0
          have hfz28_1 := blk_frozen BK154.out 1
          have hfz28_2 := blk_frozen BK154.out 2
          go_wp2
          go_meet
          case rel => exact ⟨_, (a2), (by first | rfl | (simp; done) | (simp [*]; done)), H', ⟨by first | omega | exact Nat.le_refl _⟩, ⟨by (with_reducible repeat (first | refine blk_drewN ?_ _ | refine blk_drew ?_ | refine blk_alloc ?_ _)); exact BK153.out⟩, ⟨by (with_reducible repeat (first | refine blk_drewN ?_ _ | refine blk_drew ?_ | refine blk_alloc ?_ _)); exact BK154.out⟩, ⟨by repeat (first | (with_reducible first | exact HB.out | apply below_alloc | apply pw_below_drewN | apply below_drew1 | refine below_set ?_ GE153.out | refine below_set ?_ GE154.out) | exact HB.out)⟩⟩
  case rest =>
    clear HC5
    try clear c1
    try clear p1
    try clear q1
    try clear hx1
    try clear c2
    try clear p2
    try clear p6
    try clear c8
    try clear c10
    try clear c10b0
    try clear c10b1
    try clear c11
    try clear c13
    try clear c13b0
    try clear c13b1
    try clear c14
    try clear c14b0
    try clear c15
    try clear c15b0
    try clear p15
    try clear q15
    try clear hx15
    try clear c16
    try clear c16b0
    try clear c16b1
    try clear c17
    try clear c20
    try clear c20b0
    try clear c22
    try clear c22b0
    try clear c22b1
    try clear c24
    try clear c24b0
    try clear c24b1
    try clear c25
    try clear c27
    try clear hcz12_0
    try clear hcz12_1
    try clear hcz12_2
    try clear hcz18_0
    try clear hcz18_1
    try clear hcz18_2
    try clear hcz19_0
    try clear hcz19_1
    try clear hcz19_2
    try clear hcz26_0
    try clear hcz26_1
    try clear hcz26_2
    try clear hcz28_0
    try clear hcz28_1
    try clear hcz28_2
    try clear hcz9_0
    try clear hcz9_1
    try clear hcz9_2
    try clear hfz12_0
    try clear hfz12_1
    try clear hfz12_2
    try clear hfz18_0
    try clear hfz18_1
    try clear hfz18_2
    try clear hfz19_0
    try clear hfz19_1
    try clear hfz19_2
    try clear hfz26_0
    try clear hfz26_1
    try clear hfz26_2
    try clear hfz28_0
    try clear hfz28_1
    try clear hfz28_2
    try clear hfz9_0
    try clear hfz9_1
    try clear hfz9_2
    try clear hx156_0
    try clear hx156_1
    try clear p156
    try clear q156
    obtain ⟨kq, x2_4, rfl, HA, HJ4, BK153, BK154, HB⟩ := hcut
    cases kq with
    | zero => exact absurd HA.out (by simp [transomhand05_Number.j0])
    | succ kj4 =>
      have H := HA.out
      clear HA
      simp only [transomhand05_Number.j0] at H
      replace H := Option.bind_eq_some_iff.mp H
      obtain ⟨t157, A290, H⟩ := H
      replace H : (if t157 = true then ((transomref01_Signed.f kj4 x2_4 t155).bind fun t158 => (some t158)) else (some x2_4)) = some r := H
      have A29 := Aside0.mk A290
      clear A290
      by_cases c30 : t157 = true
      · subst c30
        have H1 : ((transomref01_Signed.f kj4 x2_4 t155).bind fun t158 => (some t158)) = some r := by rw [if_pos rfl] at H; exact H
        clear H
        have H := H1
        clear H1
        replace H := Option.bind_eq_some_iff.mp H
        obtain ⟨t158, A310, H⟩ := H
        replace H : (some t158) = some r := H
        have A31 := Aside0.mk A310
        clear A310
        obtain rfl := Option.some.inj H
        have hnb32 := NB154_153.out
        have hnc32 := NB153_154.out
        have hcz33_0 : wc.cell? ⟨gb154, 0, none⟩ = some (.int .u8 a1_0) := (blk_cell BK154.out 0).trans rfl
        have hcz33_1 : wc.cell? ⟨gb154, 1, none⟩ = some (.int .i64 a1_1) := (blk_cell BK154.out 1).trans rfl
        have hcz33_2 : wc.cell? ⟨gb154, 2, none⟩ = some (.int .i64 a1_2) := (blk_cell BK154.out 2).trans rfl
        have hfz33_0 := blk_frozen BK154.out 0
        have hfz33_1 := blk_frozen BK154.out 1
        have hfz33_2 := blk_frozen BK154.out 2
        go_wp2_with (first | ((with_reducible refine gate_callee (f := 30) rfl ?_); refine goesL_ (some 44) rfl rfl Try.func30 (by kernel_rfl) rfl #[.int .i64 (wrap64 (a1_0))] rfl (by (try simp only [List.map_toArray, List.map_cons, List.map_nil]); first | done | rfl | (simp only [List.length_drop, List.length_take]; rfl)) ?_; (with_reducible refine (transomref01_Sign.calls (wrap64 (a1_0)) true _ A29.out).mono ?_); rintro e w' ⟨rfl, ⟨nd, rfl⟩⟩; refine ⟨_, rfl, ?_⟩) | ((with_reducible refine gate_callee (f := 31) rfl ?_); refine goesL_ (some 47) rfl rfl Try.func31 (by kernel_rfl) rfl #[.int .u64 x2_4, .int .i64 t155] rfl (by (try simp only [List.map_toArray, List.map_cons, List.map_nil]); first | done | rfl | (simp only [List.length_drop, List.length_take]; rfl)) ?_; (with_reducible refine (transomref01_Signed.calls kj4 x2_4 t155 t158 _ A31.out).mono ?_); rintro e w' ⟨rfl, ⟨nd, rfl⟩⟩; refine ⟨_, rfl, ?_⟩))
        go_ret
        exact ⟨by first | rfl | (simp [errW_none, errW_some] <;> rfl) | (simp [*, errW_none, errW_some] <;> rfl), by repeat (first | (with_reducible first | exact HB.out | apply below_alloc | apply pw_below_drewN | apply below_drew1 | refine below_set ?_ GE153.out | refine below_set ?_ GE154.out) | exact HB.out)⟩
      · replace c30 := Bool.eq_false_iff.mpr c30
        subst c30
        have H1 : (some x2_4) = some r := by rw [if_neg (show ¬ (false = true) by decide)] at H; exact H
        clear H
        have H := H1
        clear H1
        obtain rfl := Option.some.inj H
        have hnb34 := NB154_153.out
        have hnc34 := NB153_154.out
        have hcz35_0 : wc.cell? ⟨gb154, 0, none⟩ = some (.int .u8 a1_0) := (blk_cell BK154.out 0).trans rfl
        have hcz35_1 : wc.cell? ⟨gb154, 1, none⟩ = some (.int .i64 a1_1) := (blk_cell BK154.out 1).trans rfl
        have hcz35_2 : wc.cell? ⟨gb154, 2, none⟩ = some (.int .i64 a1_2) := (blk_cell BK154.out 2).trans rfl
        have hfz35_0 := blk_frozen BK154.out 0
        have hfz35_1 := blk_frozen BK154.out 1
        have hfz35_2 := blk_frozen BK154.out 2
        go_wp2_with (first | ((with_reducible refine gate_callee (f := 30) rfl ?_); refine goesL_ (some 44) rfl rfl Try.func30 (by kernel_rfl) rfl #[.int .i64 (wrap64 (a1_0))] rfl (by (try simp only [List.map_toArray, List.map_cons, List.map_nil]); first | done | rfl | (simp only [List.length_drop, List.length_take]; rfl)) ?_; (with_reducible refine (transomref01_Sign.calls (wrap64 (a1_0)) false _ A29.out).mono ?_); rintro e w' ⟨rfl, ⟨nd, rfl⟩⟩; refine ⟨_, rfl, ?_⟩))
        go_ret
        exact ⟨by first | rfl | (simp [errW_none, errW_some] <;> rfl) | (simp [*, errW_none, errW_some] <;> rfl), by repeat (first | (with_reducible first | exact HB.out | apply below_alloc | apply pw_below_drewN | apply below_drew1 | refine below_set ?_ GE153.out | refine below_set ?_ GE154.out) | exact HB.out)⟩

end Go.Proofs.Ythilhndejhnlnaa.QAll
end
