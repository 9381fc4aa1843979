/- Part: a piece of bytes without room behind: what the call tells. -/
import Derived.Test.YtgabfoafchnpiaaNums
namespace Go.Proofs.Ytgabfoafchnpiaa.Hand
open Go.RowKit Go.Proofs.Ytgabfoafchnpiaa.QAll Go.Proofs.YtgabfoafchnpiaaW.PrintWords Go.Proofs.YtgabfoafchnpiaaW.PrintLast Go.Proofs.YtgabfoafchnpiaaW.PrintMore Go.Proofs.Ytgabfoafchnpiaa.Nums
set_option linter.unusedVariables false
set_option linter.unusedSimpArgs false

set_option maxHeartbeats 800000 in
theorem part_out (A : Option Addr) (c : Nat) (l : List Int) (a n : Int) (w : World) (hr : Kd.C (Kd.int .u8) w A l.length l) (hc : l.length ≤ c) (hl : l.length < 4611686018427387904) (hin : withinB l.length a n = false) :
    Calls Try.prog 30 #[.slice A l.length c, .int .i64 a, .int .i64 n] w fun e w' => e = .returned (.tuple #[.slice none 0 0, .bool false]) ∧ Drawn0 w w' := by
  have HR := Aside0.mk hr
  have HC := Aside0.mk hc
  have HW := Aside0.mk ((within_f l hl a n).trans (by rw [hin]))
  clear hr hc hin
  go_enter Try.func30, Try.ntmps30
  go_wp2_with (go_at_call 44; (with_reducible refine (wire_Within.calls A c l a n _ _ HR.out HC.out HW.out).mono ?_); rintro e w' ⟨rfl, ⟨nd, rfl⟩⟩)
  go_ret2
  exact ⟨rfl, ⟨_, rfl⟩⟩
set_option maxHeartbeats 800000 in
theorem part_in (A : Option Addr) (c : Nat) (l : List Int) (a n : Nat) (w : World) (hr : Kd.C (Kd.int .u8) w A l.length l) (hc : l.length ≤ c) (hl : l.length < 4611686018427387904) (hin : a + n ≤ l.length) :
    Calls Try.prog 30 #[.slice A l.length c, .int .i64 a, .int .i64 n] w fun e w' => ∃ A' : Option Addr, e = .returned (.tuple #[.slice A' n n, .bool true]) ∧ Drawn0 w w' ∧ (∀ W, Kd.C (Kd.int .u8) W A l.length l → Kd.C (Kd.int .u8) W A' n ((l.drop a).take n)) := by
  have HR := Aside0.mk hr
  have HC := Aside0.mk hc
  have HW := Aside0.mk ((within_f l hl a n).trans (by rw [show withinB l.length (a : Int) (n : Int) = true by unfold withinB; simp; omega]))
  have hc1 : (l.length : Int) ≤ (c : Int) := by omega
  have hin1 : (a : Int) + (n : Int) ≤ (l.length : Int) := by omega
  clear hr hc
  go_enter Try.func30, Try.ntmps30
  go_wp2_with (go_at_call 44; (with_reducible refine (wire_Within.calls A c l a n _ _ HR.out HC.out HW.out).mono ?_); rintro e w' ⟨rfl, ⟨nd, rfl⟩⟩)
  all_goals
    first
      | (have hn : n = 0 := by omega
         subst hn
         go_ret2
         exact ⟨_, rfl, ⟨_, rfl⟩, fun W _ => (⟨rfl, Nat.zero_le _, fun h => absurd h (Nat.lt_irrefl 0)⟩ : Kd.C (Kd.int .u8) W _ 0 [])⟩)
      | (go_ret2
         refine ⟨_, rfl, ⟨_, rfl⟩, fun W h => ?_⟩
         have h2 := Kd.C_drop (m := a) (c := l.length + a + 1) h (by omega) (by omega)
         rw [if_neg (by omega)] at h2
         have h3 := Kd.C_take (m := n) h2 (by rw [List.length_drop]; omega)
         rw [List.length_take, List.length_drop, Nat.min_eq_left (by omega), show (Kd.int IntKind.u8).sz = 1 from rfl, Nat.mul_one] at h3
         exact h3)
end Go.Proofs.Ytgabfoafchnpiaa.Hand
