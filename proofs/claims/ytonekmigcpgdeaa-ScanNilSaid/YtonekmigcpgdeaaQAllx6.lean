-- written by a program of this session (turned from a print)
import Derived.Test.YtonekmigcpgdeaaQAllx0
import Derived.Test.YtonekmigcpgdeaaQAllx5
namespace Go.Proofs.Ytonekmigcpgdeaa.QAll
open Go.RowKit Go.Proofs.YtonekmigcpgdeaaW.PrintWords Go.Proofs.YtonekmigcpgdeaaW.PrintLast Go.Proofs.YtonekmigcpgdeaaW.PrintMore
attribute [local go_sem] max2_int min2_int max_two min_two max_three min_three max_four min_four   -- for this text's walks alone
set_option linter.unusedVariables false
set_option linter.unusedSimpArgs false

/-! ### transomref01_Sized: function 40 -/
def transomref01_Sized.f (a0 : Int) : Option (Bool) := if a0 > 0 then (if a0 ≤ 8 then ((bits_OnesCount.f (IntKind.u64.wrap (a0))).bind fun t166 => (some (t166 == 1))) else (some false)) else (some false)
set_option maxHeartbeats 8000000 in
set_option maxRecDepth 100000 in
theorem transomref01_Sized.calls (a0 : Int) (r : Bool) (w : World) (h : transomref01_Sized.f a0 = some r) :
    Calls Try.prog 40 #[.int .i64 a0] w fun e w' => e = .returned (.bool r) ∧ Drawn0 w w' := by
  have H : (if a0 > 0 then (if a0 ≤ 8 then ((bits_OnesCount.f (IntKind.u64.wrap (a0))).bind fun t166 => (some (t166 == 1))) else (some false)) else (some false)) = some r := h
  clear h
  by_cases c2 : a0 > 0
  · rw [if_pos c2] at H
    have c2b0 : decide (0 < a0) = true := decide_eq_true c2
    clear c2
    by_cases c3 : a0 ≤ 8
    · rw [if_pos c3] at H
      have c3b0 : decide (a0 ≤ 8) = true := decide_eq_true c3
      clear c3
      replace H := Option.bind_eq_some_iff.mp H
      obtain ⟨t166, A40, H⟩ := H
      replace H : (some (t166 == 1)) = some r := H
      have A4 := Aside0.mk A40
      clear A40
      obtain rfl := Option.some.inj H
      go_enter Try.func40, Try.ntmps40
      go_wp2_with (first | (go_at_call 51; (with_reducible refine (bits_OnesCount.calls (IntKind.u64.wrap (a0)) t166 _ A4.out).mono ?_); rintro e w' ⟨rfl, ⟨nd, rfl⟩⟩))
      go_ret
      exact ⟨by first | rfl | (simp; done) | (simp [*]; done), by repeat (first | exact Drawn0.refl _ | apply Drawn0.step)⟩
    · rw [if_neg c3] at H
      have c3b0 : decide (a0 ≤ 8) = false := decide_eq_false c3
      clear c3
      obtain rfl := Option.some.inj H
      go_enter Try.func40, Try.ntmps40
      go_wp2
      go_ret
      exact ⟨by first | rfl | (simp; done) | (simp [*]; done), by repeat (first | exact Drawn0.refl _ | apply Drawn0.step)⟩
  · rw [if_neg c2] at H
    have c2b0 : decide (0 < a0) = false := decide_eq_false c2
    clear c2
    obtain rfl := Option.some.inj H
    go_enter Try.func40, Try.ntmps40
    go_wp2
    go_ret
    exact ⟨by first | rfl | (simp; done) | (simp [*]; done), by repeat (first | exact Drawn0.refl _ | apply Drawn0.step)⟩

-- NOT PRINTED: function 27 (transomref03_Number)

-- NOT PRINTED: function 7 (transomlaw13_ScanNil)

end Go.Proofs.Ytonekmigcpgdeaa.QAll
