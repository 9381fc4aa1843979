/- Layer 13, scan: a nil scanner. -/
import Derived.Test.YtonekmigcpgdeaaS9
import Derived.Test.YtonekmigcpgdeaaQAllx6
namespace Go.Proofs.Ytonekmigcpgdeaa.Hand
open Go.RowKit Go.Proofs.Ytonekmigcpgdeaa.QAll Go.Proofs.YtonekmigcpgdeaaW.PrintWords Go.Proofs.YtonekmigcpgdeaaW.PrintLast Go.Proofs.YtonekmigcpgdeaaW.PrintMore Go.Proofs.Ytonekmigcpgdeaa.Runes
set_option linter.unusedVariables false
set_option linter.unusedSimpArgs false
section nils
variable (w : World)
theorem nil_blank : Calls Try.prog 25 #[.pointer none] w fun e w' => e = .returned (.tuple #[]) ∧ Drawn0 w w' := by
  go_enter Try.func25, Try.ntmps25
  go_wp2_with (fail)
  refine bodyPost_ret (results_none rfl _ _ _) rfl ?_
  exact ⟨rfl, Drawn0.refl _⟩
theorem nil_at : Calls Try.prog 13 #[.pointer none] w fun e w' => e = .returned (.int .i64 0) ∧ Drawn0 w w' := by
  go_enter Try.func13, Try.ntmps13
  go_wp2_with (fail)
  go_ret
  exact ⟨rfl, Drawn0.refl _⟩
theorem nil_sign (x : Int) : Calls Try.prog 19 #[.pointer none, .int .u8 x] w fun e w' => e = .returned (.bool false) ∧ Drawn0 w w' := by
  go_enter Try.func19, Try.ntmps19
  go_wp2_with (fail)
  go_ret
  exact ⟨rfl, Drawn0.refl _⟩
theorem nil_end : Calls Try.prog 24 #[.pointer none] w fun e w' => e = .returned (.bool true) ∧ Drawn0 w w' := by
  go_enter Try.func24, Try.ntmps24
  go_wp2_with (fail)
  go_ret
  exact ⟨rfl, Drawn0.refl _⟩
theorem nil_word (s : ByteArray) : Calls Try.prog 21 #[.pointer none, .string s] w fun e w' => e = .returned (.bool false) ∧ Drawn0 w w' := by
  go_enter Try.func21, Try.ntmps21
  go_wp2_with (fail)
  go_ret
  exact ⟨rfl, Drawn0.refl _⟩
theorem nil_number : Calls Try.prog 26 #[.pointer none] w fun e w' => e = .returned (.tuple #[.string ⟨#[]⟩, .bool false]) ∧ Drawn0 w w' := by
  go_enter Try.func26, Try.ntmps26
  go_wp2_with (fail)
  go_ret2
  exact ⟨rfl, Drawn0.refl _⟩
set_option maxRecDepth 100000 in
theorem nil_text : Calls Try.prog 11 #[.pointer none] w fun e w' => e = .returned (.tuple #[.slice none 0 0, .bool false]) ∧ Drawn0 w w' := by
  go_enter Try.func11, Try.ntmps11
  go_wp2_with (go_at_call 19; (with_reducible refine (nil_sign w 34).mono ?_); rintro e w1 ⟨rfl, hd⟩; have HD := Aside0.mk hd; clear hd)
  go_ret2
  exact ⟨rfl, HD.out⟩
theorem good_one : transomref03_Good.f 40 ⟨#[49]⟩ = some true := by decide +kernel
theorem sized_one : transomref01_Sized.f 1 = some true := by decide +kernel
set_option maxHeartbeats 3200000 in
set_option maxRecDepth 100000 in
theorem num_one : Calls Try.prog 27 #[.string ⟨#[49]⟩, .int .i64 1, .bool false] w fun e w' => e = .returned (.tuple #[.int .u64 1, .bool true]) ∧ Drawn0 w w' := by
  have e45 : (((⟨#[49]⟩ : ByteArray)[0].toNat : Int) == 45) = false := rfl
  have e49 : ((⟨#[49]⟩ : ByteArray)[0].toNat : Int) = 49 := rfl
  go_enter Try.func27, Try.ntmps27
  go_wp2_with (first
    | (go_at_call 39; (with_reducible refine (transomref03_Good.calls 40 _ _ _ good_one).mono ?_); rintro e w1 ⟨rfl, ⟨n1, rfl⟩⟩)
    | (go_at_call 40; (with_reducible refine (transomref01_Sized.calls _ _ _ sized_one).mono ?_); rintro e w1 ⟨rfl, ⟨n2, rfl⟩⟩))
  go_loopg [10, 11] 2 (fun kq v10 v11 w' => ∃ (n i : Int), v10 = .int .u64 n ∧ v11 = .int .i64 i ∧ Aside0 ((i = 0 ∧ n = 0 ∧ 2 ≤ kq) ∨ (i = 1 ∧ n = 1 ∧ 1 ≤ kq)) ∧ Drawn0 w w')
  case atStart => exact ⟨0, 0, rfl, rfl, ⟨.inl ⟨rfl, rfl, Nat.le_refl _⟩⟩, ⟨_, rfl⟩⟩
  case round =>
    obtain ⟨n, i, rfl, rfl, HC, ⟨m1, rfl⟩⟩ := hrel
    rcases HC.out with ⟨rfl, rfl, hk⟩ | ⟨rfl, rfl, hk⟩
    · clear HC
      go_wp2_with (fail)
      go_roundg (gk - 1)
      case measure => omega
      case rel => exact ⟨1, 1, rfl, rfl, ⟨.inr ⟨rfl, rfl, by omega⟩⟩, ⟨_, rfl⟩⟩
    · clear HC hk
      go_wp2_with (fail)
      go_ret2
      exact ⟨rfl, ⟨_, rfl⟩⟩
end nils
set_option maxHeartbeats 3200000 in
set_option maxRecDepth 100000 in
theorem ScanNil_walk (x : Int) (s : ByteArray) (w : World) (hx : (Lit.int .u8 x).wf = true) (hs : s.size ≤ 140737488351232) : Calls Try.prog 7 #[.int .u8 x, .string s] w fun e w' => e = .returned (.bool true) ∧ Below w.heap.size w w' := by
  clear hx hs
  go_enter Try.func7, Try.ntmps7
  go_wp2_with (first
    | (go_at_call 8; (with_reducible refine (awake_any w).mono ?_); rintro e w1 ⟨rfl, hb⟩; have HB := Aside0.mk hb; clear hb)
    | (go_at_call 25; (with_reducible refine (nil_blank _).mono ?_); rintro e w2 ⟨rfl, ⟨n2, rfl⟩⟩)
    | (go_at_call 26; (with_reducible refine (nil_number _).mono ?_); rintro e w2 ⟨rfl, ⟨n3, rfl⟩⟩)
    | (go_at_call 11; (with_reducible refine (nil_text _).mono ?_); rintro e w2 ⟨rfl, ⟨n4, rfl⟩⟩)
    | (go_at_call 27; (with_reducible refine (num_one _).mono ?_); rintro e w2 ⟨rfl, ⟨n5, rfl⟩⟩)
    | (go_at_call 13; (with_reducible refine (nil_at _).mono ?_); rintro e w2 ⟨rfl, ⟨n6, rfl⟩⟩)
    | (go_at_call 19; (with_reducible refine (nil_sign _ _).mono ?_); rintro e w2 ⟨rfl, ⟨n7, rfl⟩⟩)
    | (go_at_call 24; (with_reducible refine (nil_end _).mono ?_); rintro e w2 ⟨rfl, ⟨n8, rfl⟩⟩)
    | (go_at_call 21; (with_reducible refine (nil_word _ _).mono ?_); rintro e w2 ⟨rfl, ⟨n9, rfl⟩⟩))
  go_ret
  exact ⟨rfl, HB.out.trans (below_from (by repeat (first | exact Below.refl _ _ | apply pw_below_drewN)) HB.out.size)⟩
end Go.Proofs.Ytonekmigcpgdeaa.Hand
