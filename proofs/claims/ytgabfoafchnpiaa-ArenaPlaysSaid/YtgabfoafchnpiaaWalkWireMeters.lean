/- WireMeters: the walk of the law of the meters. -/
import Derived.Test.YtgabfoafchnpiaaQAllx3
namespace Go.Proofs.Ytgabfoafchnpiaa.Hand
open Go.RowKit Go.Proofs.Ytgabfoafchnpiaa.QAll Go.Proofs.YtgabfoafchnpiaaW.PrintWords Go.Proofs.YtgabfoafchnpiaaW.PrintLast Go.Proofs.YtgabfoafchnpiaaW.PrintMore
set_option linter.unusedVariables false
set_option linter.unusedSimpArgs false

theorem awake01_f : transomlaw01_Awake.f 20 = some true := by decide +kernel
theorem awake01 (w : World) : Calls Try.prog 22 #[] w fun e w' => e = .returned (.bool true) ∧ Below w.heap.size w w' :=
  (transomlaw01_Awake.calls 20 true w awake01_f).mono fun _ _ h => h

set_option maxHeartbeats 400000 in
theorem take_nil (n : Int) (w : World) : Calls Try.prog 25 #[.pointer none, .int .i64 n] w fun e w' => e = .returned (.bool false) ∧ w = w' := by
  go_enter Try.func25, Try.ntmps25
  go_wp2
  go_ret
  exact ⟨rfl, rfl⟩
set_option maxHeartbeats 400000 in
theorem left_nil (w : World) : Calls Try.prog 26 #[.pointer none] w fun e w' => e = .returned (.int .i64 0) ∧ w = w' := by
  go_enter Try.func26, Try.ntmps26
  go_wp2
  go_ret
  exact ⟨rfl, rfl⟩
set_option maxHeartbeats 400000 in
theorem out_nil (w : World) : Calls Try.prog 27 #[.pointer none] w fun e w' => e = .returned (.bool false) ∧ w = w' := by
  go_enter Try.func27, Try.ntmps27
  go_wp2
  go_ret
  exact ⟨rfl, rfl⟩

/-- What Take does, told of one step. -/
theorem takeF_neg (left n : Int) (out : Bool) (h : n < 0) : wire_Meter_Take.f 2 left out n = some (false, left, out) := by
  unfold wire_Meter_Take.f; cases out <;> simp [wire_Meter_Take.j0, h]
theorem takeF_out (left n : Int) : wire_Meter_Take.f 2 left true n = some (false, left, true) := by
  unfold wire_Meter_Take.f; simp [wire_Meter_Take.j0]
theorem takeF_yes (left n : Int) (h0 : 0 ≤ n) (h : n ≤ left) (hl : left < 9223372036854775808) : wire_Meter_Take.f 2 left false n = some (true, left - n, false) := by
  unfold wire_Meter_Take.f
  have e : wrap64 (left - n) = left - n := by unfold wrap64; omega
  have h1 : ¬ n < 0 := by omega
  have h2 : ¬ n > left := by omega
  simp only [Bool.false_eq_true, if_false, h1, decide_false, wire_Meter_Take.j0, h2, e]
theorem takeF_no (left n : Int) (h0 : 0 ≤ n) (h : left < n) : wire_Meter_Take.f 2 left false n = some (false, 0, true) := by
  unfold wire_Meter_Take.f
  have h1 : ¬ n < 0 := by omega
  have h2 : n > left := h
  simp only [Bool.false_eq_true, if_false, h1, decide_false, wire_Meter_Take.j0, h2, if_true]

/-- What stands at the head of a round. -/
def Round (l : List Int) (w : World) (g : Nat) (v6 v7 v9 : Value) (wr : World) : Prop :=
  ∃ (left : Int) (out : Bool) (i : Nat), v6 = .int .i64 left ∧ v7 = .bool out ∧ v9 = .int .i64 i ∧ i ≤ l.length ∧ 0 ≤ left ∧ left < 9223372036854775808 ∧ IsS73 w wr g left out ∧ Below w.heap.size w wr

attribute [local go_sem] max2_int min2_int max_two min_two
set_option maxHeartbeats 3200000 in
set_option maxRecDepth 100000 in
theorem meters_any (a0 : Int) (A : Option Addr) (c : Nat) (l : List Int) (w : World) (ha : -9223372036854775808 ≤ a0 ∧ a0 < 9223372036854775808) (hr : Kd.C (Kd.int .i64) w A l.length l) (hc : l.length ≤ c) (hl : l.length ≤ 9223372036854775807)
    (hw : ∀ x ∈ l, (Lit.int .i64 x).wf = true) :
    Calls Try.prog 6 #[.int .i64 a0, .slice A l.length c] w fun e w' => e = .returned (.bool true) ∧ Below w.heap.size w w' := by
  have HR := Aside0.mk hr
  have HW := Aside0.mk hw
  have HA := Aside0.mk ha
  have HL := Aside0.mk hl
  clear hr hc hw ha hl
  go_enter Try.func6, Try.ntmps6
  go_wp2_with (first
    | (go_at_call 22; refine (awake01 _).mono ?_; rintro e w1 ⟨rfl, hb1⟩; have HB1 := Aside0.mk hb1; clear hb1)
    | (go_at_call 24; refine (wire_New.calls a0 _ _ w _ HB1.out rfl).mono ?_; rintro e w2 ⟨g, rfl, hs2, hb2, _⟩; have HS2 := Aside0.mk hs2; have HB2 := Aside0.mk hb2; clear hs2 hb2))
  all_goals
    go_loopw [6, 7, 9] (fun v6 v7 v9 wr => Round l w g v6 v7 v9 wr) (fun _ _ v9 _ => l.length - (intOf v9).toNat)
    case atStart =>
      have h1 := HA.out
      first
        | exact ⟨0, false, 0, rfl, rfl, rfl, Nat.zero_le _, by omega, by omega, by have := HS2.out; rwa [show mx a0 0 = 0 by unfold mx; omega] at this, HB2.out⟩
        | exact ⟨a0, false, 0, rfl, rfl, rfl, Nat.zero_le _, by omega, by omega, by have := HS2.out; rwa [show mx a0 0 = a0 by unfold mx; omega] at this, HB2.out⟩
    case round =>
      obtain ⟨left, out, i, rfl, rfl, rfl, hi, h0, hl, hs, hb⟩ := hrel
      have HI := Aside0.mk hi
      have HS := Aside0.mk hs
      have HB := Aside0.mk hb
      have HZ := Aside0.mk (And.intro h0 hl)
      have hL := HL.out
      clear hi hs hb h0 hl
      by_cases hlt : i < l.length ∧ i < 1000
      · obtain ⟨h1, h2⟩ := hlt
        obtain ⟨ad, rfl, hx⟩ := Kd.at_int (Kd.C_below HR.out HB.out) (i : Int) (by omega) (by omega)
        have hm : (rd l (i : Int)) ∈ l := by
          unfold rd; rw [show ((i : Int)).toNat = i from rfl, List.getD_eq_getElem?_getD, List.getElem?_eq_getElem h1]; exact List.getElem_mem h1
        have hwn := HW.out _ hm
        have HN : ∃ n, rd l (i : Int) = n := ⟨_, rfl⟩
        obtain ⟨n, hn⟩ := HN
        rw [hn] at hx hwn
        clear hm hn
        rw [show ((i : Int)).toNat = i from rfl] at hx
        have HWN := Aside0.mk hwn
        clear hwn
        have d1 : decide (i < l.length) = true := decide_eq_true h1
        have d2 : decide ((i : Int) < 1000) = true := decide_eq_true (by omega)
        have fin : ∀ (left' : Int) (out' : Bool) (wr' : World), 0 ≤ left' → left' < 9223372036854775808 → IsS73 w wr' g left' out' → Below w.heap.size w wr' → Round l w g (.int .i64 left') (.bool out') (.int .i64 ((i : Int) + 1)) wr' :=
          fun left' out' wr' z0 z1 z2 z3 => ⟨left', out', i + 1, rfl, rfl, by go_num, by omega, z0, z1, z2, z3⟩
        have FIN := Aside0.mk fin
        clear fin
        by_cases hneg : n < 0
        · have e1 : decide (0 ≤ n) = false := decide_eq_false (by omega)
          have hT := Aside0.mk (takeF_neg left n out hneg)
          clear hneg
          go_wp2_with (first
            | (go_at_call 25; ((with_reducible refine (wire_Meter_Take.calls 2 g _ _ n _ _ _ w _ HS.out HB.out hT.out).mono ?_); rintro e w3 ⟨rfl, hs3, hb3, _⟩; have HS3 := Aside0.mk hs3; have HB3 := Aside0.mk hb3; clear hs3 hb3))
            | (go_at_call 25; ((with_reducible refine (take_nil _ _).mono ?_); rintro e w3 ⟨rfl, rfl⟩))
            | (go_at_call 26; ((with_reducible refine (wire_Meter_Left.calls g _ _ _ _ _ w _ HS3.out HB3.out rfl).mono ?_); rintro e w4 ⟨rfl, hs4, hb4, _⟩; have HS4 := Aside0.mk hs4; have HB4 := Aside0.mk hb4; clear hs4 hb4))
            | (go_at_call 27; ((with_reducible refine (wire_Meter_Out.calls g _ _ _ _ _ w _ HS4.out HB4.out rfl).mono ?_); rintro e w5 ⟨rfl, hs5, hb5, _⟩; have HS5 := Aside0.mk hs5; have HB5 := Aside0.mk hb5; clear hs5 hb5)))
          go_roundw
          case rel => exact FIN.out _ _ _ HZ.out.1 HZ.out.2 HS5.out HB5.out
          case measure => simp [intOf]; omega
        · have e1 : decide (0 ≤ n) = true := decide_eq_true (by omega)
          cases out with
          | true =>
            have hT := Aside0.mk (takeF_out left n)
            clear hneg
            go_wp2_with (first
              | (go_at_call 25; ((with_reducible refine (wire_Meter_Take.calls 2 g _ _ n _ _ _ w _ HS.out HB.out hT.out).mono ?_); rintro e w3 ⟨rfl, hs3, hb3, _⟩; have HS3 := Aside0.mk hs3; have HB3 := Aside0.mk hb3; clear hs3 hb3))
              | (go_at_call 25; ((with_reducible refine (take_nil _ _).mono ?_); rintro e w3 ⟨rfl, rfl⟩))
              | (go_at_call 26; ((with_reducible refine (wire_Meter_Left.calls g _ _ _ _ _ w _ HS3.out HB3.out rfl).mono ?_); rintro e w4 ⟨rfl, hs4, hb4, _⟩; have HS4 := Aside0.mk hs4; have HB4 := Aside0.mk hb4; clear hs4 hb4))
              | (go_at_call 27; ((with_reducible refine (wire_Meter_Out.calls g _ _ _ _ _ w _ HS4.out HB4.out rfl).mono ?_); rintro e w5 ⟨rfl, hs5, hb5, _⟩; have HS5 := Aside0.mk hs5; have HB5 := Aside0.mk hb5; clear hs5 hb5)))
            go_roundw
            case rel => exact FIN.out _ _ _ HZ.out.1 HZ.out.2 HS5.out HB5.out
            case measure => simp [intOf]; omega
          | false =>
            by_cases hle : n ≤ left
            · have e2 : decide (n ≤ left) = true := decide_eq_true hle
              have e3 : decide (left < n) = false := decide_eq_false (by omega)
              have hbz := HZ.out
              have bd : 0 ≤ left - n ∧ left - n < 9223372036854775808 := by omega
              have HD := Aside0.mk bd
              clear bd
              have hT := Aside0.mk (takeF_yes left n (by omega) hle HZ.out.2)
              have n0 : 0 ≤ n := by omega
              go_wp2_with (first
                | (go_at_call 25; ((with_reducible refine (wire_Meter_Take.calls 2 g _ _ n _ _ _ w _ HS.out HB.out hT.out).mono ?_); rintro e w3 ⟨rfl, hs3, hb3, _⟩; have HS3 := Aside0.mk hs3; have HB3 := Aside0.mk hb3; clear hs3 hb3))
                | (go_at_call 25; ((with_reducible refine (take_nil _ _).mono ?_); rintro e w3 ⟨rfl, rfl⟩))
                | (go_at_call 26; ((with_reducible refine (wire_Meter_Left.calls g _ _ _ _ _ w _ HS3.out HB3.out rfl).mono ?_); rintro e w4 ⟨rfl, hs4, hb4, _⟩; have HS4 := Aside0.mk hs4; have HB4 := Aside0.mk hb4; clear hs4 hb4))
                | (go_at_call 27; ((with_reducible refine (wire_Meter_Out.calls g _ _ _ _ _ w _ HS4.out HB4.out rfl).mono ?_); rintro e w5 ⟨rfl, hs5, hb5, _⟩; have HS5 := Aside0.mk hs5; have HB5 := Aside0.mk hb5; clear hs5 hb5)))
              go_roundw
              case rel => exact FIN.out _ _ _ HD.out.1 HD.out.2 HS5.out HB5.out
              case measure => simp [intOf]; omega
            · have e2 : decide (n ≤ left) = false := decide_eq_false hle
              have e3 : decide (left < n) = true := decide_eq_true (by omega)
              have hT := Aside0.mk (takeF_no left n (by omega) (by omega))
              clear hle hneg
              go_wp2_with (first
                | (go_at_call 25; ((with_reducible refine (wire_Meter_Take.calls 2 g _ _ n _ _ _ w _ HS.out HB.out hT.out).mono ?_); rintro e w3 ⟨rfl, hs3, hb3, _⟩; have HS3 := Aside0.mk hs3; have HB3 := Aside0.mk hb3; clear hs3 hb3))
                | (go_at_call 25; ((with_reducible refine (take_nil _ _).mono ?_); rintro e w3 ⟨rfl, rfl⟩))
                | (go_at_call 26; ((with_reducible refine (wire_Meter_Left.calls g _ _ _ _ _ w _ HS3.out HB3.out rfl).mono ?_); rintro e w4 ⟨rfl, hs4, hb4, _⟩; have HS4 := Aside0.mk hs4; have HB4 := Aside0.mk hb4; clear hs4 hb4))
                | (go_at_call 27; ((with_reducible refine (wire_Meter_Out.calls g _ _ _ _ _ w _ HS4.out HB4.out rfl).mono ?_); rintro e w5 ⟨rfl, hs5, hb5, _⟩; have HS5 := Aside0.mk hs5; have HB5 := Aside0.mk hb5; clear hs5 hb5)))
              go_roundw
              case rel => exact FIN.out _ _ _ (by omega) (by omega) HS5.out HB5.out
              case measure => simp [intOf]; omega
      · have fin : i < l.length → decide ((i : Int) < 1000) = false := fun h => decide_eq_false (by omega)
        have H2 := Aside0.mk (show ¬ (i < l.length ∧ i < 1000) from hlt)
        clear hlt fin
        by_cases h1 : i < l.length
        · have d1 : decide (i < l.length) = true := decide_eq_true h1
          have d2 : decide ((i : Int) < 1000) = false := decide_eq_false (by have := H2.out; omega)
          go_wp2_with (first
            | (go_at_call 26; ((with_reducible refine (left_nil _).mono ?_); rintro e w3 ⟨rfl, rfl⟩))
            | (go_at_call 27; ((with_reducible refine (out_nil _).mono ?_); rintro e w3 ⟨rfl, rfl⟩))
            | (go_at_call 26; ((with_reducible refine (wire_Meter_Left.calls g _ _ _ _ _ w _ HS.out HB.out rfl).mono ?_); rintro e w4 ⟨rfl, hs4, hb4, _⟩; have HB4 := Aside0.mk hb4; clear hs4 hb4)))
          go_ret
          exact ⟨by simp, HB4.out⟩
        · have d1 : decide (i < l.length) = false := decide_eq_false h1
          go_wp2_with (first
            | (go_at_call 26; ((with_reducible refine (left_nil _).mono ?_); rintro e w3 ⟨rfl, rfl⟩))
            | (go_at_call 27; ((with_reducible refine (out_nil _).mono ?_); rintro e w3 ⟨rfl, rfl⟩))
            | (go_at_call 26; ((with_reducible refine (wire_Meter_Left.calls g _ _ _ _ _ w _ HS.out HB.out rfl).mono ?_); rintro e w4 ⟨rfl, hs4, hb4, _⟩; have HB4 := Aside0.mk hb4; clear hs4 hb4)))
          go_ret
          exact ⟨by simp, HB4.out⟩

theorem WireMeters_walk (a0 : Int) (a1 : Option Addr) (len1 cap1 : Nat) (z1 : List Int) (w : World) (w0 : (Lit.int .i64 a0).wf = true)
    (w1 : (a1 = none ∧ len1 = 0 ∧ cap1 = 0 ∧ z1 = []) ∨ ∃ x, a1 = some x ∧ len1 ≤ cap1 ∧ cap1 ≤ maxLen ∧ z1.length = cap1 ∧ (∀ i, i < z1.length → w.cell? (x.add i) = some (.int .i64 (z1.getD i 0))) ∧ ∀ n ∈ z1, (Lit.int .i64 n).wf = true)
    (y1 : len1 * 8 ≤ 140737488351232) :
    Calls Try.prog 6 #[.int .i64 a0, .slice a1 len1 cap1] w fun e w' => e = .returned (.bool true) ∧ Below w.heap.size w w' := by
  obtain ⟨l, rfl, hr, hm, hw, hc⟩ := ReadsInt.ofRowC w1
  exact meters_any a0 _ _ l w (by have := w0; simp [Lit.wf, IntKind.min, IntKind.max, IntKind.bits, IntKind.signed] at this; omega) (Kd.C_of_reads (d := (0 : Int)) (h1 := fun _ => rfl) hr) hc (by simpa [maxLen] using hm) hw

end Go.Proofs.Ytgabfoafchnpiaa.Hand
