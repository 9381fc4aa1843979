/- WireParts: the walk of the law of parts and places. -/
import Derived.Test.YtgabfoafchnpiaaWalkPart
import Derived.Test.YtgabfoafchnpiaaWalkWireBack
import Derived.Test.YtgabfoafchnpiaaQAllx5
namespace Go.Proofs.Ytgabfoafchnpiaa.Hand
open Go.RowKit Go.Proofs.Ytgabfoafchnpiaa.QAll Go.Proofs.YtgabfoafchnpiaaW.PrintWords Go.Proofs.YtgabfoafchnpiaaW.PrintLast Go.Proofs.YtgabfoafchnpiaaW.PrintMore Go.Proofs.Ytgabfoafchnpiaa.Nums
set_option linter.unusedVariables false
set_option linter.unusedSimpArgs false

theorem refwithin_f (n : Nat) (hn : n < 4611686018427387904) (a s : Int) : transomref01_Within.f (n : Int) a s = some (withinB n a s) := by
  unfold transomref01_Within.f withinB
  by_cases h0 : a ≥ 0
  · rw [if_pos h0]
    by_cases h1 : s ≥ 0
    · rw [if_pos h1]
      have g0 : decide (0 ≤ a) = true := decide_eq_true h0
      have g1 : decide (0 ≤ s) = true := decide_eq_true h1
      by_cases h2 : s ≤ (n : Int)
      · have e : wrap64 ((n : Int) - s) = (n : Int) - s := by unfold wrap64; omega
        rw [if_pos h2, e, g0, g1]; simp; omega
      · rw [if_neg h2]
        have h3 : ¬ (a + s ≤ (n : Int)) := by omega
        simp [h3]
    · rw [if_neg h1]
      have h3 : ¬ (0 ≤ s) := h1
      simp [h3]
  · rw [if_neg h0]
    have h3 : ¬ (0 ≤ a) := h0
    simp [h3]
theorem next_bad (a n m : Int) (h : a < 0 ∨ n < 0 ∨ m < a ∨ (0 ≤ a ∧ a ≤ m ∧ m < 9223372036854775808 ∧ m - a < n)) : wire_Next.f 2 a n m = some (0, false) := by
  unfold wire_Next.f
  by_cases h0 : a < 0
  · rw [if_pos h0]; simp [wire_Next.j0]
  rw [if_neg h0]
  by_cases h1 : n < 0
  · rw [if_pos h1]; simp [wire_Next.j0]
  rw [if_neg h1]
  by_cases h2 : a > m
  · rw [if_pos h2]; simp [wire_Next.j0]
  rw [if_neg h2]
  have e : wrap64 (m - a) = m - a := by unfold wrap64; omega
  have h3 : n > m - a := by omega
  rw [e, decide_eq_true h3]; simp [wire_Next.j0]
theorem next_good (a n m : Int) (h0 : 0 ≤ a) (h1 : 0 ≤ n) (h2 : a ≤ m) (h3 : n ≤ m - a) (hm : m < 9223372036854775808) : wire_Next.f 2 a n m = some (a + n, true) := by
  unfold wire_Next.f
  have e : wrap64 (m - a) = m - a := by unfold wrap64; omega
  have e' : wrap64 (a + n) = a + n := by unfold wrap64; omega
  rw [if_neg (by omega), if_neg (by omega), if_neg (by omega), e, decide_eq_false (show ¬ n > m - a by omega)]
  simp [wire_Next.j0, e']

def behind : ByteArray := ⟨#[98, 101, 104, 105, 110, 100]⟩

theorem cut_mid (A : Option Addr) (c : Nat) (L : List Int) (i j : Nat) (y : List Int) (hy : (L.drop i).take j = y) (ha : i + j ≤ L.length) (hc : L.length ≤ c) :
    ∃ (A' : Option Addr) (c' : Nat), (∀ W : World, (Instr.slice 23 (.slice A L.length c) (some (.int .i64 (i : Int))) (some (.int .i64 ((i : Int) + (j : Int)))) none).run Try.prog W = .ok (.slice A' j c') W) ∧
      (∀ w : World, Kd.C (Kd.int .u8) w A L.length L → Kd.C (Kd.int .u8) w A' j y) ∧ j ≤ c' := by
  obtain ⟨i0, hi, _, hsz, _⟩ := info_parts info5
  obtain ⟨A', h1, h2, h3⟩ := print_mid_of (P := Try.prog) (Value.int .u8) (0 : Int) 23 5 .i64 .i64 Try.underlying23 hi hsz A c L (i : Int) ((i : Int) + (j : Int)) (by omega) (by omega) (by omega) hc
  have e : (L.take ((i : Int) + (j : Int)).toNat).drop (i : Int).toNat = y := by
    rw [← hy, show ((i : Int) + (j : Int)).toNat = i + j by omega, Int.toNat_natCast, List.drop_take, Nat.add_sub_cancel_left]
  have el : y.length = j := by rw [← hy, List.length_take, List.length_drop]; omega
  rw [e, el] at h1 h2 h3
  exact ⟨A', _, h1, fun w hr => Kd.C_of_reads (h1 := fun _ => rfl) (h2 w (Kd.reads_of_C hr)), h3⟩

theorem own_cap {W : World} {base e size n c : Nat} {A : Option Addr} {xs : List Value} (h : W.ownsRow base e size (.slice A n c) n xs) : n ≤ c := by
  rcases h.2 with ⟨hv, hn⟩ | ⟨g, cap, cur, hv, _, _, hle, _⟩
  · omega
  · injection hv with _ _ hc; omega
theorem quiet0 {f : FuncId} {args : Array Value} {w : World} {n : Nat} {v : Value}
    (h : Calls Try.prog f args (w.drewN n) fun e w' => e = .returned v ∧ Drawn0 (w.drewN n) w') : Calls Try.prog f args (w.drewN n) fun e w'' => e = .returned v ∧ ∃ m, w'' = w.drewN m :=
  Calls.quiet_of (h.mono fun _ _ ⟨he, hd⟩ => ⟨he, hd.out⟩)

attribute [local go_sem] max2_int min2_int max_two min_two
set_option maxHeartbeats 3200000 in
set_option maxRecDepth 100000 in
theorem parts_any (A : Option Addr) (c : Nat) (l : List Int) (a n m : Int) (w : World) (ha : -9223372036854775808 ≤ a ∧ a < 9223372036854775808) (hn : -9223372036854775808 ≤ n ∧ n < 9223372036854775808) (hm : -9223372036854775808 ≤ m ∧ m < 9223372036854775808)
    (hr : Kd.C (Kd.int .u8) w A l.length l) (hc : l.length ≤ c) (h1000 : l.length ≤ 1000) :
    Calls Try.prog 8 #[.slice A l.length c, .int .i64 a, .int .i64 n, .int .i64 m] w fun e w' => e = .returned (.bool true) ∧ Below w.heap.size w w' := by
  have HR := Aside0.mk hr
  have HC := Aside0.mk hc
  have HL := Aside0.mk h1000
  have HA := Aside0.mk ha
  have HN := Aside0.mk hn
  have HM := Aside0.mk hm
  have d0 : decide ((1000 : Int) < (l.length : Int)) = false := decide_eq_false (by omega)
  have d0' : decide (1000 < l.length) = false := decide_eq_false (by omega)
  have hLn : (l.length : Int) ≤ 1000 := by omega
  clear hr hc h1000 ha hn hm
  go_enter Try.func8, Try.ntmps8
  obtain ⟨i0, hi, hz0, hz1, hz2⟩ := info_parts info5
  go_upto_region 6 with (first
    | (go_at_call 22; refine (awake01 _).mono ?_; rintro e w1 ⟨rfl, hb1⟩; have HB1 := Aside0.mk hb1; clear hb1)
    | (at_make; refine wpList_make_own _ rfl _ _ 23 rfl w1.heap.size 5 i0 (.int .u8 0) 1 Try.underlying23 hi hz0 hz1 .i64 .i64 _ (l.length + 9) rfl rfl (by omega) (by rw [hz2]; omega) (by unfold maxLen; omega) (Nat.le_refl _) ?_; intro w2 hown2 hgrow2; have HO2 := Aside0.mk (show Kd.R (Kd.int .u8) 5 w2 w1.heap.size (fun _ => True) (.slice (some ⟨w1.heap.size, 0, none⟩) 0 (l.length + 9)) [] from Kd.R_of_own (enc := Value.int .u8) (h1 := fun _ => rfl) (xs := ([] : List Int)) hown2 (fun _ _ => trivial)); have HG2 := Aside0.mk (show Below w1.heap.size w1 w2 from (Below.refl _ _).grown hgrow2 (Nat.le_refl _) (fun _ h => by cases h)); clear hown2 hgrow2)
    | ((with_reducible refine gate_builtin (b := .append) (xs := #[.tmp 22, .tmp 23]) rfl ?_); at_builtin; refine Kd.R_append_rows (Kd.int .u8) (w0 := w1) w1.heap.size rfl (.tmp 22) (.tmp 23) 23 5 (.int .u8 0) 1 rfl Try.underlying23 info5 rfl (by decide) (by omega) (.slice (some ⟨w1.heap.size, 0, none⟩) 0 (l.length + 9)) [] l _ _ _ (fun _ => True) (fun _ => False) rfl rfl HO2.out (Kd.C_below HR.out (below_then HB1.out HB1.out.size HG2.out)) (fun _ _ h => h) (fun _ h => h.elim) (fun _ _ => trivial) HG2.out HG2.out.size (by have := HL.out; simp; omega) ?_; intro v24 w3 ho hb hg hat; clear hg hat; rw [List.nil_append] at ho; have HO3 := Aside0.mk (show w3.ownsRow w1.heap.size 5 1 v24 l.length (nums .u8 l) from Kd.own_of_R ho); have HB3 := Aside0.mk hb; clear ho hb)
    | (at_builtin; refine print_append_str (w0 := w1) w1.heap.size rfl (.tmp 24) (.const (.string behind)) 23 9 5 rfl Try.underlying23 Try.underlying9 info5 v24 l behind rfl rfl HO3.out HB3.out HB3.out.size (by have := HL.out; have : behind.size = 6 := rfl; omega) ?_; intro v25 w4 ho hb hg; clear hg; obtain ⟨A4, c4, rfl, hr4⟩ := own_reads ho; have HR4 := Aside0.mk (show Kd.C (Kd.int .u8) w4 A4 (l ++ bytesOf behind).length (l ++ bytesOf behind) from Kd.C_of_reads (d := (0 : Int)) (h1 := fun _ => rfl) hr4); have HO4 := Aside0.mk ho; have HB4 := Aside0.mk hb; clear ho hb hr4
       obtain ⟨t1, t2, t3⟩ := cut_take A4 c4 (l ++ bytesOf behind) _ rfl l.length l (by simp) (by simp) (own_cap HO4.out); have HRP := Aside0.mk (t2 w4 HR4.out); have HCP := Aside0.mk t3; clear t2))
  have hAb := HA.out
  have hNb := HN.out
  have hMb := HM.out
  by_cases hin : withinB l.length a n = true
  · obtain ⟨a0, n0, hle⟩ := (withinB_iff _ _ _).1 hin
    obtain ⟨i, rfl⟩ := Int.eq_ofNat_of_zero_le a0
    obtain ⟨j, rfl⟩ := Int.eq_ofNat_of_zero_le n0
    have HIJ : Aside0 (i + j ≤ l.length) := ⟨by omega⟩
    have HWI := Aside0.mk ((refwithin_f l.length (by omega) i j).trans (by rw [hin]))
    clear hin
    go_upto_region 9 with (first
      | (go_at_call 30; (with_reducible refine (part_in A4 c4 l i j _ HRP.out HCP.out (by omega) HIJ.out).mono ?_); rintro e w5 ⟨A5, rfl, hd, hC⟩; have HD5 := Aside0.mk hd; have HC5 := Aside0.mk hC; clear hd hC))
    obtain ⟨y, hy⟩ : ∃ y, (l.drop i).take j = y := ⟨_, rfl⟩
    obtain ⟨A6, c6, t4, t5, _⟩ := cut_mid A c l i j y hy HIJ.out HC.out
    have r5 : Kd.C (Kd.int .u8) w5 A5 j y := by rw [← hy]; exact HC5.out w5 (Kd.C_below HRP.out HD5.out.below)
    have r6 : Kd.C (Kd.int .u8) w5 A6 j y := t5 w5 (Kd.C_below HR.out (below_then (below_then HB1.out HB1.out.size HB4.out) (Nat.le_trans HB1.out.size HB4.out.size) HD5.out.below))
    have v1 : ∀ m : Nat, (convert 23 9 (.slice A5 j j)).run Try.prog (w5.drewN m) = .ok (.string (strOfNums y)) (w5.drewN m) := fun m => Kd.C_string (P := Try.prog) Try.underlying23 Try.underlying5 Try.underlying9 (Kd.C_drewN r5 m)
    have v2 : ∀ m : Nat, (convert 23 9 (.slice A6 j c6)).run Try.prog (w5.drewN m) = .ok (.string (strOfNums y)) (w5.drewN m) := fun m => Kd.C_string (P := Try.prog) Try.underlying23 Try.underlying5 Try.underlying9 (Kd.C_drewN r6 m)
    have z1 : ((strOfNums y).toList != (strOfNums y).toList) = false := bne_self_eq_false _
    have z2 : ((j : Int) != (j : Int)) = false := bne_self_eq_false _
    have hijb : (i : Int) + (j : Int) ≤ 1000 := by have := HIJ.out; omega
    have w1' : IntKind.i64.wrap ((i : Int) + (j : Int)) = (i : Int) + (j : Int) := IntWalk.i64_in _ (by omega)
    have HBF := Aside0.mk (below_then (below_then HB1.out HB1.out.size HB4.out) (Nat.le_trans HB1.out.size HB4.out.size) HD5.out.below)
    clear t5 r5 r6 hy
    go_quiet ((go_at_call 31; exact quiet0 (transomref01_Within.calls _ _ _ _ _ HWI.out)))
    have five : (i : Int) < 0 ∨ (0 ≤ (i : Int) ∧ (j : Int) < 0) ∨ (0 ≤ (i : Int) ∧ 0 ≤ (j : Int) ∧ m < (i : Int)) ∨ (0 ≤ (i : Int) ∧ 0 ≤ (j : Int) ∧ (i : Int) ≤ m ∧ m - (i : Int) < (j : Int)) ∨ (0 ≤ (i : Int) ∧ 0 ≤ (j : Int) ∧ (i : Int) ≤ m ∧ (j : Int) ≤ m - (i : Int)) := by omega
    rcases five with q0 | ⟨q0, q1⟩ | ⟨q0, q1, q2⟩ | ⟨q0, q1, q2, q3⟩ | ⟨q0, q1, q2, q3⟩
    · have hn := Aside0.mk (next_bad (i : Int) (j : Int) m (.inl q0))
      go_wp2_with (go_at_call 32; (with_reducible refine (wire_Next.calls 2 _ _ _ _ _ _ hn.out).mono ?_); rintro e w6 ⟨rfl, ⟨nd, rfl⟩⟩)
      go_ret
      exact ⟨by simp, by go_simp; exact pw_below_drewN HBF.out _⟩
    · have hn := Aside0.mk (next_bad (i : Int) (j : Int) m (.inr (.inl q1)))
      go_wp2_with (go_at_call 32; (with_reducible refine (wire_Next.calls 2 _ _ _ _ _ _ hn.out).mono ?_); rintro e w6 ⟨rfl, ⟨nd, rfl⟩⟩)
      go_ret
      exact ⟨by simp, by go_simp; exact pw_below_drewN HBF.out _⟩
    · have hn := Aside0.mk (next_bad (i : Int) (j : Int) m (.inr (.inr (.inl q2))))
      go_wp2_with (go_at_call 32; (with_reducible refine (wire_Next.calls 2 _ _ _ _ _ _ hn.out).mono ?_); rintro e w6 ⟨rfl, ⟨nd, rfl⟩⟩)
      go_ret
      exact ⟨by simp, by go_simp; exact pw_below_drewN HBF.out _⟩
    · have hn := Aside0.mk (next_bad (i : Int) (j : Int) m (.inr (.inr (.inr ⟨q0, q2, HM.out.2, q3⟩))))
      go_wp2_with (go_at_call 32; (with_reducible refine (wire_Next.calls 2 _ _ _ _ _ _ hn.out).mono ?_); rintro e w6 ⟨rfl, ⟨nd, rfl⟩⟩)
      go_ret
      exact ⟨by simp, by go_simp; exact pw_below_drewN HBF.out _⟩
    · have hn := Aside0.mk (next_good (i : Int) (j : Int) m q0 q1 q2 q3 HM.out.2)
      go_wp2_with (go_at_call 32; (with_reducible refine (wire_Next.calls 2 _ _ _ _ _ _ hn.out).mono ?_); rintro e w6 ⟨rfl, ⟨nd, rfl⟩⟩)
      go_ret
      exact ⟨by simp, by go_simp; exact pw_below_drewN HBF.out _⟩
  · have hin' : withinB l.length a n = false := by simpa using hin
    have HIN := Aside0.mk hin'
    have HWI := Aside0.mk ((refwithin_f l.length (by omega) a n).trans (by rw [hin']))
    clear hin hin'
    go_upto_region 7 with (first
      | (go_at_call 30; (with_reducible refine (part_out A4 c4 l a n _ HRP.out HCP.out (by omega) HIN.out).mono ?_); rintro e w5 ⟨rfl, hd⟩; have HD5 := Aside0.mk hd; clear hd))
    have HBF := Aside0.mk (below_then (below_then HB1.out HB1.out.size HB4.out) (Nat.le_trans HB1.out.size HB4.out.size) HD5.out.below)
    go_quiet ((go_at_call 31; exact quiet0 (transomref01_Within.calls _ _ _ _ _ HWI.out)))
    have five : a < 0 ∨ (0 ≤ a ∧ n < 0) ∨ (0 ≤ a ∧ 0 ≤ n ∧ m < a) ∨ (0 ≤ a ∧ 0 ≤ n ∧ a ≤ m ∧ m - a < n) ∨ (0 ≤ a ∧ 0 ≤ n ∧ a ≤ m ∧ n ≤ m - a) := by omega
    rcases five with q0 | ⟨q0, q1⟩ | ⟨q0, q1, q2⟩ | ⟨q0, q1, q2, q3⟩ | ⟨q0, q1, q2, q3⟩
    · have hn := Aside0.mk (next_bad a n m (.inl q0))
      go_wp2_with (go_at_call 32; (with_reducible refine (wire_Next.calls 2 _ _ _ _ _ _ hn.out).mono ?_); rintro e w6 ⟨rfl, ⟨nd, rfl⟩⟩)
      go_ret
      exact ⟨by simp, by go_simp; exact pw_below_drewN HBF.out _⟩
    · have hn := Aside0.mk (next_bad a n m (.inr (.inl q1)))
      go_wp2_with (go_at_call 32; (with_reducible refine (wire_Next.calls 2 _ _ _ _ _ _ hn.out).mono ?_); rintro e w6 ⟨rfl, ⟨nd, rfl⟩⟩)
      go_ret
      exact ⟨by simp, by go_simp; exact pw_below_drewN HBF.out _⟩
    · have hn := Aside0.mk (next_bad a n m (.inr (.inr (.inl q2))))
      go_wp2_with (go_at_call 32; (with_reducible refine (wire_Next.calls 2 _ _ _ _ _ _ hn.out).mono ?_); rintro e w6 ⟨rfl, ⟨nd, rfl⟩⟩)
      go_ret
      exact ⟨by simp, by go_simp; exact pw_below_drewN HBF.out _⟩
    · have hn := Aside0.mk (next_bad a n m (.inr (.inr (.inr ⟨q0, q2, HM.out.2, q3⟩))))
      go_wp2_with (go_at_call 32; (with_reducible refine (wire_Next.calls 2 _ _ _ _ _ _ hn.out).mono ?_); rintro e w6 ⟨rfl, ⟨nd, rfl⟩⟩)
      go_ret
      exact ⟨by simp, by go_simp; exact pw_below_drewN HBF.out _⟩
    · have hn := Aside0.mk (next_good a n m q0 q1 q2 q3 HM.out.2)
      go_wp2_with (go_at_call 32; (with_reducible refine (wire_Next.calls 2 _ _ _ _ _ _ hn.out).mono ?_); rintro e w6 ⟨rfl, ⟨nd, rfl⟩⟩)
      go_ret
      exact ⟨by simp, by go_simp; exact pw_below_drewN HBF.out _⟩

set_option maxHeartbeats 1600000 in
theorem parts_large (A : Option Addr) (c : Nat) (l : List Int) (a n m : Int) (w : World) (h1000 : 1000 < l.length) :
    Calls Try.prog 8 #[.slice A l.length c, .int .i64 a, .int .i64 n, .int .i64 m] w fun e w' => e = .returned (.bool true) ∧ Below w.heap.size w w' := by
  have d0 : decide ((1000 : Int) < (l.length : Int)) = true := decide_eq_true (by omega)
  have d0' : decide (1000 < l.length) = true := decide_eq_true (by omega)
  clear h1000
  go_enter Try.func8, Try.ntmps8
  go_wp2_with (first
    | (go_at_call 22; refine (awake01 _).mono ?_; rintro e w1 ⟨rfl, hb1⟩; have HB1 := Aside0.mk hb1; clear hb1))
  go_ret
  exact ⟨rfl, HB1.out⟩

theorem WireParts_walk (a0 : Option Addr) (len0 cap0 : Nat) (z0 : List Int) (a1 a2 a3 : Int) (w : World)
    (w0 : (a0 = none ∧ len0 = 0 ∧ cap0 = 0 ∧ z0 = []) ∨ ∃ x, a0 = some x ∧ len0 ≤ cap0 ∧ cap0 ≤ maxLen ∧ z0.length = cap0 ∧ (∀ i, i < z0.length → w.cell? (x.add i) = some (.int .u8 (z0.getD i 0))) ∧ ∀ n ∈ z0, (Lit.int .u8 n).wf = true)
    (y0 : len0 * 1 ≤ 140737488351232) (w1 : (Lit.int .i64 a1).wf = true) (w2 : (Lit.int .i64 a2).wf = true) (w3 : (Lit.int .i64 a3).wf = true) :
    Calls Try.prog 8 #[.slice a0 len0 cap0, .int .i64 a1, .int .i64 a2, .int .i64 a3] w fun e w' => e = .returned (.bool true) ∧ Below w.heap.size w w' := by
  obtain ⟨l, rfl, hr, hm, hw, hc⟩ := ReadsInt.ofRowC w0
  by_cases h : l.length ≤ 1000
  · exact parts_any _ _ l a1 a2 a3 w (U.wf_i64 w1) (U.wf_i64 w2) (U.wf_i64 w3) (Kd.C_of_reads (d := (0 : Int)) (h1 := fun _ => rfl) hr) hc h
  · exact parts_large _ _ l a1 a2 a3 w (by omega)
end Go.Proofs.Ytgabfoafchnpiaa.Hand
