/- WireLoads: the walk of the law of numbers read and written at any places. -/
import Derived.Test.YtgabfoafchnpiaaWalkWireParts
import Derived.Test.YtgabfoafchnpiaaOwn
import Derived.Test.YtgabfoafchnpiaaQAllx6
import Derived.Test.YtgabfoafchnpiaaQAllx7
import Derived.Deep.RegionLaw
namespace Go.Proofs.Ytgabfoafchnpiaa.Hand
open Go.RowKit Go.Proofs.Ytgabfoafchnpiaa.QAll Go.Proofs.YtgabfoafchnpiaaW.PrintWords Go.Proofs.YtgabfoafchnpiaaW.PrintLast Go.Proofs.YtgabfoafchnpiaaW.PrintMore Go.Proofs.Ytgabfoafchnpiaa.Nums
set_option linter.unusedVariables false
set_option linter.unusedSimpArgs false

theorem refsized_f (s : Int) : transomref01_Sized.f s = some (sizedB s) := by
  by_cases h : 0 < s ∧ s ≤ 8
  · have key : ∀ n : Fin 9, 0 < n.val → transomref01_Sized.f (n.val : Int) = some (sizedB (n.val : Int)) := by decide +kernel
    obtain ⟨t, rfl⟩ := Int.eq_ofNat_of_zero_le (show 0 ≤ s by omega)
    exact key ⟨t, by omega⟩ (by simp; omega)
  · have hb : sizedB s = false := by
      cases hs : sizedB s with
      | false => rfl
      | true => have := sized_le hs; omega
    unfold transomref01_Sized.f
    rw [hb]
    by_cases h0 : s > 0
    · rw [if_pos h0, if_neg (by omega)]
    · rw [if_neg h0]

theorem refnum_loop (l : List Int) (hb : ∀ x ∈ l, 0 ≤ x ∧ x < 256) (h8 : l.length ≤ 8) : ∀ (d i k : Nat), i + d = l.length → d < k →
    transomref01_Num.l0 k l (leN (l.take i)) (i : Int) = some (leN l) := by
  intro d
  induction d with
  | zero =>
    intro i k hi hk
    obtain ⟨k, rfl⟩ : ∃ m, k = m + 1 := ⟨k - 1, by omega⟩
    simp only [transomref01_Num.l0]; rw [if_neg (by omega), List.take_of_length_le (by omega)]
  | succ d ih =>
    intro i k hi hk
    obtain ⟨k, rfl⟩ : ∃ m, k = m + 1 := ⟨k - 1, by omega⟩
    have e8 : wrap64 (8 * (i : Int)) = ((8 * i : Nat) : Int) := by unfold wrap64; omega
    have e1 : wrap64 ((i : Int) + 1) = ((i + 1 : Nat) : Int) := by unfold wrap64; omega
    have hm := hb _ (rd_mem l i (by omega))
    have ht := leN_bound (l.take (i + 1)) (fun x hx => hb x (List.mem_of_mem_take hx))
    have hs : leN (l.take (i + 1)) = leN (l.take i) + l[i] * 256 ^ i := by
      rw [List.take_succ_eq_append_getElem (by omega), leN_snoc, List.length_take, Nat.min_eq_left (by omega)]
    have hl : (l.take (i + 1)).length = i + 1 := by rw [List.length_take]; omega
    have hp : (256 : Int) ^ (i + 1) ≤ 18446744073709551616 := by
      have h : (256 : Nat) ^ (i + 1) ≤ 18446744073709551616 := Nat.le_trans (Nat.pow_le_pow_right (by decide) (show i + 1 ≤ 8 by omega)) (by decide)
      rw [show (256 : Int) ^ (i + 1) = ((256 ^ (i + 1) : Nat) : Int) from (Int.natCast_pow 256 _).symm]
      exact Int.ofNat_le.2 h
    have h0 := leN_bound (l.take i) (fun x hx => hb x (List.mem_of_mem_take hx))
    rw [hl] at ht
    rw [rd_eq l i (by omega)] at hm
    have hpos : (0 : Int) < 256 ^ i := Int.pow_pos (by decide)
    have hle : l[i] * 256 ^ i < 18446744073709551616 := by
      have := h0.1; omega
    have hnn : 0 ≤ l[i] * 256 ^ i := Int.mul_nonneg hm.1 (by omega)
    have hsh : shl .u64 (IntKind.u64.wrap (rd l (i : Int))) ((8 * i : Nat) : Int) = l[i] * 256 ^ i := by
      rw [rd_eq l i (by omega)]
      unfold shl
      rw [U.wrap_u64, U.wrap_u64, Int.emod_eq_of_lt hm.1 (by omega), show min ((8 * i : Nat) : Int).toNat IntKind.u64.bits = 8 * i by simp [IntKind.bits]; omega, Int.pow_mul]
      rw [show (2 : Int) ^ 8 = 256 from rfl, Int.emod_eq_of_lt hnn hle]
    simp only [transomref01_Num.l0]
    rw [if_pos (by omega), if_pos (by omega), e8, if_pos (by omega), hsh, e1, U.wrap_u64, Int.emod_eq_of_lt (by omega) (by omega), ← hs]
    exact ih (i + 1) k (by omega) (by omega)
theorem refnum_f (l : List Int) (hb : ∀ x ∈ l, 0 ≤ x ∧ x < 256) (h8 : l.length ≤ 8) : transomref01_Num.f 10 l = some (leN l) := by
  have h := refnum_loop l hb h8 l.length 0 10 (by omega) (by omega)
  rw [List.take_zero] at h
  exact h

theorem refput_loop (n : Int) (s : Nat) (h8 : s ≤ 8) : ∀ (j i k : Nat) (x : List Int), i + j = s → x.length = s → j < k →
    transomref01_Put.l0 k n (s : Int) x (i : Int) = some (x.take i ++ leB (n / 256 ^ i) j) := by
  intro j
  induction j with
  | zero =>
    intro i k x hi hx hk
    obtain ⟨k, rfl⟩ : ∃ m, k = m + 1 := ⟨k - 1, by omega⟩
    obtain rfl : i = s := by omega
    simp only [transomref01_Put.l0]; rw [if_neg (by omega), List.take_of_length_le (by omega)]; simp [leB]
  | succ j ih =>
    intro i k x hi hx hk
    obtain ⟨k, rfl⟩ : ∃ m, k = m + 1 := ⟨k - 1, by omega⟩
    simp only [transomref01_Put.l0]
    have e8 : wrap64 (8 * (i : Int)) = ((8 * i : Nat) : Int) := by unfold wrap64; omega
    have e1 : wrap64 ((i : Int) + 1) = ((i + 1 : Nat) : Int) := by unfold wrap64; omega
    have es : shr .u64 n ((8 * i : Nat) : Int) = n / 256 ^ i := by
      unfold shr
      rw [show min ((8 * i : Nat) : Int).toNat IntKind.u64.bits = 8 * i by simp [IntKind.bits]; omega, Int.pow_mul]; rfl
    rw [if_pos (by omega), e8, e1, es, if_pos (by omega), if_pos (by omega), if_pos (by omega), Int.toNat_natCast, ih (i + 1) k _ (by omega) (by rw [List.length_set]; exact hx) (by omega)]
    congr 1
    rw [List.take_succ_eq_append_getElem (by rw [List.length_set]; omega), List.getElem_set_self, List.take_set_of_le (Nat.le_refl _)]
    simp only [leB, List.append_assoc, List.cons_append, List.nil_append]
    rw [Int.pow_succ, Int.ediv_ediv_of_nonneg (Int.le_of_lt (Int.pow_pos (by decide)))]
theorem refput_f (n s : Int) (h0 : 0 ≤ s) (h8 : s ≤ 8) : transomref01_Put.f 10 n s = some (leB n s.toNat) := by
  obtain ⟨t, rfl⟩ := Int.eq_ofNat_of_zero_le h0
  unfold transomref01_Put.f
  rw [if_pos h0, if_pos (by simp; omega), Int.toNat_natCast]
  have h := refput_loop n t (by omega) t 0 10 (List.replicate t 0) (by omega) (by simp) (by omega)
  simpa using h

attribute [local go_sem] max2_int min2_int max_two min_two
set_option maxHeartbeats 3200000 in
set_option maxRecDepth 100000 in
theorem loads_any (A : Option Addr) (c : Nat) (l : List Int) (a s n : Int) (w : World) (ha : -9223372036854775808 ≤ a ∧ a < 9223372036854775808) (hs : -9223372036854775808 ≤ s ∧ s < 9223372036854775808) (hn : 0 ≤ n ∧ n < 18446744073709551616)
    (hr : Kd.C (Kd.int .u8) w A l.length l) (hc : l.length ≤ c) (hb : ∀ x ∈ l, 0 ≤ x ∧ x < 256) (h1000 : l.length ≤ 1000) :
    Calls Try.prog 11 #[.slice A l.length c, .int .i64 a, .int .i64 s, .int .u64 n] w fun e w' => e = .returned (.bool true) ∧ Below w.heap.size w w' := by
  have HR := Aside0.mk hr
  have HC := Aside0.mk hc
  have HY := Aside0.mk hb
  have HL := Aside0.mk h1000
  have HA := Aside0.mk ha
  have HS := Aside0.mk hs
  have HN := Aside0.mk hn
  have d0 : decide ((1000 : Int) < (l.length : Int)) = false := decide_eq_false (by omega)
  have d0' : decide (1000 < l.length) = false := decide_eq_false (by omega)
  clear hr hc hb h1000 ha hs hn
  have HRS := Aside0.mk (refsized_f s)
  have HRW := Aside0.mk (refwithin_f l.length (by have := HL.out; omega) a s)
  by_cases hin : sizedB s = true ∧ withinB l.length a s = true
  · obtain ⟨i1, i2⟩ := hin
    obtain ⟨a0, _, hle⟩ := (withinB_iff _ _ _).1 i2
    obtain ⟨s1, s8⟩ := sized_le i1
    obtain ⟨i, rfl⟩ := Int.eq_ofNat_of_zero_le a0
    obtain ⟨t, rfl⟩ := Int.eq_ofNat_of_zero_le (show 0 ≤ s by omega)
    rw [i1] at HRS
    rw [i2] at HRW
    have HPL : Aside0 (i + t ≤ l.length ∧ 1 ≤ t ∧ t ≤ 8) := ⟨by omega⟩
    have hLn : l.length ≤ 1000 := HL.out
    obtain ⟨y, hy⟩ : ∃ y, (l.drop i).take t = y := ⟨_, rfl⟩
    have hyl : y.length = t := by rw [← hy, List.length_take, List.length_drop]; omega
    have HNUM := Aside0.mk (refnum_f y (by rw [← hy]; exact fun x hx => HY.out x (List.mem_of_mem_drop (List.mem_of_mem_take hx))) (by omega))
    obtain ⟨A6, c6, t4, t5, t6⟩ := cut_mid A c l i t y hy (by omega) HC.out
    have HT5 := Aside0.mk t5
    clear t5
    go_enter Try.func11, Try.ntmps11
    go_upto_region 10 with (first
      | (go_at_call 22; refine (awake01 _).mono ?_; rintro e w1 ⟨rfl, hb1⟩; have HB1 := Aside0.mk hb1; clear hb1)
      | (go_at_call 40; (with_reducible refine (transomref01_Sized.calls _ _ _ HRS.out).mono ?_); rintro e w2 ⟨rfl, ⟨nd, rfl⟩⟩)
      | (go_at_call 31; (with_reducible refine (transomref01_Within.calls _ _ _ _ _ HRW.out).mono ?_); rintro e w2 ⟨rfl, ⟨nd2, rfl⟩⟩)
      | ((with_reducible refine gate_dst (N := 29) rfl ?_); refine Kd.R_lit (Kd.int .u8) _ 5 ?hg (N := 29) ?hd (xs := ([] : List Int)) (inner := []) (ok := fun _ => True) (okp := fun _ => True) ?hr ?hp (fun _ hk => hk) trivial (Below.refl _ _) (Nat.le_refl _) (by simp) ?_; (case hd => rfl); (case hg => rfl); (case hr => first | (go_simp; done) | (go_simp; rfl)); (case hp => exact (Reps.none _ _)); intro v29 w20 ho_ hb_ hg_ hnew_; clear hg_ hnew_; have HO29 := Aside0.mk (Kd.R_lower ho_ (pw_below_drewN (Below.refl w1.heap.size w1) _).size); have HB29 := Aside0.mk (below_then (pw_below_drewN (Below.refl w1.heap.size w1) _) (pw_below_drewN (Below.refl w1.heap.size w1) _).size hb_); clear ho_ hb_)
      | ((with_reducible refine gate_builtin (b := .append) (xs := #[.tmp 29, .tmp 30]) rfl ?_); at_builtin; refine Kd.R_append_rows (Kd.int .u8) (w0 := w1) w1.heap.size rfl (.tmp 29) (.tmp 30) 23 5 (.int .u8 0) 1 rfl Try.underlying23 info5 rfl (by decide) (by omega) v29 [] l _ _ _ (fun _ => True) (fun _ => False) rfl rfl HO29.out (Kd.C_below HR.out (below_then HB1.out HB1.out.size HB29.out)) (fun _ _ h => h) (fun _ h => h.elim) (fun _ _ => trivial) HB29.out HB29.out.size (by have := HL.out; simp; omega) ?_; intro v_ w22 ho_ hb_ hg_ hat_; clear hg_ hat_; rw [List.nil_append] at ho_; obtain ⟨A2, c2, rfl⟩ := Kd.R_slice ho_; have HO30 := Aside0.mk ho_; have HB30 := Aside0.mk hb_; clear ho_ hb_)
      | (go_at_call 42; refine calls_of_args (args' := #[.slice A6 y.length c6]) (by rw [hyl]) ?_; (with_reducible refine (transomref01_Num.calls 10 A6 c6 y _ _ (by rw [hyl]; exact HT5.out _ (Kd.C_below HR.out (below_then HB1.out HB1.out.size HB30.out))) (by rw [hyl]; exact t6) HNUM.out).mono ?_); rintro e w23 ⟨rfl, hd23⟩; have HD23 := Aside0.mk hd23; clear hd23))
    have ho23 := Kd.own_of_R (Kd.R_below HO30.out HD23.out.below)
    obtain ⟨g, cap, cur, hv, hgb, hgl, hgc, hgm, hgh, hcl, hct⟩ := own_open (v := .slice A2 l.length c2) ho23 (by have := HPL.out; omega)
    injection hv with hv1 _ hv2
    subst hv1 hv2
    have HO23 := Aside0.mk (show w23.ownsRow w1.heap.size 5 1 (.slice (some ⟨g, 0, none⟩) l.length c2) l.length (nums .u8 l) from ho23)
    have HGB := Aside0.mk hgb
    have hgc' : l.length ≤ c2 := hgc
    have HPUT := Aside0.mk (refput_f n t (by omega) (by have := HPL.out; omega))
    have hlt : i < l.length := by have := HPL.out; omega
    clear hgh hgb hgl hgc hgm hcl hct ho23
    have e25 : ∀ w24, Below w23.heap.size w23 w24 → ∀ (A5 : Option Addr) (c5 : Nat), Kd.C (Kd.int .u8) w24 A5 (leB n t).length (leB n t) →
        ∃ w25, (Builtin.copy_ #[23, 23] 3 #[.slice (some ⟨g, i, none⟩) (l.length - i) (c2 - i), .slice A5 (leB n t).length c5]).run Try.prog w24 = .ok (.int .i64 ((leB n t).length : Int)) w25 ∧
          w25.ownsRow w1.heap.size 5 1 (.slice (some ⟨g, 0, none⟩) l.length c2) l.length (nums .u8 (put_ l i (leB n t))) ∧ Below w1.heap.size w1 w25 := by
      intro w24 hb A5 c5 hr
      obtain ⟨w25, h1, h2, h3⟩ := copy_mid (pw_own_below HO23.out hb) i (by rw [leB_length]; exact HPL.out.1) A5 c5 (c2 - i) (some ⟨g, i, none⟩) (fun _ => rfl) hr
      refine ⟨w25, h1, h2, ?_⟩
      have hb24 : Below w1.heap.size w1 w24 := below_then (below_then HB30.out HB30.out.size HD23.out.below) (Nat.le_trans HB30.out.size HD23.out.below.size) hb
      exact hb24.grown h3 hb24.size (fun k hk => by injection hk with hk; rw [← hk]; exact HGB.out)
    have HE25 := Aside0.mk e25
    clear e25
    go_region_with (first
      | (go_at_call 41; (with_reducible refine (transomref01_Put.calls 10 _ _ _ _ HPUT.out).mono ?_); rintro e w24 ⟨v45, rfl, hr45, hb45⟩; obtain ⟨A5, c5, rfl⟩ := Kd.R_slice hr45; obtain ⟨w25, hcp, ho25, hb25⟩ := HE25.out w24 (below_then (below_drew (Below.refl w23.heap.size w23)) (Nat.le_refl _) hb45) A5 c5 (Kd.R_reads' hr45).2.2; have HO25 := Aside0.mk ho25; have HB25 := Aside0.mk hb25; clear hr45 hb45 ho25 hb25))
    all_goals
      have HBW25 := Aside0.mk (below_then HB1.out HB1.out.size HB25.out)
      have HLV : Aside0 (loadV l (i : Int) (t : Int) = (leN y, true)) := ⟨by unfold loadV; rw [i1, i2]; simp only [Bool.and_self, if_true, Int.toNat_natCast]; rw [hy]⟩
      have HSV : Aside0 (storeV l (i : Int) (t : Int) n = (true, put_ l i (leB n t))) := ⟨by unfold storeV put_; rw [i1, i2]; simp only [Bool.and_self, if_true, Int.toNat_natCast, leB_length]⟩
      have HSZ : Aside0 (wire_Sized.f (t : Int) = some true) := ⟨by rw [sized_f, i1]⟩
      have HWF : Aside0 (wire_Within.f l (i : Int) (t : Int) = some true) := ⟨by rw [within_f l (by have := HL.out; omega), i2]⟩
      have zz1 : (leN y != leN y) = false := bne_self_eq_false _
      have zz2 : ((strOfNums l).toList != (strOfNums l).toList) = false := bne_self_eq_false _
      clear hy hyl t4 t6
      go_wp2_with (first
        | ((with_reducible refine gate_dst (N := 47) rfl ?_); refine Kd.R_lit (Kd.int .u8) _ 5 ?hg (N := 47) ?hd (xs := ([] : List Int)) (inner := []) (ok := fun _ => True) (okp := fun _ => True) ?hr ?hp (fun _ hk => hk) trivial (Below.refl _ _) (Nat.le_refl _) (by simp) ?_; (case hd => rfl); (case hg => rfl); (case hr => first | (go_simp; done) | (go_simp; rfl)); (case hp => exact (Reps.none _ _)); intro v47 w26 ho_ hb_ hg_ hnew_; clear hg_ hnew_; have HO47 := Aside0.mk (Kd.R_lower ho_ (Below.refl w25.heap.size w25).size); have HB47 := Aside0.mk (below_then (Below.refl w25.heap.size w25) (Below.refl w25.heap.size w25).size hb_); clear ho_ hb_)
        | ((with_reducible refine gate_builtin (b := .append) (xs := #[.tmp 47, .tmp 48]) rfl ?_); at_builtin; refine Kd.R_append_rows (Kd.int .u8) (w0 := w25) w25.heap.size rfl (.tmp 47) (.tmp 48) 23 5 (.int .u8 0) 1 rfl Try.underlying23 info5 rfl (by decide) (by omega) v47 [] l _ _ _ (fun _ => True) (fun _ => False) rfl rfl HO47.out (Kd.C_below HR.out (below_then HBW25.out HBW25.out.size HB47.out)) (fun _ _ h => h) (fun _ h => h.elim) (fun _ _ => trivial) HB47.out HB47.out.size (by have := HL.out; simp; omega) ?_; intro v_ w27 ho_ hb_ hg_ hat_; clear hg_ hat_; rw [List.nil_append] at ho_; obtain ⟨A8, c8, rfl⟩ := Kd.R_slice ho_; have HO48 := Aside0.mk ho_; have HB48 := Aside0.mk hb_; clear ho_ hb_
           have vs1 : ∀ m : Nat, (convert 23 9 (.slice A8 l.length c8)).run Try.prog (w27.drewN m) = .ok (.string (strOfNums l)) (w27.drewN m) := fun m => Kd.C_string (P := Try.prog) Try.underlying23 Try.underlying5 Try.underlying9 (Kd.C_drewN (Kd.R_reads' HO48.out).2.2 m)
           have vs2 : ∀ m : Nat, (convert 23 9 (.slice A l.length c)).run Try.prog (w27.drewN m) = .ok (.string (strOfNums l)) (w27.drewN m) := fun m => Kd.C_string (P := Try.prog) Try.underlying23 Try.underlying5 Try.underlying9 (Kd.C_drewN (Kd.C_below HR.out (below_then HBW25.out HBW25.out.size HB48.out)) m))
        | (go_at_call 29; (with_reducible refine (load_eq A8 c8 l l.length rfl _ _ _ true w27 (Kd.R_reads' HO48.out).2.2 (Kd.R_reads' HO48.out).2.1 HY.out (by have := HL.out; omega) HLV.out).mono ?_); rintro e w28 ⟨rfl, ⟨nd3, rfl⟩⟩)
        | (go_at_call 43; (with_reducible refine (wire_Sized.calls _ _ _ HSZ.out).mono ?_); rintro e w28 ⟨rfl, ⟨nd4, rfl⟩⟩)
        | (go_at_call 40; (with_reducible refine (transomref01_Sized.calls _ _ _ HRS.out).mono ?_); rintro e w28 ⟨rfl, ⟨nd5, rfl⟩⟩)
        | (go_at_call 44; (with_reducible refine (wire_Within.calls _ _ l _ _ _ _ (Kd.C_drewN (Kd.R_reads' HO48.out).2.2 _) (Kd.R_reads' HO48.out).2.1 HWF.out).mono ?_); rintro e w28 ⟨rfl, ⟨nd6, rfl⟩⟩)
        | (go_at_call 31; (with_reducible refine (transomref01_Within.calls _ _ _ _ _ HRW.out).mono ?_); rintro e w28 ⟨rfl, ⟨nd7, rfl⟩⟩)
        | (go_at_call 28; (with_reducible refine (store_any (fun _ => True) _ l _ _ n w25 _ (pw_below_drewN HB48.out _) (Kd.R_drewN HO48.out _) (by have := HL.out; omega)).mono ?_); rw [HSV.out]; rintro e w29 ⟨rfl, ho, hb, _⟩; have HO29 := Aside0.mk ho; have HB29 := Aside0.mk hb; clear ho hb
           obtain ⟨Y, hY⟩ : ∃ Y, Y = put_ l i (leB n t) := ⟨_, rfl⟩
           have r1 : Kd.C (Kd.int .u8) w29 A8 Y.length Y := by rw [hY]; exact (Kd.R_reads' HO29.out).2.2
           have hYl : Y.length = l.length := by rw [hY]; exact put_length l i _ (by rw [leB_length]; exact HPL.out.1)
           have r2 : Kd.C (Kd.int .u8) w29 (some ⟨g, 0, none⟩) l.length Y := by rw [hY]; exact Kd.C_below (Kd.C_of_reads (d := (0 : Int)) (h1 := fun _ => rfl) (own_reads' HO25.out)) HB29.out
           rw [hYl] at r1
           have vs3 := Kd.C_string (P := Try.prog) (c := c8) Try.underlying23 Try.underlying5 Try.underlying9 r1
           have vs4 := Kd.C_string (P := Try.prog) (c := c2) Try.underlying23 Try.underlying5 Try.underlying9 r2
           have zz3 : ((strOfNums Y).toList == (strOfNums Y).toList) = true := beq_self_eq_true _
           clear r1 r2 hYl hY vs1 vs2))
      go_ret
      exact ⟨by simp, below_then HBW25.out HBW25.out.size HB29.out⟩
  · have hLn : l.length ≤ 1000 := HL.out
    obtain ⟨b1, hb1⟩ : ∃ b, sizedB s = b := ⟨_, rfl⟩
    obtain ⟨b2, hb2⟩ : ∃ b, withinB l.length a s = b := ⟨_, rfl⟩
    have hff : (b1 && b2) = false := by
      rw [← hb1, ← hb2]; cases h1 : sizedB s <;> cases h2 : withinB l.length a s <;> simp_all
    have HLV : Aside0 (loadV l a s = (0, false)) := ⟨by unfold loadV; rw [hb1, hb2, hff]; rfl⟩
    have HSV : Aside0 (storeV l a s n = (false, l)) := ⟨by unfold storeV; rw [hb1, hb2, hff]; rfl⟩
    have HSZ : Aside0 (wire_Sized.f s = some b1) := ⟨by rw [sized_f, hb1]⟩
    have HWF : Aside0 (wire_Within.f l a s = some b2) := ⟨by rw [within_f l (by have := HL.out; omega), hb2]⟩
    rw [hb1] at HRS
    rw [hb2] at HRW
    clear hin hb1 hb2
    have hcase : (b1 = false) ∨ (b1 = true ∧ b2 = false) := by cases b1 <;> cases b2 <;> simp_all
    clear hff
    have zz2 : ((strOfNums l).toList != (strOfNums l).toList) = false := bne_self_eq_false _
    have zz3 : ((strOfNums l).toList == (strOfNums l).toList) = true := beq_self_eq_true _
    have zz4 : (b2 != b2) = false := bne_self_eq_false _
    rcases hcase with rfl | ⟨rfl, rfl⟩
    all_goals
      go_enter Try.func11, Try.ntmps11
      go_wp2_with (first
        | (go_at_call 22; refine (awake01 _).mono ?_; rintro e w1 ⟨rfl, hb1⟩; have HB1 := Aside0.mk hb1; clear hb1)
        | (go_at_call 40; (with_reducible refine (transomref01_Sized.calls _ _ _ HRS.out).mono ?_); rintro e w2 ⟨rfl, ⟨nd, rfl⟩⟩)
        | (go_at_call 31; (with_reducible refine (transomref01_Within.calls _ _ _ _ _ HRW.out).mono ?_); rintro e w2 ⟨rfl, ⟨nd2, rfl⟩⟩)
        | ((with_reducible refine gate_dst (N := 29) rfl ?_); refine Kd.R_lit (Kd.int .u8) _ 5 ?hg (N := 29) ?hd (xs := ([] : List Int)) (inner := []) (ok := fun _ => True) (okp := fun _ => True) ?hr ?hp (fun _ hk => hk) trivial (Below.refl _ _) (Nat.le_refl _) (by simp) ?_; (case hd => rfl); (case hg => rfl); (case hr => first | (go_simp; done) | (go_simp; rfl)); (case hp => exact (Reps.none _ _)); intro v29 w20 ho_ hb_ hg_ hnew_; clear hg_ hnew_; have HO29 := Aside0.mk (Kd.R_lower ho_ (pw_below_drewN (Below.refl w1.heap.size w1) _).size); have HB29 := Aside0.mk (below_then (pw_below_drewN (Below.refl w1.heap.size w1) _) (pw_below_drewN (Below.refl w1.heap.size w1) _).size hb_); clear ho_ hb_)
        | ((with_reducible refine gate_builtin (b := .append) (xs := #[.tmp 29, .tmp 30]) rfl ?_); at_builtin; refine Kd.R_append_rows (Kd.int .u8) (w0 := w1) w1.heap.size rfl (.tmp 29) (.tmp 30) 23 5 (.int .u8 0) 1 rfl Try.underlying23 info5 rfl (by decide) (by omega) v29 [] l _ _ _ (fun _ => True) (fun _ => False) rfl rfl HO29.out (Kd.C_below HR.out (below_then HB1.out HB1.out.size HB29.out)) (fun _ _ h => h) (fun _ h => h.elim) (fun _ _ => trivial) HB29.out HB29.out.size (by have := HL.out; simp; omega) ?_; intro v_ w22 ho_ hb_ hg_ hat_; clear hg_ hat_; rw [List.nil_append] at ho_; obtain ⟨A2, c2, rfl⟩ := Kd.R_slice ho_; have HO30 := Aside0.mk ho_; have HB30 := Aside0.mk hb_; clear ho_ hb_; have HBW := Aside0.mk (below_then HB1.out HB1.out.size HB30.out))
        | ((with_reducible refine gate_dst (N := 47) rfl ?_); refine Kd.R_lit (Kd.int .u8) _ 5 ?hg (N := 47) ?hd (xs := ([] : List Int)) (inner := []) (ok := fun _ => True) (okp := fun _ => True) ?hr ?hp (fun _ hk => hk) trivial (Below.refl _ _) (Nat.le_refl _) (by simp) ?_; (case hd => rfl); (case hg => rfl); (case hr => first | (go_simp; done) | (go_simp; rfl)); (case hp => exact (Reps.none _ _)); intro v47 w26 ho_ hb_ hg_ hnew_; clear hg_ hnew_; have HO47 := Aside0.mk (Kd.R_lower ho_ (Below.refl w22.heap.size w22).size); have HB47 := Aside0.mk (below_then (Below.refl w22.heap.size w22) (Below.refl w22.heap.size w22).size hb_); clear ho_ hb_)
        | ((with_reducible refine gate_builtin (b := .append) (xs := #[.tmp 47, .tmp 48]) rfl ?_); at_builtin; refine Kd.R_append_rows (Kd.int .u8) (w0 := w22) w22.heap.size rfl (.tmp 47) (.tmp 48) 23 5 (.int .u8 0) 1 rfl Try.underlying23 info5 rfl (by decide) (by omega) v47 [] l _ _ _ (fun _ => True) (fun _ => False) rfl rfl HO47.out (Kd.C_below HR.out (below_then HBW.out HBW.out.size HB47.out)) (fun _ _ h => h) (fun _ h => h.elim) (fun _ _ => trivial) HB47.out HB47.out.size (by have := HL.out; simp; omega) ?_; intro v_ w27 ho_ hb_ hg_ hat_; clear hg_ hat_; rw [List.nil_append] at ho_; obtain ⟨A8, c8, rfl⟩ := Kd.R_slice ho_; have HO48 := Aside0.mk ho_; have HB48 := Aside0.mk hb_; clear ho_ hb_
           have vs1 : ∀ m : Nat, (convert 23 9 (.slice A8 l.length c8)).run Try.prog (w27.drewN m) = .ok (.string (strOfNums l)) (w27.drewN m) := fun m => Kd.C_string (P := Try.prog) Try.underlying23 Try.underlying5 Try.underlying9 (Kd.C_drewN (Kd.R_reads' HO48.out).2.2 m)
           have vs2 : ∀ m : Nat, (convert 23 9 (.slice A l.length c)).run Try.prog (w27.drewN m) = .ok (.string (strOfNums l)) (w27.drewN m) := fun m => Kd.C_string (P := Try.prog) Try.underlying23 Try.underlying5 Try.underlying9 (Kd.C_drewN (Kd.C_below HR.out (below_then HBW.out HBW.out.size HB48.out)) m))
        | (go_at_call 29; (with_reducible refine (load_eq A8 c8 l l.length rfl _ _ _ false w27 (Kd.R_reads' HO48.out).2.2 (Kd.R_reads' HO48.out).2.1 HY.out (by have := HL.out; omega) HLV.out).mono ?_); rintro e w28 ⟨rfl, ⟨nd3, rfl⟩⟩)
        | (go_at_call 43; (with_reducible refine (wire_Sized.calls _ _ _ HSZ.out).mono ?_); rintro e w28 ⟨rfl, ⟨nd4, rfl⟩⟩)
        | (go_at_call 44; (with_reducible refine (wire_Within.calls _ _ l _ _ _ _ (Kd.C_drewN (Kd.R_reads' HO48.out).2.2 _) (Kd.R_reads' HO48.out).2.1 HWF.out).mono ?_); rintro e w28 ⟨rfl, ⟨nd6, rfl⟩⟩)
        | (go_at_call 28; (with_reducible refine (store_any (fun _ => True) _ l _ _ n w22 _ (pw_below_drewN HB48.out _) (Kd.R_drewN HO48.out _) (by have := HL.out; omega)).mono ?_); rw [HSV.out]; rintro e w29 ⟨rfl, ho, hb, _⟩; have HO49 := Aside0.mk ho; have HB49 := Aside0.mk hb; clear ho hb
           have r2 : Kd.C (Kd.int .u8) w29 A2 l.length l := Kd.C_below (Kd.R_reads' HO30.out).2.2 HB49.out
           have vs3 := Kd.C_string (P := Try.prog) (c := c8) Try.underlying23 Try.underlying5 Try.underlying9 (Kd.R_reads' HO49.out).2.2
           have vs4 := Kd.C_string (P := Try.prog) (c := c2) Try.underlying23 Try.underlying5 Try.underlying9 r2
           clear r2 vs1 vs2))
      go_ret
      exact ⟨by simp, below_then HBW.out HBW.out.size HB49.out⟩

set_option maxHeartbeats 1600000 in
theorem loads_large (A : Option Addr) (c : Nat) (l : List Int) (a s n : Int) (w : World) (h1000 : 1000 < l.length) :
    Calls Try.prog 11 #[.slice A l.length c, .int .i64 a, .int .i64 s, .int .u64 n] w fun e w' => e = .returned (.bool true) ∧ Below w.heap.size w w' := by
  have d0 : decide ((1000 : Int) < (l.length : Int)) = true := decide_eq_true (by omega)
  have d0' : decide (1000 < l.length) = true := decide_eq_true (by omega)
  clear h1000
  go_enter Try.func11, Try.ntmps11
  go_wp2_with (first
    | (go_at_call 22; refine (awake01 _).mono ?_; rintro e w1 ⟨rfl, hb1⟩; have HB1 := Aside0.mk hb1; clear hb1))
  go_ret
  exact ⟨rfl, HB1.out⟩

theorem WireLoads_walk (a0 : Option Addr) (len0 cap0 : Nat) (z0 : List Int) (a1 a2 a3 : Int) (w : World)
    (w0 : (a0 = none ∧ len0 = 0 ∧ cap0 = 0 ∧ z0 = []) ∨ ∃ x, a0 = some x ∧ len0 ≤ cap0 ∧ cap0 ≤ maxLen ∧ z0.length = cap0 ∧ (∀ i, i < z0.length → w.cell? (x.add i) = some (.int .u8 (z0.getD i 0))) ∧ ∀ n ∈ z0, (Lit.int .u8 n).wf = true)
    (y0 : len0 * 1 ≤ 140737488351232) (w1 : (Lit.int .i64 a1).wf = true) (w2 : (Lit.int .i64 a2).wf = true) (w3 : (Lit.int .u64 a3).wf = true) :
    Calls Try.prog 11 #[.slice a0 len0 cap0, .int .i64 a1, .int .i64 a2, .int .u64 a3] w fun e w' => e = .returned (.bool true) ∧ Below w.heap.size w w' := by
  obtain ⟨l, rfl, hr, hm, hw, hc⟩ := ReadsInt.ofRowC w0
  by_cases h : l.length ≤ 1000
  · exact loads_any _ _ l a1 a2 a3 w (U.wf_i64 w1) (U.wf_i64 w2) (U.wf_u64 w3) (Kd.C_of_reads (d := (0 : Int)) (h1 := fun _ => rfl) hr) hc (bytes_wf hw) h
  · exact loads_large _ _ l a1 a2 a3 w (by omega)
end Go.Proofs.Ytgabfoafchnpiaa.Hand
