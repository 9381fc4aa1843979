/- Texts joined: W5 W8. -/
import Derived.Test.YthilhndejhnlnaaDoorZV28
import Derived.Test.YthilhndejhnlnaaDoorZV29
import Derived.Test.YthilhndejhnlnaaDoorZV30
section
/- The document's Value and Whole: what they come to, whatever the value is. -/
namespace Go.Proofs.YthilhndejhnlnaaDoor.Hand
open Go.RowKit Go.Proofs.YthilhndejhnlnaaDoor.QAll Go.Proofs.YthilhndejhnlnaaDoorW.PrintWords Go.Proofs.YthilhndejhnlnaaDoorW.PrintLast Go.Proofs.YthilhndejhnlnaaDoorW.PrintMore Go.Proofs.YthilhndejhnlnaaDoor.Runes Go.Proofs.YthilhndejhnlnaaDoor.Mk
set_option linter.unusedVariables false
set_option linter.unusedSimpArgs false
theorem wtd_is (v : S29) : 1 + v.f1.length + wts v.f2 = wt v := by obtain ⟨n, b, ks, h⟩ := v; simp [wt]
theorem wtd_pos (v : S29) : 1 ≤ wt v := by have := wtd_is v; omega
theorem wtds_len (xs : List S29) : xs.length ≤ wts xs := by
  induction xs with
  | nil => simp
  | cons a t ih => simp only [wts, List.length_cons]; have := wtd_pos a; omega
theorem wtds_mem (xs : List S29) (x : S29) (h : x ∈ xs) : wt x ≤ wts xs := by
  induction xs with
  | nil => cases h
  | cons a t ih =>
    simp only [wts]
    rcases List.mem_cons.1 h with rfl | h
    · omega
    · have := ih h; omega
theorem refval_any {st : List S50} {en : List S58} {root : Int} (hT : ∀ r ∈ st, ∀ f ∈ r.f1, TyG en st.length f.f1.f0 f.f1.f1 f.f1.f2) : ∀ (d : Nat), d ≤ 1000 → ∀ (kd rf ls : Int) (v : S29) (us u : Value) (w : World), TyG en st.length kd rf ls → rng v → wt v ≤ 100000 → IsS w st en root us → IsV w v u → Tabs w →
    Calls Tryd.prog 18 #[us, tyV kd rf ls, u, .int .i64 (d : Int)] w fun e w' => e = .returned (.bool (fitsB st en root d kd rf ls v)) ∧ Below w.heap.size w w' := by
  intro d
  induction d with
  | zero =>
    intro hd kd rf ls v us u w hty hr hw hs hv ht
    have hwt := wtd_is v
    have hkl := wtds_len v.f2
    by_cases hl : 0 < ls
    · simp only [fitsB]
      rw [if_pos hl]
      by_cases hno : v.f0 ≠ 0 ∨ 0 < v.f1.length ∨ v.f3 = true ∨ (0 < v.f2.length ∧ ((0 : Nat) : Int) < 1)
      · rw [if_pos (by rcases hno with a | a | a | a; exact .inr (.inl a); exact .inr (.inr (.inl a)); exact .inr (.inr (.inr a)); exact .inl a.1)]
        exact refval_list_no _ kd rf ls v us u w hl hs hv hno
      · have h0 : v.f2.length = 0 := by
          rcases Nat.eq_zero_or_pos v.f2.length with f | f
          · exact f
          · exact absurd (.inr (.inr (.inr ⟨f, by decide⟩))) hno
        have hnil : v.f2 = [] := List.eq_nil_of_length_eq_zero h0
        have c0 : v.f0 = 0 := Decidable.byContradiction fun a => hno (.inl a)
        have c1 : v.f1.length = 0 := by rcases Nat.eq_zero_or_pos v.f1.length with f | f; exact f; exact absurd (.inr (.inl f)) hno
        have c3 : v.f3 = false := by cases e : v.f3 with | false => rfl | true => exact absurd (.inr (.inr (.inl e))) hno
        rw [if_neg (by rw [c0, c1, c3, h0]; simp)]
        have := refval_list (0 : Int) kd rf ls v us u w hl hty.lr.2 (by omega) (by omega) hs hv ⟨c0, c1, c3⟩ (.inl h0) (fun _ => true) (fun x hx => by rw [hnil] at hx; cases hx)
        rw [hnil] at this
        exact this
    · have hls : ls = 0 := by have := hty.lr; omega
      subst hls
      by_cases hk : kd = 13
      · subst hk
        obtain ⟨r0, r1⟩ := hty.str rfl
        obtain ⟨q, rfl⟩ := Int.eq_ofNat_of_zero_le r0
        simp only [fitsB]
        rw [if_neg hl, if_pos trivial]
        by_cases hno : v.f0 ≠ 0 ∨ 0 < v.f1.length ∨ v.f3 = false
        · rw [if_pos hno]; exact refval_gone _ _ v us u w hs hv hno
        · rw [if_neg hno]
          exact refval_short _ q (by omega) v us u w hs hv ⟨Decidable.byContradiction fun a => hno (.inl a), by rcases Nat.eq_zero_or_pos v.f1.length with f | f; exact f; exact absurd (.inr (.inl f)) hno, by cases e : v.f3 with | true => rfl | false => exact absurd (.inr (.inr e)) hno⟩ (.inl (by decide))
      · simp only [fitsB]
        rw [if_neg hl, if_neg hk]
        exact refval_leaf _ kd rf v us u w (by have := hty.kr; omega) hr (by omega) hs hv ht
  | succ d ih =>
    intro hd kd rf ls v us u w hty hr hw hs hv ht
    have hwt := wtd_is v
    have hkl := wtds_len v.f2
    obtain ⟨-, -, hrk⟩ := rng_is v hr
    have e1 : ((d + 1 : Nat) : Int) - 1 = (d : Int) := by omega
    by_cases hl : 0 < ls
    · simp only [fitsB]
      rw [if_pos hl]
      by_cases hno : v.f0 ≠ 0 ∨ 0 < v.f1.length ∨ v.f3 = true
      · rw [if_pos hno]
        exact refval_list_no _ kd rf ls v us u w hl hs hv (by rcases hno with a | a | a; exact .inl a; exact .inr (.inl a); exact .inr (.inr (.inl a)))
      · rw [if_neg hno]
        have c0 : v.f0 = 0 := Decidable.byContradiction fun a => hno (.inl a)
        have c1 : v.f1.length = 0 := by rcases Nat.eq_zero_or_pos v.f1.length with f | f; exact f; exact absurd (.inr (.inl f)) hno
        have c3 : v.f3 = false := by cases e : v.f3 with | false => rfl | true => exact absurd (.inr (.inr e)) hno
        exact refval_list ((d + 1 : Nat) : Int) kd rf ls v us u w hl hty.lr.2 (by omega) (by omega) hs hv ⟨c0, c1, c3⟩ (.inr (by omega)) (fun x => fitsB st en root d kd rf (ls - 1) x) (fun x hx W uk hW hu => by
          rw [e1]
          exact ih (by omega) kd rf (ls - 1) x us uk W (hty.elem hl) (hrk x hx) (by have := wtds_mem v.f2 x hx; omega) (hs.below hW) hu (ht.below hW))
    · have hls : ls = 0 := by have := hty.lr; omega
      subst hls
      by_cases hk : kd = 13
      · subst hk
        obtain ⟨r0, r1⟩ := hty.str rfl
        obtain ⟨q, rfl⟩ := Int.eq_ofNat_of_zero_le r0
        have hq : q < st.length := by omega
        simp only [fitsB]
        rw [if_neg hl, if_pos trivial]
        by_cases hno : v.f0 ≠ 0 ∨ 0 < v.f1.length ∨ v.f3 = false
        · rw [if_pos hno]; exact refval_gone _ _ v us u w hs hv hno
        · rw [if_neg hno]
          have hyes : v.f0 = 0 ∧ v.f1.length = 0 ∧ v.f3 = true := ⟨Decidable.byContradiction fun a => hno (.inl a), by rcases Nat.eq_zero_or_pos v.f1.length with f | f; exact f; exact absurd (.inr (.inl f)) hno, by cases e : v.f3 with | true => rfl | false => exact absurd (.inr (.inr e)) hno⟩
          by_cases hlen : v.f2.length ≠ (rd_T50 st (q : Int)).f1.length
          · rw [if_pos hlen]
            exact refval_short _ q hq v us u w hs hv hyes (.inr hlen)
          · rw [if_neg hlen]
            refine refval_struct ((d + 1 : Nat) : Int) q hq v us u w (by omega) (by omega) hs hv hyes (Decidable.of_not_not hlen) (fun f x => fitsB st en root d f.f1.f0 f.f1.f1 f.f1.f2 x) (fun k h1 h2 W uk hW hu => ?_)
            rw [e1]
            exact ih (by omega) _ _ _ _ us uk W (hT _ (by rw [rd50_get hq]; exact List.getElem_mem hq) _ (List.getElem_mem h1)) (hrk _ (List.getElem_mem h2)) (by have := wtds_mem v.f2 _ (List.getElem_mem h2); omega) (hs.below hW) hu (ht.below hW)
      · simp only [fitsB]
        rw [if_neg hl, if_neg hk]
        exact refval_leaf _ kd rf v us u w (by have := hty.kr; omega) hr (by omega) hs hv ht
set_option maxHeartbeats 3200000 in
set_option maxRecDepth 100000 in
theorem whole_any {st : List S50} {en : List S58} {root : Int} (hT : ∀ r ∈ st, ∀ f ∈ r.f1, TyG en st.length f.f1.f0 f.f1.f1 f.f1.f2) (rec : Int) (v : S29) (us u : Value) (w : World) (hr : rng v) (hw : wt v ≤ 100000) (hs : IsS w st en root us) (hv : IsV w v u) (ht : Tabs w) :
    Calls Tryd.prog 9 #[us, .int .i64 rec, u] w fun e w' => e = .returned (.bool (fitsTop st en root rec v)) ∧ Below w.heap.size w w' := by
  have HV : Aside0 (0 ≤ rec → rec < st.length → ∀ W, Below w.heap.size w W → Calls Tryd.prog 18 #[us, tyV 13 rec 0, u, .int .i64 12] W fun e w' => e = .returned (.bool (fitsB st en root 12 13 rec 0 v)) ∧ Below W.heap.size W w') := ⟨fun h0 h1 W hW => by
    exact refval_any hT 12 (by decide) 13 rec 0 v us u W ⟨by decide, by decide, (fun h => by cases h), (fun _ => ⟨h0, h1⟩)⟩ hr hw (hs.below hW) (hv.below hW) (ht.below hW)⟩
  obtain ⟨A0, c0, A1, c1, rfl, -⟩ := hs
  obtain ⟨A2, c2, A3, c3, rfl, -⟩ := hv
  obtain ⟨w1, hw1⟩ : ∃ w1, (w.alloc (.cells #[.slice A0 st.length c0, .slice A1 en.length c1, .int .i64 root] 34)).alloc (.cells #[.int .u64 v.f0, .slice A2 v.f1.length c2, .slice A3 v.f2.length c3, .bool v.f3] 29) = w1 := ⟨_, rfl⟩
  obtain ⟨gs, hgs⟩ : ∃ gs, w.heap.size = gs := ⟨_, rfl⟩
  obtain ⟨gv, hgv⟩ : ∃ gv, gs + 1 = gv := ⟨_, rfl⟩
  have a1 := heap_alloc_new w (.cells #[.slice A0 st.length c0, .slice A1 en.length c1, .int .i64 root] 34)
  obtain ⟨w0, hw0⟩ : ∃ w0, w.alloc (.cells #[.slice A0 st.length c0, .slice A1 en.length c1, .int .i64 root] 34) = w0 := ⟨_, rfl⟩
  have s0 : w0.heap.size = gv := by rw [← hw0]; simp [hgs, hgv]
  rw [hw0, hgs] at a1
  have hw1' := hw1
  rw [hw0] at hw1'
  have b0 : Below w.heap.size w w0 := by rw [← hw0]; exact below_alloc (Below.refl _ _) _
  have b1 : Below w0.heap.size w0 w1 := by rw [← hw1']; exact below_alloc (Below.refl _ _) _
  have a2 : w1.heap[gv]? = some (.cells #[.int .u64 v.f0, .slice A2 v.f1.length c2, .slice A3 v.f2.length c3, .bool v.f3] 29 (0, 0)) := by rw [← hw1', ← s0]; exact heap_alloc_new w0 _
  have a3 := (b1.block _ (blk_lt a1)).trans a1
  have HB1 := Aside0.mk (below_then b0 b0.size b1)
  have HEQ := Aside0.mk (And.intro hw1 (And.intro hgs hgv))
  have s0 : w1.cell? ⟨gs, 0, none⟩ = some (.slice A0 st.length c0) := (blk_cell a3 0).trans rfl
  have s1 : w1.cell? ⟨gs, 1, none⟩ = some (.slice A1 en.length c1) := (blk_cell a3 1).trans rfl
  have s2 : w1.cell? ⟨gs, 2, none⟩ = some (.int .i64 root) := (blk_cell a3 2).trans rfl
  have v0 : w1.cell? ⟨gv, 0, none⟩ = some (.int .u64 v.f0) := (blk_cell a2 0).trans rfl
  have v1 : w1.cell? ⟨gv, 1, none⟩ = some (.slice A2 v.f1.length c2) := (blk_cell a2 1).trans rfl
  have v2 : w1.cell? ⟨gv, 2, none⟩ = some (.slice A3 v.f2.length c3) := (blk_cell a2 2).trans rfl
  have v3 : w1.cell? ⟨gv, 3, none⟩ = some (.bool v.f3) := (blk_cell a2 3).trans rfl
  obtain ⟨r, hr'⟩ : ∃ r, fitsTop st en root rec v = r := ⟨_, rfl⟩
  rw [hr']
  obtain ⟨b, hb⟩ : ∃ b, fitsB st en root 12 13 rec 0 v = b := ⟨_, rfl⟩
  unfold fitsTop at hr'
  rw [hb] at HV hr'
  obtain ⟨h3, hh3⟩ : ∃ h3, v.f3 = h3 := ⟨_, rfl⟩
  rw [hh3] at HV HEQ v3 hr' ⊢
  have ways : (decide (0 ≤ rec) = false ∧ r = false) ∨ (decide (0 ≤ rec) = true ∧ decide (rec < (st.length : Int)) = false ∧ r = false) ∨
      (decide (0 ≤ rec) = true ∧ decide (rec < (st.length : Int)) = true ∧ h3 = false ∧ r = false) ∨ ((decide (0 ≤ rec) = true ∧ decide (rec < (st.length : Int)) = true) ∧ (0 ≤ rec ∧ rec < st.length) ∧ h3 = true ∧ r = b) := by
    by_cases p : 0 ≤ rec
    · right
      by_cases q : rec < st.length
      · right
        rw [if_pos ⟨p, q⟩] at hr'
        cases h3 with
        | false => left; exact ⟨decide_eq_true p, decide_eq_true q, rfl, by simpa using hr'.symm⟩
        | true => right; exact ⟨⟨decide_eq_true p, decide_eq_true q⟩, ⟨p, q⟩, rfl, by simpa using hr'.symm⟩
      · left; rw [if_neg (fun h => q h.2)] at hr'; exact ⟨decide_eq_true p, decide_eq_false q, hr'.symm⟩
    · left; rw [if_neg (fun h => p h.1)] at hr'; exact ⟨decide_eq_false p, hr'.symm⟩
  clear hr hw ht a1 a2 a3 b0 b1 hw0 hw1 hw1' hgs hgv hr' hb hh3
  rcases ways with ⟨a1, rfl⟩ | ⟨a1, a2, rfl⟩ | ⟨a1, a2, rfl, rfl⟩ | ⟨⟨a1, a2⟩, hrec, rfl, rfl⟩
  · go_enter Tryd.func9, Tryd.ntmps9
    go_upto_region 1 with (fail)
    rw [HEQ.out.1, HEQ.out.2.1, HEQ.out.2.2]
    go_wp2_with (fail)
    go_ret
    exact ⟨rfl, HB1.out⟩
  · go_enter Tryd.func9, Tryd.ntmps9
    go_upto_region 1 with (fail)
    rw [HEQ.out.1, HEQ.out.2.1, HEQ.out.2.2]
    go_wp2_with (fail)
    go_ret
    exact ⟨rfl, HB1.out⟩
  · go_enter Tryd.func9, Tryd.ntmps9
    go_upto_region 1 with (fail)
    rw [HEQ.out.1, HEQ.out.2.1, HEQ.out.2.2]
    go_wp2_with (fail)
    go_ret
    exact ⟨rfl, HB1.out⟩
  · have HVW := Aside0.mk (HV.out hrec.1 hrec.2 w1 HB1.out)
    clear hrec
    go_enter Tryd.func9, Tryd.ntmps9
    go_upto_region 1 with (fail)
    rw [HEQ.out.1, HEQ.out.2.1, HEQ.out.2.2]
    go_wp2_with (go_at_call 18; (with_reducible refine HVW.out.mono ?_); rintro e wa ⟨rfl, hb⟩; have HBA := Aside0.mk (below_then HB1.out HB1.out.size hb); clear hb)
    go_ret
    exact ⟨rfl, HBA.out⟩
end Go.Proofs.YthilhndejhnlnaaDoor.Hand
end

section
/- heavy: how many parts a value has: in plain Lean. -/
namespace Go.Proofs.YthilhndejhnlnaaDoor.Hand
open Go.RowKit Go.Proofs.YthilhndejhnlnaaDoor.QAll Go.Proofs.YthilhndejhnlnaaDoorW.PrintWords Go.Proofs.YthilhndejhnlnaaDoorW.PrintLast Go.Proofs.YthilhndejhnlnaaDoorW.PrintMore Go.Proofs.YthilhndejhnlnaaDoor.Runes Go.Proofs.YthilhndejhnlnaaDoor.Mk
set_option linter.unusedVariables false
set_option linter.unusedSimpArgs false
mutual
/-- No bytes of a value are longer than memory may be. -/
def bl : S29 → Prop
  | ⟨_, b, ks, _⟩ => b.length ≤ 140737488351232 ∧ ks.length ≤ 140737488351232 ∧ bls ks
def bls : List S29 → Prop
  | [] => True
  | x :: xs => bl x ∧ bls xs
end
theorem bls_iff (xs : List S29) : bls xs ↔ ∀ x ∈ xs, bl x := by
  induction xs with
  | nil => simp [bls]
  | cons a t ih => simp only [bls, ih, List.mem_cons, forall_eq_or_imp]
theorem rd29_get {l : List S29} {k : Nat} (h : k < l.length) : rd_T29 l (k : Int) = l[k] := by unfold rd_T29; rw [show ((k : Int)).toNat = k from rfl, List.getD_eq_getElem?_getD, List.getElem?_eq_getElem h]; rfl
theorem wts_take (xs : List S29) (i : Nat) (h : i < xs.length) : wts (xs.take (i + 1)) = wts (xs.take i) + wt xs[i] := by
  rw [List.take_succ_eq_append_getElem h, wts_append]; simp [wts]
theorem heavy_l0_mono (a b : Int) (c : List S29) (d e : Int) (k : Nat) : LeO (transomlaw07_heavy.l0 k a b c d e) (transomlaw07_heavy.l0 (k + 1) a b c d e) := (transomlaw07_heavy.mono_l k).2 a b c d e
theorem heavy_ev : ∀ (d : Nat) (v : S29), bl v → d ≤ 60 →
    ∃ (k : Nat) (r : Int), transomlaw07_heavy.f k v.f0 v.f1 v.f2 v.f3 (d : Int) = some r ∧ 0 ≤ r ∧ r ≤ (d + 1) * 281474976710656 ∧ (r ≤ 2000 → (wt v : Int) ≤ r) := by
  intro d
  induction d with
  | zero => intro v _ _; exact ⟨1, 1048576, by simp [transomlaw07_heavy.f], by decide, by decide, fun h => by omega⟩
  | succ d ih =>
    intro v hb hd
    obtain ⟨n0, bs, ks, f⟩ := v
    simp only [bl] at hb
    obtain ⟨hb1, hm, hb2⟩ := hb
    have hb2' := (bls_iff ks).1 hb2
    have e1 : wrap64 (((d + 1 : Nat) : Int) - 1) = (d : Int) := by unfold wrap64; omega
    have loop : ∀ e i : Nat, i + e = ks.length → ∀ n : Int, 0 ≤ n → n ≤ 140737488351233 → (1 + bs.length + wts (ks.take i) : Int) ≤ n → ∃ (k : Nat) (r : Int), transomlaw07_heavy.l0 k ((d + 1 : Nat) : Int) n ks (ks.length : Int) (i : Int) = some r ∧ 0 ≤ r ∧ r ≤ ((d + 1 : Nat) + 1) * 281474976710656 ∧ (r ≤ 2000 → (1 + bs.length + wts ks : Int) ≤ r) := by
      intro e
      induction e with
      | zero =>
        intro i hi n h0 h1 h2
        refine ⟨1, n, ?_, h0, by omega, fun _ => ?_⟩
        · simp only [transomlaw07_heavy.l0]; rw [if_neg (by omega)]
        · rw [List.take_of_length_le (by omega)] at h2; exact h2
      | succ e ihe =>
        intro i hi n h0 h1 h2
        have hil : i < ks.length := by omega
        have hx := hb2' ks[i] (List.getElem_mem hil)
        obtain ⟨k1, t, hk1, t0, t1, t2⟩ := ih ks[i] hx (by omega)
        have c1 : (i : Int) < (ks.length : Int) := Int.ofNat_lt.2 hil
        have c0 : (0 : Int) ≤ (i : Int) := Int.natCast_nonneg _
        have hw : wrap64 (n + t) = n + t := by unfold wrap64; omega
        have hwi : wrap64 ((i : Int) + 1) = ((i + 1 : Nat) : Int) := by unfold wrap64; omega
        by_cases hc : n + t > 2000
        · refine ⟨k1 + 1, n + t, ?_, by omega, by omega, fun h => by omega⟩
          simp only [transomlaw07_heavy.l0]
          rw [if_pos c1, if_pos c0, if_pos c1, rd29_get hil, e1, hk1]
          simp only [Option.bind_some]
          rw [hw, if_pos hc]
        · obtain ⟨k2, r, hk2, r0, r1, r2⟩ := ihe (i + 1) (by omega) (n + t) (by omega) (by omega) (by rw [wts_take ks i hil]; have := t2 (by omega); omega)
          refine ⟨max k1 k2 + 1, r, ?_, r0, r1, r2⟩
          simp only [transomlaw07_heavy.l0]
          rw [if_pos c1, if_pos c0, if_pos c1, rd29_get hil, e1, at_rounds (transomlaw07_heavy.mono _ _ _ _ _) (Nat.le_max_left k1 k2) hk1]
          simp only [Option.bind_some]
          rw [hw, if_neg hc, hwi, at_rounds (heavy_l0_mono _ _ _ _ _) (Nat.le_max_right k1 k2) hk2]
    have hw0 : wrap64 (1 + (bs.length : Int)) = 1 + bs.length := by unfold wrap64; omega
    obtain ⟨k, r, hk, r0, r1, r2⟩ := loop ks.length 0 (by omega) (1 + bs.length) (by omega) (by omega) (by simp [wts])
    refine ⟨k + 1, r, ?_, r0, r1, fun h => by have := r2 h; simp only [wt]; omega⟩
    simp only [transomlaw07_heavy.f]
    rw [if_neg (by omega), hw0]
    exact hk
end Go.Proofs.YthilhndejhnlnaaDoor.Hand
end
