/- Texts joined: H1 WalkViewTrees. -/
import Derived.Test.YthilhndejhnlnaaZT15
import Derived.Test.YthilhndejhnlnaaZT29
import Derived.Test.YthilhndejhnlnaaZT31
import Derived.Test.YthilhndejhnlnaaZT32
section
/- A plan's schema, a source's value, and what is the same: words for the laws' walks. -/
namespace Go.Proofs.Ythilhndejhnlnaa.Hand
open Go.RowKit Go.Proofs.Ythilhndejhnlnaa.QAll Go.Proofs.YthilhndejhnlnaaW.PrintWords Go.Proofs.YthilhndejhnlnaaW.PrintLast Go.Proofs.YthilhndejhnlnaaW.PrintMore Go.Proofs.Ythilhndejhnlnaa.Mk
set_option linter.unusedVariables false
set_option linter.unusedSimpArgs false
/-- Made, of any plan. -/
theorem made_any (E : List Int) (S : List (List S64)) (Rt : Int) (tr : Bool) (hEb : ∀ x ∈ E, 0 ≤ x ∧ x < 256) (hSb : ∀ l ∈ S, ∀ x ∈ l, BOk x) (hRt : 0 ≤ Rt ∧ Rt < 256) (A0 : Option Addr) (z0 : Nat) (A1 : Option Addr) (z1 : Nat) (w : World)
    (hE : Kd.C (Kd.int .u8) w A0 E.length E) (hEz : E.length ≤ z0) (hS : Kd.C (Kd.slice 64 k64) w A1 S.length S) (hSz : S.length ≤ z1) :
    Calls Try.prog 8 #[.agg #[.slice A0 E.length z0, .slice A1 S.length z1, .int .u8 Rt, .bool tr]] w (MPost S.length tr w) := by
  by_cases h : S.length < 1 ∨ 16 < S.length ∨ 8 < E.length
  · exact made_no E S Rt tr A0 z0 A1 z1 w h
  · exact made_yes E S Rt tr hEb hSb hRt A0 z0 A1 z1 w hE hEz hS hSz (by omega) (by omega) (by omega)
theorem rb_isV {w : World} {b : Nat} {v : S39} {v1 v2 : Value} (h1 : Rb (Kd.int .u8) 5 w b v1 v.f1) (h2 : Rb k39 39 w b v2 v.f2) : IsV w v (.agg #[.int .u64 v.f0, v1, v2, .bool v.f3]) := by
  obtain ⟨A1, c1, rfl, l1, k1⟩ := h1.slice
  obtain ⟨A2, c2, rfl, l2, k2⟩ := h2.slice
  exact ⟨A1, c1, A2, c2, rfl, k1, l1, k2, l2⟩
theorem rb_isS {w : World} {b : Nat} {st : List S31} {en : List S61} {root : Int} {v1 v2 : Value} (h1 : Rb k31 31 w b v1 st) (h2 : Rb k61 61 w b v2 en) : IsS w st en root (.agg #[v1, v2, .int .i64 root]) := by
  obtain ⟨A1, c1, rfl, l1, k1⟩ := h1.slice
  obtain ⟨A2, c2, rfl, l2, k2⟩ := h2.slice
  exact ⟨A1, c1, A2, c2, rfl, k1, l1, k2, l2⟩
theorem sch_ty {en : List S61} {tr : Bool} {st : List S31} (h : SchOk en st.length tr st) : ∀ (i : Nat) (r : S31), st[i]? = some r → ∀ f ∈ r.f1, TyG en st.length f.f1.f0 f.f1.f1 f.f1.f2 := fun i r hr f hf => ((h.fs i r hr).2.2 f hf).ty
theorem sch_good {en : List S61} {tr : Bool} {st : List S31} (h : SchOk en st.length tr st) : Good st := by
  intro r hr f hf
  obtain ⟨i, hi, e⟩ := List.mem_iff_getElem.1 hr
  have t := sch_ty h i r (by rw [List.getElem?_eq_getElem hi, e]) f hf
  exact ⟨t.str, by have := t.lr; omega⟩
theorem vok_wt {st : List S31} {en : List S61} {root : Int} {n : Nat} {j : Int} {v : S39} (h : VOk st en root n 12 13 root 0 true 0 j v) (hn : n ≤ 2000) : wt v ≤ 42017 := by
  have := h.adv
  by_cases c : (0 : Int) < n
  · have := (h.run c).2; omega
  · have := (h.fin (by omega)).1; omega
theorem vok_top {st : List S31} {en : List S61} {root : Int} {n : Nat} {j : Int} {v : S39} (h : VOk st en root n 12 13 root 0 true 0 j v) (h0 : 0 ≤ root) (h1 : root < st.length) : fitsTop st en root root v = true := by
  unfold fitsTop
  rw [if_pos ⟨h0, h1⟩, h.fit, h.has rfl rfl rfl (by decide)]; rfl
/-- A value is the same as itself. -/
theorem same_self : ∀ (m : Nat) (v : S39), wt v ≤ m → wt v ≤ 1099511627776 → ∃ k, transomref05_Same.f k v.f0 v.f1 v.f2 v.f3 v.f0 v.f1 v.f2 v.f3 = some true := by
  intro m
  induction m with
  | zero => intro v h; have := wt_pos v; omega
  | succ m ih =>
    intro v hm hw
    have loop : ∀ d i : Nat, i + d = v.f2.length → ∃ k, transomref05_Same.l0 k (i : Int) v.f0 v.f1 v.f2 v.f3 v.f0 v.f1 v.f2 v.f3 = some true := by
      intro d
      induction d with
      | zero =>
        intro i hi
        refine ⟨1, ?_⟩
        simp only [transomref05_Same.l0]
        rw [if_neg (by omega)]
      | succ d ihd =>
        intro i hi
        have hlt : i < v.f2.length := by omega
        obtain ⟨kl, hl⟩ := ihd (i + 1) (by omega)
        have hk : rd_T39 v.f2 (i : Int) = v.f2[i] := by unfold rd_T39; rw [show ((i : Int)).toNat = i from rfl, List.getD_eq_getElem?_getD, List.getElem?_eq_getElem hlt]; rfl
        have h1 := wt_get v i hlt
        have h2 : wt v.f2[i] ≤ m := by have := wt_is v; have := wts_get v.f2 i hlt; omega
        obtain ⟨kf, hf⟩ := ih v.f2[i] h2 (by omega)
        have hlen : v.f2.length ≤ 1099511627776 := by have := wt_is v; have := wts_len v.f2; omega
        have hw1 : wrap64 ((i : Int) + 1) = ((i + 1 : Nat) : Int) := by unfold wrap64; omega
        refine ⟨max kf kl + 1, ?_⟩
        simp only [transomref05_Same.l0]
        rw [if_pos (by omega), if_pos (by omega), hk, at_rounds (transomref05_Same.mono _ _ _ _ _ _ _ _) (Nat.le_max_left kf kl) hf]
        simp only [Option.bind_some, if_true]
        rw [if_pos (by omega), hw1]
        exact at_rounds (fun k => (transomref05_Same.mono_l k).2.2 _ _ _ _ _ _ _ _ _) (Nat.le_max_right kf kl) hl
    obtain ⟨k, hk⟩ := loop v.f2.length 0 (by omega)
    refine ⟨k + 2, ?_⟩
    simp only [transomref05_Same.f, transomref05_Same.j0, if_true, bne_self_eq_false]
    rw [if_neg (by decide), if_neg (by decide)]
    exact hk
theorem same_any {w : World} {v : S39} {u1 u2 : Value} (h1 : IsV w v u1) (h2 : IsV w v u2) (hw : wt v ≤ 1099511627776) : Calls Try.prog 10 #[u1, u2] w fun e w' => e = .returned (.bool true) ∧ Below w.heap.size w w' := by
  obtain ⟨A1, c1, A2, c2, rfl, k1, l1, k2, l2⟩ := h1
  obtain ⟨A3, c3, A4, c4, rfl, k3, l3, k4, l4⟩ := h2
  obtain ⟨k, hk⟩ := same_self _ v (Nat.le_refl _) hw
  exact transomref05_Same.calls k _ _ _ _ _ _ _ _ _ _ _ _ _ _ _ _ _ w k1 l1 k2 l2 k3 l3 k4 l4 hk
end Go.Proofs.Ythilhndejhnlnaa.Hand
end

section
/- ViewTrees: a value as a view, and back: the walk. -/
namespace Go.Proofs.Ythilhndejhnlnaa.Hand
open Go.RowKit Go.Proofs.Ythilhndejhnlnaa.QAll Go.Proofs.YthilhndejhnlnaaW.PrintWords Go.Proofs.YthilhndejhnlnaaW.PrintLast Go.Proofs.YthilhndejhnlnaaW.PrintMore Go.Proofs.Ythilhndejhnlnaa.Mk
set_option linter.unusedVariables false
set_option linter.unusedSimpArgs false
set_option maxHeartbeats 6400000 in
set_option maxRecDepth 100000 in
theorem viewTrees_at (E : List Int) (S : List (List S64)) (Rt : Int) (tr : Bool) (hEb : ∀ x ∈ E, 0 ≤ x ∧ x < 256) (hSb : ∀ l ∈ S, ∀ x ∈ l, BOk x) (hRt : 0 ≤ Rt ∧ Rt < 256) (A0 : Option Addr) (z0 : Nat) (A1 : Option Addr) (z1 : Nat) (B : List Int) (hB : ∀ x ∈ B, 0 ≤ x ∧ x < 256) (Ab : Option Addr) (cb : Nat) (w : World)
    (hE : Kd.C (Kd.int .u8) w A0 E.length E) (hEz : E.length ≤ z0) (hS : Kd.C (Kd.slice 64 k64) w A1 S.length S) (hSz : S.length ≤ z1) (hA : Kd.C (Kd.int .u8) w Ab B.length B) :
    Calls Try.prog 5 #[.agg #[.slice A0 E.length z0, .slice A1 S.length z1, .int .u8 Rt, .bool tr], .slice Ab B.length cb] w fun e w' => e = .returned (.bool true) ∧ Below w.heap.size w w' := by
  obtain ⟨PV, hPV⟩ : ∃ PV : Array Value, #[.slice A0 E.length z0, .slice A1 S.length z1, .int .u8 Rt, .bool tr] = PV := ⟨_, rfl⟩
  obtain ⟨w1, hw1⟩ : ∃ w1, w.alloc (.cells #[.slice A0 E.length z0, .slice A1 S.length z1, .int .u8 Rt, .bool tr] 44) = w1 := ⟨_, rfl⟩
  obtain ⟨gp, hgp⟩ : ∃ gp, w.heap.size = gp := ⟨_, rfl⟩
  have HMADE : Aside0 (∀ (W : World), Below w.heap.size w W → Calls Try.prog 8 #[.agg #[.slice A0 E.length z0, .slice A1 S.length z1, .int .u8 Rt, .bool tr]] W (MPost S.length tr W)) := ⟨fun W h => made_any E S Rt tr hEb hSb hRt A0 z0 A1 z1 W (Kd.C_below hE h) hEz (Kd.C_below hS h) hSz⟩
  have HA := Aside0.mk hA
  have HB := Aside0.mk hB
  have HAW : Aside0 (∀ W, Calls Try.prog 6 #[] W fun e w' => e = .returned (.bool true) ∧ Below W.heap.size W w') := ⟨awake07⟩
  have HW1 : Aside0 (Below w.heap.size w w1) := ⟨by rw [← hw1]; exact below_alloc (Below.refl _ _) _⟩
  have HP1 : Aside0 (w1.heap[gp]? = some (.cells #[.slice A0 E.length z0, .slice A1 S.length z1, .int .u8 Rt, .bool tr] 44 (0, 0))) := ⟨by rw [← hw1, ← hgp]; exact heap_alloc_new w _⟩
  have HEQ := Aside0.mk (And.intro hgp hw1)
  have kb : ∃ nb : Nat, B.length = nb := ⟨_, rfl⟩
  clear hE hS hEb hSb hRt hEz hSz hA hB hPV hgp hw1
  go_enter Try.func5, Try.ntmps5
  go_upto_region 1 with (fail)
  rw [HEQ.out.1, HEQ.out.2]
  go_upto_region 3 with (go_at_call 6; (with_reducible refine (HAW.out _).mono ?_); rintro e w2 ⟨rfl, hb⟩; have HW2 := Aside0.mk (below_then HW1.out HW1.out.size hb); have HP2 := Aside0.mk ((hb.block _ (blk_lt HP1.out)).trans HP1.out); clear hb)
  have p0 : w2.cell? ⟨gp, 0, none⟩ = some (.slice A0 E.length z0) := (blk_cell HP2.out 0).trans rfl
  have p1 : w2.cell? ⟨gp, 1, none⟩ = some (.slice A1 S.length z1) := (blk_cell HP2.out 1).trans rfl
  have p2 : w2.cell? ⟨gp, 2, none⟩ = some (.int .u8 Rt) := (blk_cell HP2.out 2).trans rfl
  have p3 : w2.cell? ⟨gp, 3, none⟩ = some (.bool tr) := (blk_cell HP2.out 3).trans rfl
  go_upto_region 4 with (go_at_call 8; (with_reducible refine (HMADE.out w2 HW2.out).mono ?_); rintro e w3 hp; obtain ⟨st, en, root, ok, v0, v1, rfl, hr1, hr2, hb, hmr, -⟩ := hp; obtain ⟨A5, c5, rfl, -, -⟩ := hr1.slice; obtain ⟨A6, c6, rfl, -, -⟩ := hr2.slice; have HW3 := Aside0.mk (below_then HW2.out HW2.out.size hb); have HS3 := Aside0.mk (rb_isS (root := root) hr1 hr2); have HMR := Aside0.mk hmr; clear hr1 hr2 hb hmr p0 p1 p2 p3)
  have hb4 := below_alloc (Below.refl w3.heap.size w3) (.cells #[.slice A5 st.length c5, .slice A6 en.length c6, .int .i64 root] 35)
  have HW4 := Aside0.mk (below_then HW3.out HW3.out.size hb4)
  have HS4 := Aside0.mk (HS3.out.below hb4)
  have HU4 := Aside0.mk (heap_alloc_new w3 (.cells #[.slice A5 st.length c5, .slice A6 en.length c6, .int .i64 root] 35))
  obtain ⟨gs, hgs⟩ : ∃ gs, w3.heap.size = gs := ⟨_, rfl⟩
  obtain ⟨w4, hw4⟩ : ∃ w4, w3.alloc (.cells #[.slice A5 st.length c5, .slice A6 en.length c6, .int .i64 root] 35) = w4 := ⟨_, rfl⟩
  rw [hw4] at HW4 HS4 HU4
  rw [hgs] at HU4
  rw [hw4, hgs]
  clear hgs hw4 hb4 HS3
  obtain ⟨nb, hnb⟩ : ∃ nb : Nat, B.length = nb := ⟨_, rfl⟩
  have HNB := Aside0.mk hnb
  rw [hnb]
  clear hnb
  cases ok with
  | false =>
    go_wp2_with (fail)
    exact bodyPost_ret (v := .bool true) (by simp [results, Try.results5, go_sem]) rfl ⟨rfl, HW4.out⟩
  | true =>
    by_cases hlen : 2000 < nb
    · have hl : decide ((2000 : Int) < (nb : Int)) = true := decide_eq_true (by omega)
      have hl2 : decide (2000 < nb) = true := decide_eq_true hlen
      go_wp2_with (fail)
      exact bodyPost_ret (v := .bool true) (by simp [results, Try.results5, go_sem]) rfl ⟨rfl, HW4.out⟩
    · have hl : decide ((2000 : Int) < (nb : Int)) = false := decide_eq_false (by omega)
      have hl2 : decide (2000 < nb) = false := decide_eq_false hlen
      have HLEN : Aside0 (nb ≤ 2000) := ⟨by omega⟩
      obtain ⟨hEn, hSch, hn, n1, n2, r0, r1⟩ := HMR.out rfl
      simp only at hEn hSch hn n1 n2 r0 r1
      rw [← hn] at hSch r1
      have HSC : Aside0 (EnOk en ∧ SchOk en st.length tr st ∧ 0 ≤ root ∧ root < st.length) := ⟨hEn, hSch, r0, r1⟩
      have s0 : w4.cell? ⟨gs, 0, none⟩ = some (.slice A5 st.length c5) := (blk_cell HU4.out 0).trans rfl
      have s1 : w4.cell? ⟨gs, 1, none⟩ = some (.slice A6 en.length c6) := (blk_cell HU4.out 1).trans rfl
      have s2 : w4.cell? ⟨gs, 2, none⟩ = some (.int .i64 root) := (blk_cell HU4.out 2).trans rfl
      have HVAL : Aside0 (Calls Try.prog 14 #[.agg #[.slice A5 st.length c5, .slice A6 en.length c6, .int .i64 root], .slice Ab nb cb] w4 (VTop st en root nb w4)) := ⟨by
        have := vtop_any (tr := tr) hEn hSch ⟨HB.out, by have := HNB.out; have := HLEN.out; omega⟩ r0 r1 _ Ab cb w4 HS4.out (Kd.C_below HA.out HW4.out)
        rw [HNB.out] at this
        exact this⟩
      clear hEn hSch hn n1 n2 r0 r1 hlen HMR
      go_upto_region 7 with (go_at_call 14; (with_reducible refine HVAL.out.mono ?_); rintro e w5 hp; obtain ⟨v, j, v1, v2, rfl, hr1, hr2, hb, hok⟩ := hp; obtain ⟨A7, c7, rfl, -, -⟩ := hr1.slice; obtain ⟨A8, c8, rfl, -, -⟩ := hr2.slice; have HW5 := Aside0.mk (below_then HW4.out HW4.out.size hb); have HS5 := Aside0.mk (HS4.out.below hb); have HU5 := Aside0.mk ((hb.block _ (blk_lt HU4.out)).trans HU4.out); have HV5 := Aside0.mk (rb_isV hr1 hr2); have HOK := Aside0.mk hok; clear hr1 hr2 hb hok s0 s1 s2)
      have hb6 := below_alloc (Below.refl w5.heap.size w5) (.cells #[.int .u64 v.f0, .slice A7 v.f1.length c7, .slice A8 v.f2.length c8, .bool v.f3] 39)
      have HW6 := Aside0.mk (below_then HW5.out HW5.out.size hb6)
      have HS6 := Aside0.mk (HS5.out.below hb6)
      have HV6 := Aside0.mk (HV5.out.below hb6)
      have HU6 := Aside0.mk ((hb6.block _ (blk_lt HU5.out)).trans HU5.out)
      have HX6 := Aside0.mk (heap_alloc_new w5 (.cells #[.int .u64 v.f0, .slice A7 v.f1.length c7, .slice A8 v.f2.length c8, .bool v.f3] 39))
      obtain ⟨gv, hgv⟩ : ∃ gv, w5.heap.size = gv := ⟨_, rfl⟩
      obtain ⟨w6, hw6⟩ : ∃ w6, w5.alloc (.cells #[.int .u64 v.f0, .slice A7 v.f1.length c7, .slice A8 v.f2.length c8, .bool v.f3] 39) = w6 := ⟨_, rfl⟩
      rw [hw6] at HW6 HS6 HV6 HU6 HX6
      rw [hgv] at HX6
      rw [hw6, hgv]
      clear hgv hw6 hb6 HS5 HV5 HU5
      have HWT : Aside0 (wt v ≤ 42017) := ⟨vok_wt HOK.out HLEN.out⟩
      have HTREE : Aside0 (∀ (W : World) (u : Value), Below w6.heap.size w6 W → IsV W v u → Calls Try.prog 16 #[.agg #[.slice A5 st.length c5, .slice A6 en.length c6, .int .i64 root], .int .i64 root, .iface 80 u] W (MkPost W v)) := ⟨fun W u hW hu =>
        (trees_all HS6.out (sch_ty HSC.out.2.1) 12).2 root v u W HSC.out.2.2.1 HSC.out.2.2.2 HOK.out.fit (HOK.out.has rfl rfl rfl (by decide)) (by have := HWT.out; omega) hW hu⟩
      have HFIT : Aside0 (∀ (W : World), Below w6.heap.size w6 W → Calls Try.prog 7 #[.agg #[.slice A5 st.length c5, .slice A6 en.length c6, .int .i64 root], .int .i64 root, .agg #[.int .u64 v.f0, .slice A7 v.f1.length c7, .slice A8 v.f2.length c8, .bool v.f3]] W fun e w' => e = .returned (.bool true) ∧ Below W.heap.size W w') := ⟨fun W hW => by
        have := fitstop_any (sch_good HSC.out.2.1) root v _ _ W (HS6.out.below hW) (HV6.out.below hW)
        rw [vok_top HOK.out HSC.out.2.2.1 HSC.out.2.2.2] at this
        exact this⟩
      have v0 : w6.cell? ⟨gv, 0, none⟩ = some (.int .u64 v.f0) := (blk_cell HX6.out 0).trans rfl
      have v1 : w6.cell? ⟨gv, 1, none⟩ = some (.slice A7 v.f1.length c7) := (blk_cell HX6.out 1).trans rfl
      have v2 : w6.cell? ⟨gv, 2, none⟩ = some (.slice A8 v.f2.length c8) := (blk_cell HX6.out 2).trans rfl
      have v3 : w6.cell? ⟨gv, 3, none⟩ = some (.bool v.f3) := (blk_cell HX6.out 3).trans rfl
      go_upto_region 8 with (go_at_call 13; (with_reducible refine (of_any _ _ _ _ w6).mono ?_); rintro e w7 ⟨rfl, hb7⟩; have HB7 := Aside0.mk hb7; clear hb7 v0 v1 v2 v3)
      have s0 := pw_cell_below HB7.out ((blk_cell HU6.out 0).trans rfl)
      have s1 := pw_cell_below HB7.out ((blk_cell HU6.out 1).trans rfl)
      have s2 := pw_cell_below HB7.out ((blk_cell HU6.out 2).trans rfl)
      go_upto_region 9 with (go_at_call 16; (with_reducible refine (HTREE.out w7 _ HB7.out (HV6.out.below HB7.out)).mono ?_); rintro e w8 hp; obtain ⟨x1, x2, rfl, hr1, hr2, hb⟩ := hp; obtain ⟨A9, c9, rfl, -, -⟩ := hr1.slice; obtain ⟨A10, c10, rfl, -, -⟩ := hr2.slice; have HB8 := Aside0.mk (below_then HB7.out HB7.out.size hb); have HT8 := Aside0.mk (rb_isV (v := v) hr1 hr2); clear hr1 hr2 hb s0 s1 s2)
      have hb9 := below_alloc (Below.refl w8.heap.size w8) (.cells #[.int .u64 v.f0, .slice A9 v.f1.length c9, .slice A10 v.f2.length c10, .bool v.f3] 39)
      have HB9 := Aside0.mk (below_then HB8.out HB8.out.size hb9)
      have HT9 := Aside0.mk (HT8.out.below hb9)
      have HX9 := Aside0.mk (heap_alloc_new w8 (.cells #[.int .u64 v.f0, .slice A9 v.f1.length c9, .slice A10 v.f2.length c10, .bool v.f3] 39))
      obtain ⟨gt, hgt⟩ : ∃ gt, w8.heap.size = gt := ⟨_, rfl⟩
      obtain ⟨w9, hw9⟩ : ∃ w9, w8.alloc (.cells #[.int .u64 v.f0, .slice A9 v.f1.length c9, .slice A10 v.f2.length c10, .bool v.f3] 39) = w9 := ⟨_, rfl⟩
      rw [hw9] at HB9 HT9 HX9
      rw [hgt] at HX9
      rw [hw9, hgt]
      clear hgt hw9 hb9
      have HCELL : Aside0 (∀ W, Below w9.heap.size w9 W → W.cell? ⟨gs, 0, none⟩ = some (.slice A5 st.length c5) ∧ W.cell? ⟨gs, 1, none⟩ = some (.slice A6 en.length c6) ∧ W.cell? ⟨gs, 2, none⟩ = some (.int .i64 root) ∧ W.cell? ⟨gv, 0, none⟩ = some (.int .u64 v.f0) ∧ W.cell? ⟨gv, 1, none⟩ = some (.slice A7 v.f1.length c7) ∧ W.cell? ⟨gv, 2, none⟩ = some (.slice A8 v.f2.length c8) ∧ W.cell? ⟨gv, 3, none⟩ = some (.bool v.f3) ∧ W.cell? ⟨gt, 0, none⟩ = some (.int .u64 v.f0) ∧ W.cell? ⟨gt, 1, none⟩ = some (.slice A9 v.f1.length c9) ∧ W.cell? ⟨gt, 2, none⟩ = some (.slice A10 v.f2.length c10) ∧ W.cell? ⟨gt, 3, none⟩ = some (.bool v.f3)) := ⟨fun W hW => by
        have h1 := below_then HB9.out HB9.out.size hW
        exact ⟨pw_cell_below h1 ((blk_cell HU6.out 0).trans rfl), pw_cell_below h1 ((blk_cell HU6.out 1).trans rfl), pw_cell_below h1 ((blk_cell HU6.out 2).trans rfl), pw_cell_below h1 ((blk_cell HX6.out 0).trans rfl), pw_cell_below h1 ((blk_cell HX6.out 1).trans rfl), pw_cell_below h1 ((blk_cell HX6.out 2).trans rfl), pw_cell_below h1 ((blk_cell HX6.out 3).trans rfl),
          pw_cell_below hW ((blk_cell HX9.out 0).trans rfl), pw_cell_below hW ((blk_cell HX9.out 1).trans rfl), pw_cell_below hW ((blk_cell HX9.out 2).trans rfl), pw_cell_below hW ((blk_cell HX9.out 3).trans rfl)⟩⟩
      have HSAME : Aside0 (∀ (W : World) (u : Value), Below w9.heap.size w9 W → IsV W v u → Calls Try.prog 10 #[u, .agg #[.int .u64 v.f0, .slice A7 v.f1.length c7, .slice A8 v.f2.length c8, .bool v.f3]] W fun e w' => e = .returned (.bool true) ∧ Below W.heap.size W w') := ⟨fun W u hW hu =>
        same_any hu (HV6.out.below (below_then HB9.out HB9.out.size hW)) (by have := HWT.out; omega)⟩
      obtain ⟨s0, s1, s2, v0, v1, v2, v3, t0, t1, t2, t3⟩ := HCELL.out w9 (Below.refl _ _)
      go_region_held3 (fun W => W.cell? ⟨gs, 0, none⟩ = some (.slice A5 st.length c5) ∧ W.cell? ⟨gs, 1, none⟩ = some (.slice A6 en.length c6) ∧ W.cell? ⟨gs, 2, none⟩ = some (.int .i64 root) ∧ W.cell? ⟨gv, 0, none⟩ = some (.int .u64 v.f0) ∧ W.cell? ⟨gv, 1, none⟩ = some (.slice A7 v.f1.length c7) ∧ W.cell? ⟨gv, 2, none⟩ = some (.slice A8 v.f2.length c8) ∧ W.cell? ⟨gv, 3, none⟩ = some (.bool v.f3) ∧ W.cell? ⟨gt, 0, none⟩ = some (.int .u64 v.f0) ∧ W.cell? ⟨gt, 1, none⟩ = some (.slice A9 v.f1.length c9) ∧ W.cell? ⟨gt, 2, none⟩ = some (.slice A10 v.f2.length c10) ∧ W.cell? ⟨gt, 3, none⟩ = some (.bool v.f3))
        (first | with_reducible exact ka | with_reducible exact kb | with_reducible exact kc | with_reducible exact kd | with_reducible exact ke | go_keep)
        (first
          | (go_at_call 7; (with_reducible refine (HFIT.out w9.drew (below_then HB9.out HB9.out.size (below_drew (Below.refl _ _)))).mono ?_); rintro e wa ⟨rfl, hb⟩; have HBA := Aside0.mk (below_then (below_drew (Below.refl w9.heap.size w9)) (Nat.le_refl _) hb); have ka := HCELL.out wa HBA.out; clear hb)
          | (go_at_call 10; (with_reducible refine (HSAME.out wa (.agg #[.int .u64 v.f0, .slice A9 v.f1.length c9, .slice A10 v.f2.length c10, .bool v.f3]) HBA.out (HT9.out.below HBA.out)).mono ?_); rintro e wb ⟨rfl, hb⟩; have HBB := Aside0.mk (below_then HBA.out HBA.out.size hb); have kb := HCELL.out wb HBB.out; clear hb)
          | (go_at_call 13; (with_reducible refine (of_any _ _ _ _ wb).mono ?_); rintro e wc ⟨rfl, hb⟩; have HBC := Aside0.mk (below_then HBB.out HBB.out.size hb); have kc := HCELL.out wc HBC.out; clear hb)
          | (go_at_call 16; (with_reducible refine (HTREE.out wc (.agg #[.int .u64 v.f0, .slice A9 v.f1.length c9, .slice A10 v.f2.length c10, .bool v.f3]) (below_then HB9.out HB9.out.size HBC.out) (HT9.out.below HBC.out)).mono ?_); rintro e wd hp; obtain ⟨x1, x2, rfl, hr1, hr2, hb⟩ := hp; obtain ⟨A11, c11, rfl, -, -⟩ := hr1.slice; obtain ⟨A12, c12, rfl, -, -⟩ := hr2.slice; have HBD := Aside0.mk (below_then HBC.out HBC.out.size hb); have HTD := Aside0.mk (rb_isV (v := v) hr1 hr2); have kd := HCELL.out wd HBD.out; clear hr1 hr2 hb)
          | (go_at_call 10; (with_reducible refine (HSAME.out wd (.agg #[.int .u64 v.f0, .slice A11 v.f1.length c11, .slice A12 v.f2.length c12, .bool v.f3]) HBD.out HTD.out).mono ?_); rintro e we ⟨rfl, hb⟩; have HBE := Aside0.mk (below_then HBD.out HBD.out.size hb); have ke := HCELL.out we HBE.out; clear hb))
      go_wp2_with (fail)
      exact bodyPost_ret (v := .bool true) (by simp [results, Try.results5, go_sem]) rfl ⟨rfl, below_then HW6.out HW6.out.size (below_then HB9.out HB9.out.size HBE.out)⟩
end Go.Proofs.Ythilhndejhnlnaa.Hand
end
