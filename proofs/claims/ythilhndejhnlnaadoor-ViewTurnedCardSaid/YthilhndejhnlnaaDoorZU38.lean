/- Texts joined: WalkViewTurned. -/
import Derived.Test.YthilhndejhnlnaaDoorZU29
import Derived.Test.YthilhndejhnlnaaDoorZU37
section
/- ViewTurned: a value that fits, in which something is turned about: the walk. -/
namespace Go.Proofs.YthilhndejhnlnaaDoor.Hand
open Go.RowKit Go.Proofs.YthilhndejhnlnaaDoor.QAll Go.Proofs.YthilhndejhnlnaaDoorW.PrintWords Go.Proofs.YthilhndejhnlnaaDoorW.PrintLast Go.Proofs.YthilhndejhnlnaaDoorW.PrintMore Go.Proofs.YthilhndejhnlnaaDoor.Mk
set_option linter.unusedVariables false
set_option linter.unusedSimpArgs false
theorem sch_all {en : List S58} {tr : Bool} {st : List S50} (h : SchOk en st.length tr st) : ∀ r ∈ st, ∀ f ∈ r.f1, TyG en st.length f.f1.f0 f.f1.f1 f.f1.f2 := by
  intro r hr f hf
  obtain ⟨i, hi, e⟩ := List.mem_iff_getElem.1 hr
  exact sch_ty h i r (by rw [List.getElem?_eq_getElem hi, e]) f hf
theorem rb_FV {w : World} {b : Nat} {v : S29} {A1 A2 : Option Addr} {c1 c2 : Nat} (h : IsV w v (.agg #[.int .u64 v.f0, .slice A1 v.f1.length c1, .slice A2 v.f2.length c2, .bool v.f3])) : FV w (fun k => k < w.heap.size) v (.agg #[.int .u64 v.f0, .slice A1 v.f1.length c1, .slice A2 v.f2.length c2, .bool v.f3]) := by
  obtain ⟨B1, d1, B2, d2, e, k1, l1, k2, l2⟩ := h
  exact ⟨B1, d1, B2, d2, e, Kd.C_F (Kd.heap_int _) k1, l1, Kd.C_F heap29 k2, l2⟩
set_option maxHeartbeats 6400000 in
set_option maxRecDepth 100000 in
theorem viewTurned_at (E : List Int) (S : List (List S61)) (Rt : Int) (tr : Bool) (hEb : ∀ x ∈ E, 0 ≤ x ∧ x < 256) (hSb : ∀ l ∈ S, ∀ x ∈ l, BOk x) (hRt : 0 ≤ Rt ∧ Rt < 256) (A0 : Option Addr) (z0 : Nat) (A1 : Option Addr) (z1 : Nat) (B : List Int) (hB : ∀ x ∈ B, 0 ≤ x ∧ x < 256) (Ab : Option Addr) (cb : Nat) (Wy : List Int) (hWy : ∀ x ∈ Wy, 0 ≤ x ∧ x < 256) (Aw : Option Addr) (cw : Nat) (what n : Int) (hwh : 0 ≤ what ∧ what < 256) (hnn : 0 ≤ n ∧ n < 18446744073709551616) (w : World)
    (hE : Kd.C (Kd.int .u8) w A0 E.length E) (hEz : E.length ≤ z0) (hS : Kd.C (Kd.slice 61 k61) w A1 S.length S) (hSz : S.length ≤ z1) (hA : Kd.C (Kd.int .u8) w Ab B.length B) (hAw : Kd.C (Kd.int .u8) w Aw Wy.length Wy) (hcw : Wy.length ≤ cw) (hT : Tabs w) :
    Calls Tryd.prog 4 #[.agg #[.slice A0 E.length z0, .slice A1 S.length z1, .int .u8 Rt, .bool tr], .slice Ab B.length cb, .slice Aw Wy.length cw, .int .u8 what, .int .u64 n] w fun e w' => e = .returned (.bool true) ∧ Below w.heap.size w w' := by
  obtain ⟨PV, hPV⟩ : ∃ PV : Array Value, #[.slice A0 E.length z0, .slice A1 S.length z1, .int .u8 Rt, .bool tr] = PV := ⟨_, rfl⟩
  obtain ⟨w1, hw1⟩ : ∃ w1, w.alloc (.cells #[.slice A0 E.length z0, .slice A1 S.length z1, .int .u8 Rt, .bool tr] 25) = w1 := ⟨_, rfl⟩
  obtain ⟨gp, hgp⟩ : ∃ gp, w.heap.size = gp := ⟨_, rfl⟩
  have HMADE : Aside0 (∀ (W : World), Below w.heap.size w W → Calls Tryd.prog 6 #[.agg #[.slice A0 E.length z0, .slice A1 S.length z1, .int .u8 Rt, .bool tr]] W (MPost S.length tr W)) := ⟨fun W h => made_any E S Rt tr hEb hSb hRt A0 z0 A1 z1 W (Kd.C_below hE h) hEz (Kd.C_below hS h) hSz⟩
  have HA := Aside0.mk hA
  have HAY := Aside0.mk hAw
  have HCW := Aside0.mk hcw
  have HTB := Aside0.mk hT
  have HTURN : Aside0 (∀ (v : S29) (u : Value) (W : World) (okv : Nat → Prop), rng v → wt v ≤ 90000 → FV W okv v u → Below w.heap.size w W → Calls Tryd.prog 10 #[u, .slice Aw Wy.length cw, .int .u8 what, .int .u64 n, .int .i64 20] W (TPost okv v W)) := ⟨fun v u W okv h1 h2 h3 hW => turn_any what n hnn hwh Wy 20 v u Aw cw W okv (by decide) hWy h1 h2 h3 (Kd.C_below hAw hW) hcw⟩
  obtain ⟨ny, hny⟩ : ∃ ny : Nat, Wy.length = ny := ⟨_, rfl⟩
  rw [hny] at HTURN ⊢
  have HB := Aside0.mk hB
  have HAW : Aside0 (∀ W, Calls Tryd.prog 5 #[] W fun e w' => e = .returned (.bool true) ∧ Below W.heap.size W w') := ⟨awake07⟩
  have HW1 : Aside0 (Below w.heap.size w w1) := ⟨by rw [← hw1]; exact below_alloc (Below.refl _ _) _⟩
  have HP1 : Aside0 (w1.heap[gp]? = some (.cells #[.slice A0 E.length z0, .slice A1 S.length z1, .int .u8 Rt, .bool tr] 25 (0, 0))) := ⟨by rw [← hw1, ← hgp]; exact heap_alloc_new w _⟩
  have HEQ := Aside0.mk (And.intro hgp hw1)
  have kb : ∃ nb : Nat, B.length = nb := ⟨_, rfl⟩
  clear hE hS hEb hSb hRt hEz hSz hA hB hPV hgp hw1 hAw hcw hT hWy hwh hnn hny
  go_enter Tryd.func4, Tryd.ntmps4
  go_upto_region 1 with (fail)
  rw [HEQ.out.1, HEQ.out.2]
  go_upto_region 3 with (go_at_call 5; (with_reducible refine (HAW.out _).mono ?_); rintro e w2 ⟨rfl, hb⟩; have HW2 := Aside0.mk (below_then HW1.out HW1.out.size hb); have HP2 := Aside0.mk ((hb.block _ (blk_lt HP1.out)).trans HP1.out); clear hb)
  have p0 : w2.cell? ⟨gp, 0, none⟩ = some (.slice A0 E.length z0) := (blk_cell HP2.out 0).trans rfl
  have p1 : w2.cell? ⟨gp, 1, none⟩ = some (.slice A1 S.length z1) := (blk_cell HP2.out 1).trans rfl
  have p2 : w2.cell? ⟨gp, 2, none⟩ = some (.int .u8 Rt) := (blk_cell HP2.out 2).trans rfl
  have p3 : w2.cell? ⟨gp, 3, none⟩ = some (.bool tr) := (blk_cell HP2.out 3).trans rfl
  go_upto_region 4 with (go_at_call 6; (with_reducible refine (HMADE.out w2 HW2.out).mono ?_); rintro e w3 hp; obtain ⟨st, en, root, ok, v0, v1, rfl, hr1, hr2, hb, hmr, -⟩ := hp; obtain ⟨A5, c5, rfl, -, -⟩ := hr1.slice; obtain ⟨A6, c6, rfl, -, -⟩ := hr2.slice; have HW3 := Aside0.mk (below_then HW2.out HW2.out.size hb); have HS3 := Aside0.mk (rb_isS (root := root) hr1 hr2); have HMR := Aside0.mk hmr; clear hr1 hr2 hb hmr p0 p1 p2 p3)
  have hb4 := below_alloc (Below.refl w3.heap.size w3) (.cells #[.slice A5 st.length c5, .slice A6 en.length c6, .int .i64 root] 34)
  have HW4 := Aside0.mk (below_then HW3.out HW3.out.size hb4)
  have HS4 := Aside0.mk (HS3.out.below hb4)
  have HU4 := Aside0.mk (heap_alloc_new w3 (.cells #[.slice A5 st.length c5, .slice A6 en.length c6, .int .i64 root] 34))
  obtain ⟨gs, hgs⟩ : ∃ gs, w3.heap.size = gs := ⟨_, rfl⟩
  obtain ⟨w4, hw4⟩ : ∃ w4, w3.alloc (.cells #[.slice A5 st.length c5, .slice A6 en.length c6, .int .i64 root] 34) = w4 := ⟨_, rfl⟩
  rw [hw4] at HW4 HS4 HU4
  rw [hgs] at HU4
  rw [hw4, hgs]
  clear hgs hw4 hb4 HS3
  obtain ⟨nb, hnb⟩ : ∃ nb : Nat, B.length = nb := ⟨_, rfl⟩
  have HNB := Aside0.mk hnb
  rw [hnb]
  clear hnb
  cases ok with
  | false =>
    go_wp2_with (fail)
    exact bodyPost_ret (v := .bool true) (by simp [results, Tryd.results4, go_sem]) rfl ⟨rfl, HW4.out⟩
  | true =>
    by_cases hlen : 2000 < nb
    · have hl : decide ((2000 : Int) < (nb : Int)) = true := decide_eq_true (by omega)
      have hl2 : decide (2000 < nb) = true := decide_eq_true hlen
      go_wp2_with (fail)
      exact bodyPost_ret (v := .bool true) (by simp [results, Tryd.results4, go_sem]) rfl ⟨rfl, HW4.out⟩
    · have hl : decide ((2000 : Int) < (nb : Int)) = false := decide_eq_false (by omega)
      have hl2 : decide (2000 < nb) = false := decide_eq_false hlen
      have HLEN : Aside0 (nb ≤ 2000) := ⟨by omega⟩
      obtain ⟨hEn, hSch, hn, n1, n2, r0, r1⟩ := HMR.out rfl
      simp only at hEn hSch hn n1 n2 r0 r1
      rw [← hn] at hSch r1
      have HSC : Aside0 (EnOk en ∧ SchOk en st.length tr st ∧ 0 ≤ root ∧ root < st.length) := ⟨hEn, hSch, r0, r1⟩
      have s0 : w4.cell? ⟨gs, 0, none⟩ = some (.slice A5 st.length c5) := (blk_cell HU4.out 0).trans rfl
      have s1 : w4.cell? ⟨gs, 1, none⟩ = some (.slice A6 en.length c6) := (blk_cell HU4.out 1).trans rfl
      have s2 : w4.cell? ⟨gs, 2, none⟩ = some (.int .i64 root) := (blk_cell HU4.out 2).trans rfl
      have HVAL : Aside0 (Calls Tryd.prog 11 #[.agg #[.slice A5 st.length c5, .slice A6 en.length c6, .int .i64 root], .slice Ab nb cb] w4 (VTop st en root nb w4)) := ⟨by
        have := vtop_any (tr := tr) hEn hSch ⟨HB.out, by have := HNB.out; have := HLEN.out; omega⟩ r0 r1 _ Ab cb w4 HS4.out (Kd.C_below HA.out HW4.out)
        rw [HNB.out] at this
        exact this⟩
      clear hEn hSch hn n1 n2 r0 r1 hlen HMR
      go_upto_region 7 with (first
        | (go_at_call 11; (with_reducible refine HVAL.out.mono ?_); rintro e w5 hp; obtain ⟨v, j, v1, v2, rfl, hr1, hr2, hb, hok⟩ := hp; obtain ⟨A7, c7, rfl, -, -⟩ := hr1.slice; obtain ⟨A8, c8, rfl, -, -⟩ := hr2.slice; have HW5 := Aside0.mk (below_then HW4.out HW4.out.size hb); have HS5 := Aside0.mk (HS4.out.below hb); have HU5 := Aside0.mk ((hb.block _ (blk_lt HU4.out)).trans HU4.out); have HV5 := Aside0.mk (rb_isV hr1 hr2); have HOK := Aside0.mk hok; clear hr1 hr2 hb hok s0 s1 s2)
        | (go_at_call 10; (with_reducible refine (HTURN.out v _ w5 _ HOK.out.rg (by have := vok_wt HOK.out HLEN.out; omega) (rb_FV (b := 0) HV5.out) HW5.out).mono ?_); rintro e w6 hp; obtain ⟨V, B1, d1, B2, d2, rfl, hF1, m1, hF2, m2, hrV, hwV, hbx⟩ := hp; have HW6 := Aside0.mk (below_then HW5.out HW5.out.size hbx); have HS6 := Aside0.mk (HS5.out.below hbx); have HU6 := Aside0.mk ((hbx.block _ (blk_lt HU5.out)).trans HU5.out); have HV6 : Aside0 (IsV w6 V (.agg #[.int .u64 V.f0, .slice B1 V.f1.length d1, .slice B2 V.f2.length d2, .bool V.f3])) := ⟨B1, d1, B2, d2, rfl, Kd.F_now hF1, m1, Kd.F_now hF2, m2⟩; have HVV : Aside0 (rng V ∧ wt V ≤ 100000) := ⟨hrV, by have := vok_wt HOK.out HLEN.out; omega⟩; clear hF1 m1 hF2 m2 hrV hwV hbx))
      have hb7 := below_alloc (Below.refl w6.heap.size w6) (.cells #[.int .u64 V.f0, .slice B1 V.f1.length d1, .slice B2 V.f2.length d2, .bool V.f3] 29)
      have HW7 := Aside0.mk (below_then HW6.out HW6.out.size hb7)
      have HS7 := Aside0.mk (HS6.out.below hb7)
      have HV7 := Aside0.mk (HV6.out.below hb7)
      have HU7 := Aside0.mk ((hb7.block _ (blk_lt HU6.out)).trans HU6.out)
      have HX7 := Aside0.mk (heap_alloc_new w6 (.cells #[.int .u64 V.f0, .slice B1 V.f1.length d1, .slice B2 V.f2.length d2, .bool V.f3] 29))
      obtain ⟨gv, hgv⟩ : ∃ gv, w6.heap.size = gv := ⟨_, rfl⟩
      obtain ⟨w7, hw7⟩ : ∃ w7, w6.alloc (.cells #[.int .u64 V.f0, .slice B1 V.f1.length d1, .slice B2 V.f2.length d2, .bool V.f3] 29) = w7 := ⟨_, rfl⟩
      rw [hw7] at HW7 HS7 HV7 HU7 HX7
      rw [hgv] at HX7
      rw [hw7, hgv]
      clear hgv hw7 hb7 HS6 HV6 HU6
      obtain ⟨r, hr⟩ : ∃ r, fitsTop st en root root V = r := ⟨_, rfl⟩
      have HFIT : Aside0 (∀ (W : World), Below w7.heap.size w7 W → Calls Tryd.prog 8 #[.agg #[.slice A5 st.length c5, .slice A6 en.length c6, .int .i64 root], .int .i64 root, .agg #[.int .u64 V.f0, .slice B1 V.f1.length d1, .slice B2 V.f2.length d2, .bool V.f3]] W fun e w' => e = .returned (.bool r) ∧ Below W.heap.size W w') := ⟨fun W hW => by
        have := fitstop_any (sch_good HSC.out.2.1) root V _ _ W (HS7.out.below hW) (HV7.out.below hW)
        rw [hr] at this
        exact this⟩
      have HWHO : Aside0 (∀ (W : World), Below w7.heap.size w7 W → Calls Tryd.prog 9 #[.agg #[.slice A5 st.length c5, .slice A6 en.length c6, .int .i64 root], .int .i64 root, .agg #[.int .u64 V.f0, .slice B1 V.f1.length d1, .slice B2 V.f2.length d2, .bool V.f3]] W fun e w' => e = .returned (.bool r) ∧ Below W.heap.size W w') := ⟨fun W hW => by
        have := whole_any (sch_all HSC.out.2.1) root V _ _ W HVV.out.1 HVV.out.2 (HS7.out.below hW) (HV7.out.below hW) (HTB.out.below (below_then HW7.out HW7.out.size hW))
        rw [hr] at this
        exact this⟩
      have HCELL : Aside0 (∀ W, Below w7.heap.size w7 W → W.cell? ⟨gs, 0, none⟩ = some (.slice A5 st.length c5) ∧ W.cell? ⟨gs, 1, none⟩ = some (.slice A6 en.length c6) ∧ W.cell? ⟨gs, 2, none⟩ = some (.int .i64 root) ∧ W.cell? ⟨gv, 0, none⟩ = some (.int .u64 V.f0) ∧ W.cell? ⟨gv, 1, none⟩ = some (.slice B1 V.f1.length d1) ∧ W.cell? ⟨gv, 2, none⟩ = some (.slice B2 V.f2.length d2) ∧ W.cell? ⟨gv, 3, none⟩ = some (.bool V.f3)) := ⟨fun W hW =>
        ⟨pw_cell_below hW ((blk_cell HU7.out 0).trans rfl), pw_cell_below hW ((blk_cell HU7.out 1).trans rfl), pw_cell_below hW ((blk_cell HU7.out 2).trans rfl), pw_cell_below hW ((blk_cell HX7.out 0).trans rfl), pw_cell_below hW ((blk_cell HX7.out 1).trans rfl), pw_cell_below hW ((blk_cell HX7.out 2).trans rfl), pw_cell_below hW ((blk_cell HX7.out 3).trans rfl)⟩⟩
      have heq : (r == r) = true := by cases r <;> rfl
      obtain ⟨s0, s1, s2, v0, v1, v2, v3⟩ := HCELL.out w7 (Below.refl _ _)
      clear hr
      go_region_held3 (fun W => W.cell? ⟨gs, 0, none⟩ = some (.slice A5 st.length c5) ∧ W.cell? ⟨gs, 1, none⟩ = some (.slice A6 en.length c6) ∧ W.cell? ⟨gs, 2, none⟩ = some (.int .i64 root) ∧ W.cell? ⟨gv, 0, none⟩ = some (.int .u64 V.f0) ∧ W.cell? ⟨gv, 1, none⟩ = some (.slice B1 V.f1.length d1) ∧ W.cell? ⟨gv, 2, none⟩ = some (.slice B2 V.f2.length d2) ∧ W.cell? ⟨gv, 3, none⟩ = some (.bool V.f3))
        (first | with_reducible exact ka | with_reducible exact kb | go_keep)
        (first
          | (go_at_call 8; (with_reducible refine (HFIT.out w7.drew (below_drew (Below.refl _ _))).mono ?_); rintro e wa ⟨rfl, hb⟩; have HBA := Aside0.mk (below_then (below_drew (Below.refl w7.heap.size w7)) (Nat.le_refl _) hb); have ka := HCELL.out wa HBA.out; clear hb)
          | (go_at_call 9; (with_reducible refine (HWHO.out wa HBA.out).mono ?_); rintro e wb ⟨rfl, hb⟩; have HBB := Aside0.mk (below_then HBA.out HBA.out.size hb); have kb := HCELL.out wb HBB.out; clear hb))
      go_wp2_with (fail)
      exact bodyPost_ret (v := .bool true) (by simp [results, Tryd.results4, go_sem]) rfl ⟨rfl, below_then HW7.out HW7.out.size HBB.out⟩
theorem viewTurned_walk (cs : Array Value) (p : Plan) (a1 : Option Addr) (len1 cap1 : Nat) (B : List Int) (a2 : Option Addr) (len2 cap2 : Nat) (Wy : List Int) (what n : Int) (w : World) (K0 : KPlan.K w p (Value.agg cs).cells.toList) (wf0 : wfPlan p) (K1 : (Kd.slice 5 (Kd.int .u8)).K w B (Value.slice a1 len1 cap1).cells.toList) (wf1 : B.length ≤ maxLen ∧ ∀ x ∈ B, (Lit.int .u8 x).wf = true) (K2 : (Kd.slice 5 (Kd.int .u8)).K w Wy (Value.slice a2 len2 cap2).cells.toList) (wf2 : Wy.length ≤ maxLen ∧ ∀ x ∈ Wy, (Lit.int .u8 x).wf = true) (w3 : (Lit.int .u8 what).wf = true) (w4 : (Lit.int .u64 n).wf = true) (hT : Tabs w) :
    Calls Tryd.prog 4 #[.agg cs, .slice a1 len1 cap1, .slice a2 len2 cap2, .int .u8 what, .int .u64 n] w fun e w' => e = .returned (.bool true) ∧ Below w.heap.size w w' := by
  obtain ⟨A0, z0, A1, z1, rfl, k0, l0, k1, l1⟩ := plan_in K0
  obtain ⟨A, c, he, hc, hC⟩ := K1
  have he' : Value.slice a1 len1 cap1 = .slice A B.length c := by simpa [Value.cells] using he
  obtain ⟨A2, c2, he2, hc2, hC2⟩ := K2
  have he2' : Value.slice a2 len2 cap2 = .slice A2 Wy.length c2 := by simpa [Value.cells] using he2
  rw [he', he2']
  exact viewTurned_at p.1 p.2.1 p.2.2.1 p.2.2.2 (fun x hx => by have := U.wf_u8 (wf0.1.2 x hx); omega) (fun l hl x hx => bok_of ((wf0.2.1.2 l hl).2 x hx)) (by have := U.wf_u8 wf0.2.2.1; omega) A0 z0 A1 z1 B (fun x hx => by have := U.wf_u8 (wf1.2 x hx); omega) A c Wy (fun x hx => by have := U.wf_u8 (wf2.2 x hx); omega) A2 c2 what n (by have := U.wf_u8 w3; omega) (by have := U.wf_u64 w4; omega) w k0 l0 k1 l1 hC hC2 hc2 hT
end Go.Proofs.YthilhndejhnlnaaDoor.Hand
end
