/- Texts joined: WalkViewDefaults. -/
import Derived.Test.YthilhndejhnlnaaZD34
import Derived.Test.YthilhndejhnlnaaZD37
section
/- ViewDefaults: defaults fit, and are empty; a field is empty just if its value is its default: the walk. -/
namespace Go.Proofs.Ythilhndejhnlnaa.Hand
open Go.RowKit Go.Proofs.Ythilhndejhnlnaa.QAll Go.Proofs.YthilhndejhnlnaaW.PrintWords Go.Proofs.YthilhndejhnlnaaW.PrintLast Go.Proofs.YthilhndejhnlnaaW.PrintMore Go.Proofs.Ythilhndejhnlnaa.Mk
set_option linter.unusedVariables false
set_option linter.unusedSimpArgs false
theorem rd39_get {l : List S39} {k : Nat} (h : k < l.length) : rd_T39 l (k : Int) = l[k] := by unfold rd_T39; rw [show ((k : Int)).toNat = k from rfl, List.getD_eq_getElem?_getD, List.getElem?_eq_getElem h]; rfl
set_option maxHeartbeats 6400000 in
set_option maxRecDepth 100000 in
theorem viewDefaults_at (E : List Int) (S : List (List S64)) (Rt : Int) (tr : Bool) (hEb : ∀ x ∈ E, 0 ≤ x ∧ x < 256) (hSb : ∀ l ∈ S, ∀ x ∈ l, BOk x) (hRt : 0 ≤ Rt ∧ Rt < 256) (A0 : Option Addr) (z0 : Nat) (A1 : Option Addr) (z1 : Nat) (B : List Int) (hB : ∀ x ∈ B, 0 ≤ x ∧ x < 256) (Ab : Option Addr) (cb : Nat) (w : World)
    (hE : Kd.C (Kd.int .u8) w A0 E.length E) (hEz : E.length ≤ z0) (hS : Kd.C (Kd.slice 64 k64) w A1 S.length S) (hSz : S.length ≤ z1) (hA : Kd.C (Kd.int .u8) w Ab B.length B) :
    Calls Try.prog 4 #[.agg #[.slice A0 E.length z0, .slice A1 S.length z1, .int .u8 Rt, .bool tr], .slice Ab B.length cb] w fun e w' => e = .returned (.bool true) ∧ Below w.heap.size w w' := by
  obtain ⟨PV, hPV⟩ : ∃ PV : Array Value, #[.slice A0 E.length z0, .slice A1 S.length z1, .int .u8 Rt, .bool tr] = PV := ⟨_, rfl⟩
  obtain ⟨w1, hw1⟩ : ∃ w1, w.alloc (.cells #[.slice A0 E.length z0, .slice A1 S.length z1, .int .u8 Rt, .bool tr] 44) = w1 := ⟨_, rfl⟩
  obtain ⟨gp, hgp⟩ : ∃ gp, w.heap.size = gp := ⟨_, rfl⟩
  have HMADE : Aside0 (∀ (W : World), Below w.heap.size w W → Calls Try.prog 8 #[.agg #[.slice A0 E.length z0, .slice A1 S.length z1, .int .u8 Rt, .bool tr]] W (MPost S.length tr W)) := ⟨fun W h => made_any E S Rt tr hEb hSb hRt A0 z0 A1 z1 W (Kd.C_below hE h) hEz (Kd.C_below hS h) hSz⟩
  have HA := Aside0.mk hA
  have HB := Aside0.mk hB
  have HAW : Aside0 (∀ W, Calls Try.prog 6 #[] W fun e w' => e = .returned (.bool true) ∧ Below W.heap.size W w') := ⟨awake07⟩
  have HW1 : Aside0 (Below w.heap.size w w1) := ⟨by rw [← hw1]; exact below_alloc (Below.refl _ _) _⟩
  have HP1 : Aside0 (w1.heap[gp]? = some (.cells #[.slice A0 E.length z0, .slice A1 S.length z1, .int .u8 Rt, .bool tr] 44 (0, 0))) := ⟨by rw [← hw1, ← hgp]; exact heap_alloc_new w _⟩
  have HEQ := Aside0.mk (And.intro hgp hw1)
  have kb : ∃ nb : Nat, B.length = nb := ⟨_, rfl⟩
  clear hE hS hEb hSb hRt hEz hSz hA hB hPV hgp hw1
  go_enter Try.func4, Try.ntmps4
  go_upto_region 1 with (fail)
  rw [HEQ.out.1, HEQ.out.2]
  go_upto_region 3 with (go_at_call 6; (with_reducible refine (HAW.out _).mono ?_); rintro e w2 ⟨rfl, hb⟩; have HW2 := Aside0.mk (below_then HW1.out HW1.out.size hb); have HP2 := Aside0.mk ((hb.block _ (blk_lt HP1.out)).trans HP1.out); clear hb)
  have p0 : w2.cell? ⟨gp, 0, none⟩ = some (.slice A0 E.length z0) := (blk_cell HP2.out 0).trans rfl
  have p1 : w2.cell? ⟨gp, 1, none⟩ = some (.slice A1 S.length z1) := (blk_cell HP2.out 1).trans rfl
  have p2 : w2.cell? ⟨gp, 2, none⟩ = some (.int .u8 Rt) := (blk_cell HP2.out 2).trans rfl
  have p3 : w2.cell? ⟨gp, 3, none⟩ = some (.bool tr) := (blk_cell HP2.out 3).trans rfl
  go_upto_region 4 with (go_at_call 8; (with_reducible refine (HMADE.out w2 HW2.out).mono ?_); rintro e w3 hp; obtain ⟨st, en, root, ok, v0, v1, rfl, hr1, hr2, hb, hmr, -⟩ := hp; obtain ⟨A5, c5, rfl, -, hk5⟩ := hr1.slice; obtain ⟨A6, c6, rfl, -, -⟩ := hr2.slice; have HW3 := Aside0.mk (below_then HW2.out HW2.out.size hb); have HS3 := Aside0.mk (rb_isS (root := root) hr1 hr2); have HMR := Aside0.mk hmr; have HK3 := Aside0.mk hk5; clear hk5 hr1 hr2 hb hmr p0 p1 p2 p3)
  have hb4 := below_alloc (Below.refl w3.heap.size w3) (.cells #[.slice A5 st.length c5, .slice A6 en.length c6, .int .i64 root] 35)
  have HW4 := Aside0.mk (below_then HW3.out HW3.out.size hb4)
  have HS4 := Aside0.mk (HS3.out.below hb4)
  have HK4 := Aside0.mk (Kd.C_below HK3.out hb4)
  have HU4 := Aside0.mk (heap_alloc_new w3 (.cells #[.slice A5 st.length c5, .slice A6 en.length c6, .int .i64 root] 35))
  obtain ⟨gs, hgs⟩ : ∃ gs, w3.heap.size = gs := ⟨_, rfl⟩
  obtain ⟨w4, hw4⟩ : ∃ w4, w3.alloc (.cells #[.slice A5 st.length c5, .slice A6 en.length c6, .int .i64 root] 35) = w4 := ⟨_, rfl⟩
  rw [hw4] at HW4 HS4 HU4 HK4
  rw [hgs] at HU4
  rw [hw4, hgs]
  clear hgs hw4 hb4 HS3 HK3
  obtain ⟨nb, hnb⟩ : ∃ nb : Nat, B.length = nb := ⟨_, rfl⟩
  have HNB := Aside0.mk hnb
  rw [hnb]
  clear hnb
  cases ok with
  | false =>
    go_wp2_with (fail)
    exact bodyPost_ret (v := .bool true) (by simp [results, Try.results4, go_sem]) rfl ⟨rfl, HW4.out⟩
  | true =>
    by_cases hlen : 2000 < nb
    · have hl : decide ((2000 : Int) < (nb : Int)) = true := decide_eq_true (by omega)
      have hl2 : decide (2000 < nb) = true := decide_eq_true hlen
      go_wp2_with (fail)
      exact bodyPost_ret (v := .bool true) (by simp [results, Try.results4, go_sem]) rfl ⟨rfl, HW4.out⟩
    · have hl : decide ((2000 : Int) < (nb : Int)) = false := decide_eq_false (by omega)
      have hl2 : decide (2000 < nb) = false := decide_eq_false hlen
      have HLEN : Aside0 (nb ≤ 2000) := ⟨by omega⟩
      obtain ⟨hEn, hSch, hn, n1, n2, r0, r1⟩ := HMR.out rfl
      simp only at hEn hSch hn n1 n2 r0 r1
      rw [← hn] at hSch r1
      have HSC : Aside0 (EnOk en ∧ SchOk en st.length tr st ∧ 0 ≤ root ∧ root < st.length) := ⟨hEn, hSch, r0, r1⟩
      have HN16 : Aside0 (st.length ≤ 16) := ⟨by omega⟩
      clear hEn hSch hn n1 n2 r0 r1 hlen HMR
      have s0 : w4.cell? ⟨gs, 0, none⟩ = some (.slice A5 st.length c5) := (blk_cell HU4.out 0).trans rfl
      go_wp2_with (fail)
      clear s0
      go_loopg [32] (st.length + 1) (fun kq v32 wr => ∃ (i : Nat), v32 = .int .i64 i ∧ Aside0 (i ≤ st.length) ∧ Aside0 (st.length < kq + i) ∧ Aside0 (Below w4.heap.size w4 wr))
      case atStart => exact ⟨0, rfl, ⟨Nat.zero_le _⟩, ⟨by omega⟩, ⟨Below.refl _ _⟩⟩
      case round =>
        obtain ⟨i, rfl, HI, HIQ, HWR⟩ := hrel
        obtain ⟨n, rfl⟩ : ∃ n, gk = n + 1 := ⟨gk - 1, by have := HIQ.out; have := HI.out; omega⟩
        obtain ⟨wo, rfl⟩ : ∃ wo : World, wo = wr := ⟨_, rfl⟩
        by_cases p : i < st.length
        · have p1 : decide (i < st.length) = true := decide_eq_true p
          have p2 : decide ((i : Int) < (st.length : Int)) = true := decide_eq_true (by omega)
          have i0 : (0 : Int) ≤ (i : Int) := Int.natCast_nonneg _
          have i1 : (i : Int) < (st.length : Int) := by omega
          have ib9 : i ≤ 1000 := by have := HN16.out; omega
          obtain ⟨ad, A7, c7, rfl, x0, x1, hF1, hF2⟩ := at_T31 HK4.out (i : Int) i0 i1
          rw [show ((i : Int)).toNat = i from rfl] at x0 x1
          obtain ⟨R, hR⟩ : ∃ R, rd_T31 st (i : Int) = R := ⟨_, rfl⟩
          rw [hR] at x0 x1 hF1 hF2
          have HR : Aside0 (st[i]? = some R) := ⟨by rw [← hR, rd31_get p]; exact List.getElem?_eq_getElem p⟩
          have hfs := HSC.out.2.1.fs i R HR.out
          have HFS := Aside0.mk hfs
          have HF2 := Aside0.mk (And.intro hF1 (Kd.C_below hF2 HWR.out))
          replace x0 := pw_cell_below HWR.out x0
          replace x1 := pw_cell_below HWR.out x1
          have HP := Aside0.mk p
          clear hR hF1 hF2 hfs p
          go_upto_region 9 with (fail)
          have hb1 := below_alloc (Below.refl wo.heap.size wo) (.cells #[.string R.f0, .slice A7 R.f1.length c7] 31)
          have HB1 := Aside0.mk (below_then HWR.out HWR.out.size hb1)
          have HX1 := Aside0.mk (heap_alloc_new wo (.cells #[.string R.f0, .slice A7 R.f1.length c7] 31))
          obtain ⟨gr, hgr⟩ : ∃ gr, wo.heap.size = gr := ⟨_, rfl⟩
          obtain ⟨w5, hw5⟩ : ∃ w5, wo.alloc (.cells #[.string R.f0, .slice A7 R.f1.length c7] 31) = w5 := ⟨_, rfl⟩
          have HB1' := Aside0.mk hb1
          rw [hw5] at HB1 HX1 HB1'
          rw [hgr] at HX1
          rw [hw5, hgr]
          clear x0 x1 hgr hw5 hb1
          have HDEF : Aside0 (∀ W, Below w5.heap.size w5 W → Calls Try.prog 9 #[.agg #[.string R.f0, .slice A7 R.f1.length c7]] W (MkPost W (dflt R.f1))) := ⟨fun W hW => default_any _ _ _ _ W (Kd.C_below (Kd.C_below HF2.out.2 HB1'.out) hW) HF2.out.1 (by have := HFS.out.2.1; omega)⟩
          have HRDE : Aside0 (∀ W, Below w5.heap.size w5 W → Calls Try.prog 11 #[.agg #[.string R.f0, .slice A7 R.f1.length c7]] W (MkPost W (dflt R.f1))) := ⟨fun W hW => rdefault_any _ _ _ _ W (Kd.C_below (Kd.C_below HF2.out.2 HB1'.out) hW) HF2.out.1 (by have := HFS.out.2.1; omega)⟩
          have x0 : w5.cell? ⟨gr, 0, none⟩ = some (.string R.f0) := (blk_cell HX1.out 0).trans rfl
          have x1 : w5.cell? ⟨gr, 1, none⟩ = some (.slice A7 R.f1.length c7) := (blk_cell HX1.out 1).trans rfl
          obtain ⟨D, hD⟩ : ∃ D, dflt R.f1 = D := ⟨_, rfl⟩
          have HD := Aside0.mk hD
          rw [hD] at HDEF HRDE
          clear hD
          go_upto_region 10 with (go_at_call 9; (with_reducible refine (HDEF.out w5 (Below.refl _ _)).mono ?_); rintro e w6 hp; obtain ⟨y1, y2, rfl, hr1, hr2, hb⟩ := hp; obtain ⟨A8, c8, rfl, -, -⟩ := hr1.slice; obtain ⟨A9, c9, rfl, -, -⟩ := hr2.slice; have HB2 := Aside0.mk hb; have HV2 := Aside0.mk (rb_isV (v := D) hr1 hr2); clear hr1 hr2 hb x0 x1)
          have hb3 := below_alloc (Below.refl w6.heap.size w6) (.cells #[.int .u64 D.f0, .slice A8 D.f1.length c8, .slice A9 D.f2.length c9, .bool D.f3] 39)
          have HB3 := Aside0.mk (below_then HB2.out HB2.out.size hb3)
          have HV3 := Aside0.mk (HV2.out.below hb3)
          have HX3 := Aside0.mk (heap_alloc_new w6 (.cells #[.int .u64 D.f0, .slice A8 D.f1.length c8, .slice A9 D.f2.length c9, .bool D.f3] 39))
          obtain ⟨gd, hgd⟩ : ∃ gd, w6.heap.size = gd := ⟨_, rfl⟩
          obtain ⟨w7, hw7⟩ : ∃ w7, w6.alloc (.cells #[.int .u64 D.f0, .slice A8 D.f1.length c8, .slice A9 D.f2.length c9, .bool D.f3] 39) = w7 := ⟨_, rfl⟩
          rw [hw7] at HB3 HV3 HX3
          rw [hgd] at HX3
          rw [hw7, hgd]
          clear hgd hw7 hb3 HV2
          have HB4 : Aside0 (Below w4.heap.size w4 w7) := ⟨below_then HB1.out HB1.out.size HB3.out⟩
          have HCELL : Aside0 (∀ W, Below w7.heap.size w7 W → W.cell? ⟨gs, 0, none⟩ = some (.slice (some ad) st.length c5) ∧ W.cell? ⟨gs, 1, none⟩ = some (.slice A6 en.length c6) ∧ W.cell? ⟨gs, 2, none⟩ = some (.int .i64 root) ∧ W.cell? ⟨gr, 0, none⟩ = some (.string R.f0) ∧ W.cell? ⟨gr, 1, none⟩ = some (.slice A7 R.f1.length c7) ∧ W.cell? ⟨gd, 0, none⟩ = some (.int .u64 D.f0) ∧ W.cell? ⟨gd, 1, none⟩ = some (.slice A8 D.f1.length c8) ∧ W.cell? ⟨gd, 2, none⟩ = some (.slice A9 D.f2.length c9) ∧ W.cell? ⟨gd, 3, none⟩ = some (.bool D.f3)) := ⟨fun W hW => by
            have h1 := below_then HB4.out HB4.out.size hW
            have h2 := below_then HB3.out HB3.out.size hW
            exact ⟨pw_cell_below h1 ((blk_cell HU4.out 0).trans rfl), pw_cell_below h1 ((blk_cell HU4.out 1).trans rfl), pw_cell_below h1 ((blk_cell HU4.out 2).trans rfl), pw_cell_below h2 ((blk_cell HX1.out 0).trans rfl), pw_cell_below h2 ((blk_cell HX1.out 1).trans rfl), pw_cell_below hW ((blk_cell HX3.out 0).trans rfl), pw_cell_below hW ((blk_cell HX3.out 1).trans rfl), pw_cell_below hW ((blk_cell HX3.out 2).trans rfl), pw_cell_below hW ((blk_cell HX3.out 3).trans rfl)⟩⟩
          have HFIT : Aside0 (∀ (W : World), Below w7.heap.size w7 W → Calls Try.prog 7 #[.agg #[.slice (some ad) st.length c5, .slice A6 en.length c6, .int .i64 root], .int .i64 i, .agg #[.int .u64 D.f0, .slice A8 D.f1.length c8, .slice A9 D.f2.length c9, .bool D.f3]] W fun e w' => e = .returned (.bool true) ∧ Below W.heap.size W w') := ⟨fun W hW => by
            have hi : i < st.length := HP.out
            have h1 := fitstop_any (sch_good HSC.out.2.1) (i : Int) D _ _ W (HS4.out.below (below_then HB4.out HB4.out.size hW)) (HV3.out.below hW)
            have e1 : st[i] = R := by have := HR.out; rw [List.getElem?_eq_getElem hi] at this; exact Option.some.inj this
            have h2 := fits_dflt root HSC.out.2.1 i hi
            rw [e1, HD.out] at h2
            rw [h2] at h1
            exact h1⟩
          have HSAME : Aside0 (∀ (W : World) (u2 : Value), Below w7.heap.size w7 W → IsV W D u2 → Calls Try.prog 10 #[.agg #[.int .u64 D.f0, .slice A8 D.f1.length c8, .slice A9 D.f2.length c9, .bool D.f3], u2] W fun e w' => e = .returned (.bool true) ∧ Below W.heap.size W w') := ⟨fun W u2 hW hu => same_any (HV3.out.below hW) hu (by rw [← HD.out, wt_dflt]; have := HFS.out.2.1; omega)⟩
          obtain ⟨s0, s1, s2, x0, x1, y0, y1, y2, y3⟩ := HCELL.out w7 (Below.refl _ _)
          go_region_held3 (fun W => W.cell? ⟨gs, 0, none⟩ = some (.slice (some ad) st.length c5) ∧ W.cell? ⟨gs, 1, none⟩ = some (.slice A6 en.length c6) ∧ W.cell? ⟨gs, 2, none⟩ = some (.int .i64 root) ∧ W.cell? ⟨gr, 0, none⟩ = some (.string R.f0) ∧ W.cell? ⟨gr, 1, none⟩ = some (.slice A7 R.f1.length c7) ∧ W.cell? ⟨gd, 0, none⟩ = some (.int .u64 D.f0) ∧ W.cell? ⟨gd, 1, none⟩ = some (.slice A8 D.f1.length c8) ∧ W.cell? ⟨gd, 2, none⟩ = some (.slice A9 D.f2.length c9) ∧ W.cell? ⟨gd, 3, none⟩ = some (.bool D.f3))
            (first | with_reducible exact ka | with_reducible exact kb | with_reducible exact kc | go_keep)
            (first
              | (go_at_call 7; (with_reducible refine (HFIT.out w7.drew (below_drew (Below.refl _ _))).mono ?_); rintro e wa ⟨rfl, hb⟩; have HBA := Aside0.mk (below_then (below_drew (Below.refl w7.heap.size w7)) (Nat.le_refl _) hb); have ka := HCELL.out wa HBA.out; clear hb)
              | (go_at_call 11; (with_reducible refine (HRDE.out wa (below_then HB3.out HB3.out.size HBA.out)).mono ?_); rintro e wb hp; obtain ⟨z1, z2, rfl, hr1, hr2, hb⟩ := hp; obtain ⟨A10, c10, rfl, -, -⟩ := hr1.slice; obtain ⟨A11, c11, rfl, -, -⟩ := hr2.slice; have HBB := Aside0.mk (below_then HBA.out HBA.out.size hb); have HVB := Aside0.mk (rb_isV (v := D) hr1 hr2); have kb := HCELL.out wb HBB.out; clear hr1 hr2 hb)
              | (go_at_call 10; (with_reducible refine (HSAME.out wb _ HBB.out HVB.out).mono ?_); rintro e wc ⟨rfl, hb⟩; have HBC := Aside0.mk (below_then HBB.out HBB.out.size hb); have kc := HCELL.out wc HBC.out; clear hb))
          clear s0 s1 s2 x0 x1 y0 y1 y2 y3 ka kb
          go_upto_region 12 with (fail)
          have x1 : wc.cell? ⟨gr, 1, none⟩ = some (.slice A7 R.f1.length c7) := kc.2.2.2.2.1
          go_wp2_with (fail)
          clear x1
          go_loopg [54] (R.f1.length + 1) (fun kq v54 wr => ∃ (k : Nat), v54 = .int .i64 k ∧ Aside0 (k ≤ R.f1.length) ∧ Aside0 (R.f1.length < kq + k) ∧ Aside0 (Below wc.heap.size wc wr))
          case atStart => exact ⟨0, rfl, ⟨Nat.zero_le _⟩, ⟨by omega⟩, ⟨Below.refl _ _⟩⟩
          case round =>
            obtain ⟨k, rfl, HK, HKQ, HWC⟩ := hrel
            obtain ⟨m, rfl⟩ : ∃ m, gk = m + 1 := ⟨gk - 1, by have := HKQ.out; have := HK.out; omega⟩
            by_cases q : k < R.f1.length
            · have q1 : decide (k < R.f1.length) = true := decide_eq_true q
              have q2 : decide ((k : Int) < (R.f1.length : Int)) = true := decide_eq_true (by omega)
              have k0 : (0 : Int) ≤ (k : Int) := Int.natCast_nonneg _
              have k1 : (k : Int) < (R.f1.length : Int) := by omega
              have kb9 : k ≤ 1000 := by have := HFS.out.2.1; omega
              obtain ⟨af, rfl, m0, m1, m2, m3, m4⟩ := at_T28 HF2.out.2 (k : Int) k0 k1
              rw [show ((k : Int)).toNat = k from rfl] at m0 m1 m2 m3 m4
              rw [rd28_get q] at m0 m1 m2 m3 m4
              obtain ⟨F, hF⟩ : ∃ F, R.f1[k] = F := ⟨_, rfl⟩
              rw [hF] at m0 m1 m2 m3 m4
              have HFK : Aside0 (FOk en st.length tr i F) := ⟨by rw [← hF]; exact HFS.out.2.2 _ (List.getElem_mem q)⟩
              have HDK : Aside0 (∃ h : k < D.f2.length, D.f2[k] = dk F) := ⟨by subst hF; rw [← HD.out]; exact ⟨by simpa [dflt] using q, by simp [dflt]⟩⟩
              have HBO : Aside0 (Below wo.heap.size wo wr) := ⟨below_then HB1'.out HB1'.out.size (below_then HB3.out HB3.out.size (below_then HBC.out HBC.out.size HWC.out))⟩
              replace m0 := pw_cell_below HBO.out m0
              replace m1 := pw_cell_below HBO.out m1
              replace m2 := pw_cell_below HBO.out m2
              replace m3 := pw_cell_below HBO.out m3
              replace m4 := pw_cell_below HBO.out m4
              clear hF
              go_upto_region 15 with (fail)
              have hb5 := below_alloc (Below.refl wr.heap.size wr) (.cells #[.string F.f0, .int .u8 F.f1.f0, .int .i64 F.f1.f1, .int .i64 F.f1.f2, .int .u64 F.f2] 28)
              have HX5 := Aside0.mk (heap_alloc_new wr (.cells #[.string F.f0, .int .u8 F.f1.f0, .int .i64 F.f1.f1, .int .i64 F.f1.f2, .int .u64 F.f2] 28))
              have HB5 := Aside0.mk hb5
              obtain ⟨gf, hgf⟩ : ∃ gf, wr.heap.size = gf := ⟨_, rfl⟩
              obtain ⟨w8, hw8⟩ : ∃ w8, wr.alloc (.cells #[.string F.f0, .int .u8 F.f1.f0, .int .i64 F.f1.f1, .int .i64 F.f1.f2, .int .u64 F.f2] 28) = w8 := ⟨_, rfl⟩
              rw [hw8] at HX5 HB5
              rw [hgf] at HX5
              rw [hw8, hgf]
              clear m0 m1 m2 m3 m4 hb5 hgf hw8
              have HB6 : Aside0 (Below w7.heap.size w7 w8) := ⟨below_then HBC.out HBC.out.size (below_then HWC.out HWC.out.size HB5.out)⟩
              have HCEL2 : Aside0 (∀ W, Below w8.heap.size w8 W → W.cell? ⟨gf, 0, none⟩ = some (.string F.f0) ∧ W.cell? ⟨gf, 1, none⟩ = some (.int .u8 F.f1.f0) ∧ W.cell? ⟨gf, 2, none⟩ = some (.int .i64 F.f1.f1) ∧ W.cell? ⟨gf, 3, none⟩ = some (.int .i64 F.f1.f2) ∧ W.cell? ⟨gf, 4, none⟩ = some (.int .u64 F.f2) ∧ W.cell? ⟨gd, 0, none⟩ = some (.int .u64 D.f0) ∧ W.cell? ⟨gd, 1, none⟩ = some (.slice A8 D.f1.length c8) ∧ W.cell? ⟨gd, 2, none⟩ = some (.slice A9 D.f2.length c9) ∧ W.cell? ⟨gd, 3, none⟩ = some (.bool D.f3)) := ⟨fun W hW => by
                have h1 := below_then HB6.out HB6.out.size hW
                exact ⟨pw_cell_below hW ((blk_cell HX5.out 0).trans rfl), pw_cell_below hW ((blk_cell HX5.out 1).trans rfl), pw_cell_below hW ((blk_cell HX5.out 2).trans rfl), pw_cell_below hW ((blk_cell HX5.out 3).trans rfl), pw_cell_below hW ((blk_cell HX5.out 4).trans rfl), pw_cell_below h1 ((blk_cell HX3.out 0).trans rfl), pw_cell_below h1 ((blk_cell HX3.out 1).trans rfl), pw_cell_below h1 ((blk_cell HX3.out 2).trans rfl), pw_cell_below h1 ((blk_cell HX3.out 3).trans rfl)⟩⟩
              have HEMP : Aside0 (∀ (W : World), Below w8.heap.size w8 W → Calls Try.prog 12 #[fldV F, .iface 80 (.agg #[.int .u64 D.f0, .slice A8 D.f1.length c8, .slice A9 D.f2.length c9, .bool D.f3]), .int .i64 k] W fun e w' => e = .returned (.bool true) ∧ Below W.heap.size W w') := ⟨fun W hW => by
                obtain ⟨h, he⟩ := HDK.out
                have h1 := empty_any F D _ k h W (HV3.out.below (below_then HB6.out HB6.out.size hW)) (by rw [he]; simp [dk])
                rw [he, empty_dk HFK.out] at h1
                exact h1⟩
              obtain ⟨t0, t1, t2, t3, t4, y0, y1, y2, y3⟩ := HCEL2.out w8 (Below.refl _ _)
              go_region_held3 (fun W => W.cell? ⟨gf, 0, none⟩ = some (.string F.f0) ∧ W.cell? ⟨gf, 1, none⟩ = some (.int .u8 F.f1.f0) ∧ W.cell? ⟨gf, 2, none⟩ = some (.int .i64 F.f1.f1) ∧ W.cell? ⟨gf, 3, none⟩ = some (.int .i64 F.f1.f2) ∧ W.cell? ⟨gf, 4, none⟩ = some (.int .u64 F.f2) ∧ W.cell? ⟨gd, 0, none⟩ = some (.int .u64 D.f0) ∧ W.cell? ⟨gd, 1, none⟩ = some (.slice A8 D.f1.length c8) ∧ W.cell? ⟨gd, 2, none⟩ = some (.slice A9 D.f2.length c9) ∧ W.cell? ⟨gd, 3, none⟩ = some (.bool D.f3))
                (first | with_reducible exact ka | with_reducible exact kb | go_keep)
                (first
                  | (go_at_call 13; (with_reducible refine (of_any _ _ _ _ w8.drew).mono ?_); rintro e wa ⟨rfl, hb⟩; have HBA2 := Aside0.mk (below_then (below_drew (Below.refl w8.heap.size w8)) (Nat.le_refl _) hb); have ka := HCEL2.out wa HBA2.out; clear hb)
                  | (go_at_call 12; (with_reducible refine (HEMP.out wa HBA2.out).mono ?_); rintro e wb ⟨rfl, hb⟩; have HBB2 := Aside0.mk (below_then HBA2.out HBA2.out.size hb); have kb := HCEL2.out wb HBB2.out; clear hb))
              go_wp2_with (fail)
              go_roundg m
              case measure => omega
              case rel => exact ⟨k + 1, by go_num, ⟨by omega⟩, ⟨by have := HKQ.out; omega⟩, ⟨below_then HWC.out HWC.out.size (below_then HB5.out HB5.out.size HBB2.out)⟩⟩
            · have q1 : decide (k < R.f1.length) = false := decide_eq_false q
              have q2 : decide ((k : Int) < (R.f1.length : Int)) = false := decide_eq_false (by omega)
              go_wp2_with (fail)
              go_roundg n
              case measure => omega
              case rel => exact ⟨i + 1, by go_num, ⟨by have := HP.out; omega⟩, ⟨by have := HIQ.out; omega⟩, ⟨below_then HB4.out HB4.out.size (below_then HBC.out HBC.out.size HWC.out)⟩⟩
        · have p1 : decide (i < st.length) = false := decide_eq_false p
          have p2 : decide ((i : Int) < (st.length : Int)) = false := decide_eq_false (by omega)
          have HVAL : Aside0 (Calls Try.prog 14 #[.agg #[.slice A5 st.length c5, .slice A6 en.length c6, .int .i64 root], .slice Ab nb cb] wo (VTop st en root nb wo)) := ⟨by
            have := vtop_any (tr := tr) HSC.out.1 HSC.out.2.1 ⟨HB.out, by have := HNB.out; have := HLEN.out; omega⟩ HSC.out.2.2.1 HSC.out.2.2.2 _ Ab cb wo (HS4.out.below HWR.out) (Kd.C_below HA.out (below_then HW4.out HW4.out.size HWR.out))
            rw [HNB.out] at this
            exact this⟩
          have s0 : wo.cell? ⟨gs, 0, none⟩ = some (.slice A5 st.length c5) := pw_cell_below HWR.out ((blk_cell HU4.out 0).trans rfl)
          have s1 : wo.cell? ⟨gs, 1, none⟩ = some (.slice A6 en.length c6) := pw_cell_below HWR.out ((blk_cell HU4.out 1).trans rfl)
          have s2 : wo.cell? ⟨gs, 2, none⟩ = some (.int .i64 root) := pw_cell_below HWR.out ((blk_cell HU4.out 2).trans rfl)
          clear p
          go_upto_region 20 with (go_at_call 14; (with_reducible refine HVAL.out.mono ?_); rintro e w5 hp; obtain ⟨v, j, v1, v2, rfl, hr1, hr2, hb, hok⟩ := hp; obtain ⟨A7, c7, rfl, -, -⟩ := hr1.slice; obtain ⟨A8, c8, rfl, -, hk8⟩ := hr2.slice; have HW5 := Aside0.mk (below_then HWR.out HWR.out.size hb); have HV5 := Aside0.mk (rb_isV hr1 hr2); have HK5 := Aside0.mk hk8; have HOK := Aside0.mk hok; clear hr1 hr2 hb hok hk8 s0 s1 s2)
          have hb6 := below_alloc (Below.refl w5.heap.size w5) (.cells #[.int .u64 v.f0, .slice A7 v.f1.length c7, .slice A8 v.f2.length c8, .bool v.f3] 39)
          have HW6 := Aside0.mk (below_then HW5.out HW5.out.size hb6)
          have HV6 := Aside0.mk (HV5.out.below hb6)
          have HK6 := Aside0.mk (Kd.C_below HK5.out hb6)
          have HX6 := Aside0.mk (heap_alloc_new w5 (.cells #[.int .u64 v.f0, .slice A7 v.f1.length c7, .slice A8 v.f2.length c8, .bool v.f3] 39))
          obtain ⟨gv, hgv⟩ : ∃ gv, w5.heap.size = gv := ⟨_, rfl⟩
          obtain ⟨w6, hw6⟩ : ∃ w6, w5.alloc (.cells #[.int .u64 v.f0, .slice A7 v.f1.length c7, .slice A8 v.f2.length c8, .bool v.f3] 39) = w6 := ⟨_, rfl⟩
          rw [hw6] at HW6 HV6 HK6 HX6
          rw [hgv] at HX6
          rw [hw6, hgv]
          clear hgv hw6 hb6 HV5 HK5
          have HWT : Aside0 (wt v ≤ 42017) := ⟨vok_wt HOK.out HLEN.out⟩
          obtain ⟨q, rfl⟩ := Int.eq_ofNat_of_zero_le HSC.out.2.2.1
          have hq : q < st.length := by have := HSC.out.2.2.2; omega
          have q0 : (0 : Int) ≤ (q : Int) := Int.natCast_nonneg _
          have q1 : (q : Int) < (st.length : Int) := by omega
          obtain ⟨ad, A9, c9, rfl, x0, x1, hF1, hF2⟩ := at_T31 HK4.out (q : Int) q0 q1
          rw [show ((q : Int)).toNat = q from rfl] at x0 x1
          obtain ⟨R, hR⟩ : ∃ R, rd_T31 st (q : Int) = R := ⟨_, rfl⟩
          rw [hR] at x0 x1 hF1 hF2
          have HR : Aside0 (st[q]? = some R) := ⟨by rw [← hR, rd31_get hq]; exact List.getElem?_eq_getElem hq⟩
          have HFS := Aside0.mk (HSC.out.2.1.fs q R HR.out)
          have HF2 := Aside0.mk (And.intro hF1 (Kd.C_below hF2 HW6.out))
          have HKID : Aside0 (v.f2.length = R.f1.length ∧ ∃ d, ∀ (k : Nat) (h1 : k < R.f1.length) (h2 : k < v.f2.length), fitsB st en (q : Int) d (R.f1[k]).f1.f0 (R.f1[k]).f1.f1 (R.f1[k]).f1.f2 v.f2[k] = true) := ⟨by
            obtain ⟨e, -, -, -, h1, h2⟩ := fits_there HOK.out.fit (HOK.out.has rfl rfl rfl (by decide))
            rw [hR] at h1
            subst hR
            exact ⟨h1, e, h2⟩⟩
          replace x0 := pw_cell_below HW6.out x0
          replace x1 := pw_cell_below HW6.out x1
          have s0 : w6.cell? ⟨gs, 0, none⟩ = some (.slice (some ad) st.length c5) := pw_cell_below HW6.out ((blk_cell HU4.out 0).trans rfl)
          have s1 : w6.cell? ⟨gs, 1, none⟩ = some (.slice A6 en.length c6) := pw_cell_below HW6.out ((blk_cell HU4.out 1).trans rfl)
          have s2 : w6.cell? ⟨gs, 2, none⟩ = some (.int .i64 (q : Int)) := pw_cell_below HW6.out ((blk_cell HU4.out 2).trans rfl)
          have q2 : decide ((q : Int) < 0) = false := decide_eq_false (by omega)
          have q3 : decide (q < st.length) = true := decide_eq_true hq
          have q4 : decide ((q : Int) < (st.length : Int)) = true := decide_eq_true q1
          clear hR hF1 hF2
          go_wp2_with (fail)
          go_loopg [78] (R.f1.length + 1) (fun kq v78 wr => ∃ (k : Nat), v78 = .int .i64 k ∧ Aside0 (k ≤ R.f1.length) ∧ Aside0 (R.f1.length < kq + k) ∧ Aside0 (Below w6.heap.size w6 wr))
          case atStart => exact ⟨0, rfl, ⟨Nat.zero_le _⟩, ⟨by omega⟩, ⟨Below.refl _ _⟩⟩
          case round =>
            obtain ⟨k, rfl, HK, HKQ, HWC⟩ := hrel
            obtain ⟨m, rfl⟩ : ∃ m, gk = m + 1 := ⟨gk - 1, by have := HKQ.out; have := HK.out; omega⟩
            by_cases t : k < R.f1.length
            · have t1 : decide (k < R.f1.length) = true := decide_eq_true t
              have d2 : decide ((k : Int) < (R.f1.length : Int)) = true := decide_eq_true (by omega)
              have k0 : (0 : Int) ≤ (k : Int) := Int.natCast_nonneg _
              have k1 : (k : Int) < (R.f1.length : Int) := by omega
              have kb9 : k ≤ 1000 := by have := HFS.out.2.1; omega
              have hk2 : k < v.f2.length := by have := HKID.out.1; omega
              have k2 : (k : Int) < (v.f2.length : Int) := by omega
              have d3 : decide (k < v.f2.length) = true := decide_eq_true hk2
              have d4 : decide ((k : Int) < (v.f2.length : Int)) = true := decide_eq_true k2
              have d5 : decide ((k : Int) < 0) = false := decide_eq_false (by omega)
              obtain ⟨af, rfl, m0, m1, m2, m3, m4⟩ := at_T28 HF2.out.2 (k : Int) k0 k1
              rw [show ((k : Int)).toNat = k from rfl] at m0 m1 m2 m3 m4
              rw [rd28_get t] at m0 m1 m2 m3 m4
              obtain ⟨av, A10, c10, A11, c11, rfl, n0, n1, n2, n3, l1, g1, l2, g2⟩ := at_T39 HK6.out (k : Int) k0 k2
              rw [show ((k : Int)).toNat = k from rfl] at n0 n1 n2 n3
              rw [rd39_get hk2] at n0 n1 n2 n3 l1 g1 l2 g2
              obtain ⟨F, hF⟩ : ∃ F, R.f1[k] = F := ⟨_, rfl⟩
              obtain ⟨KD, hKD⟩ : ∃ KD, v.f2[k] = KD := ⟨_, rfl⟩
              have HFK : Aside0 (FOk en st.length tr q F) := ⟨by rw [← hF]; exact HFS.out.2.2 _ (List.getElem_mem t)⟩
              have HEBD : Aside0 (emptyB F KD = isDefB F KD) := ⟨by
                obtain ⟨d, hd⟩ := HKID.out.2
                have := hd k t hk2
                rw [hF, hKD] at this
                exact kid_empty HFK.out this⟩
              have HKL : Aside0 (∃ h : k < v.f2.length, v.f2[k] = KD) := ⟨⟨hk2, hKD⟩⟩
              have HKB : Aside0 (KD.f1.length ≤ 140737488355328) := ⟨by have := wt_get v k hk2; have := HWT.out; rw [hKD] at *; have := wt_is KD; omega⟩
              rw [hF] at m0 m1 m2 m3 m4
              rw [hKD] at n0 n1 n2 n3 l1 g1 l2 g2
              have HVK : Aside0 (IsV w6 KD (.agg #[.int .u64 KD.f0, .slice A10 KD.f1.length c10, .slice A11 KD.f2.length c11, .bool KD.f3])) := ⟨A10, c10, A11, c11, rfl, g1, l1, g2, l2⟩
              have HN := Aside0.mk (And.intro n0 (And.intro n1 (And.intro n2 n3)))
              replace m0 := pw_cell_below HWC.out m0
              replace m1 := pw_cell_below HWC.out m1
              replace m2 := pw_cell_below HWC.out m2
              replace m3 := pw_cell_below HWC.out m3
              replace m4 := pw_cell_below HWC.out m4
              obtain ⟨EB, hEB⟩ : ∃ EB, isDefB F KD = EB := ⟨_, rfl⟩
              have HEB := Aside0.mk hEB
              clear hF hKD hk2 n0 n1 n2 n3 l1 g1 l2 g2 hEB
              go_upto_region 23 with (fail)
              have hb5 := below_alloc (Below.refl wr.heap.size wr) (.cells #[.string F.f0, .int .u8 F.f1.f0, .int .i64 F.f1.f1, .int .i64 F.f1.f2, .int .u64 F.f2] 28)
              have HX5 := Aside0.mk (heap_alloc_new wr (.cells #[.string F.f0, .int .u8 F.f1.f0, .int .i64 F.f1.f1, .int .i64 F.f1.f2, .int .u64 F.f2] 28))
              have HB5 := Aside0.mk hb5
              obtain ⟨gf, hgf⟩ : ∃ gf, wr.heap.size = gf := ⟨_, rfl⟩
              obtain ⟨w8, hw8⟩ : ∃ w8, wr.alloc (.cells #[.string F.f0, .int .u8 F.f1.f0, .int .i64 F.f1.f1, .int .i64 F.f1.f2, .int .u64 F.f2] 28) = w8 := ⟨_, rfl⟩
              rw [hw8] at HX5 HB5
              rw [hgf] at HX5
              rw [hw8, hgf]
              clear m0 m1 m2 m3 m4 hb5 hgf hw8
              have HB6 : Aside0 (Below w6.heap.size w6 w8) := ⟨below_then HWC.out HWC.out.size HB5.out⟩
              have HCEL : Aside0 (∀ W, Below w8.heap.size w8 W → W.cell? ⟨gf, 0, none⟩ = some (.string F.f0) ∧ W.cell? ⟨gf, 1, none⟩ = some (.int .u8 F.f1.f0) ∧ W.cell? ⟨gf, 2, none⟩ = some (.int .i64 F.f1.f1) ∧ W.cell? ⟨gf, 3, none⟩ = some (.int .i64 F.f1.f2) ∧ W.cell? ⟨gf, 4, none⟩ = some (.int .u64 F.f2) ∧ W.cell? ⟨gv, 0, none⟩ = some (.int .u64 v.f0) ∧ W.cell? ⟨gv, 1, none⟩ = some (.slice A7 v.f1.length c7) ∧ W.cell? ⟨gv, 2, none⟩ = some (.slice (some av) v.f2.length c8) ∧ W.cell? ⟨gv, 3, none⟩ = some (.bool v.f3) ∧ W.cell? (av.add (k * 4)) = some (.int .u64 KD.f0) ∧ W.cell? ⟨(av.add (k * 4)).block, (av.add (k * 4)).off + 1, none⟩ = some (.slice A10 KD.f1.length c10) ∧ W.cell? ⟨(av.add (k * 4)).block, (av.add (k * 4)).off + 2, none⟩ = some (.slice A11 KD.f2.length c11) ∧ W.cell? ⟨(av.add (k * 4)).block, (av.add (k * 4)).off + 3, none⟩ = some (.bool KD.f3)) := ⟨fun W hW => by
                have h1 := below_then HB6.out HB6.out.size hW
                exact ⟨pw_cell_below hW ((blk_cell HX5.out 0).trans rfl), pw_cell_below hW ((blk_cell HX5.out 1).trans rfl), pw_cell_below hW ((blk_cell HX5.out 2).trans rfl), pw_cell_below hW ((blk_cell HX5.out 3).trans rfl), pw_cell_below hW ((blk_cell HX5.out 4).trans rfl), pw_cell_below h1 ((blk_cell HX6.out 0).trans rfl), pw_cell_below h1 ((blk_cell HX6.out 1).trans rfl), pw_cell_below h1 ((blk_cell HX6.out 2).trans rfl), pw_cell_below h1 ((blk_cell HX6.out 3).trans rfl), pw_cell_below h1 HN.out.1, pw_cell_below h1 HN.out.2.1, pw_cell_below h1 HN.out.2.2.1, pw_cell_below h1 HN.out.2.2.2⟩⟩
              have HEMP : Aside0 (∀ (W : World), Below w8.heap.size w8 W → Calls Try.prog 12 #[fldV F, .iface 80 (.agg #[.int .u64 v.f0, .slice A7 v.f1.length c7, .slice (some av) v.f2.length c8, .bool v.f3]), .int .i64 k] W fun e w' => e = .returned (.bool EB) ∧ Below W.heap.size W w') := ⟨fun W hW => by
                obtain ⟨h, he⟩ := HKL.out
                have h1 := empty_any F v _ k h W (HV6.out.below (below_then HB6.out HB6.out.size hW)) (by rw [he]; exact HKB.out)
                rw [he, HEBD.out, HEB.out] at h1
                exact h1⟩
              have HISD : Aside0 (∀ (W : World), Below w8.heap.size w8 W → Calls Try.prog 15 #[fldV F, .agg #[.int .u64 KD.f0, .slice A10 KD.f1.length c10, .slice A11 KD.f2.length c11, .bool KD.f3]] W fun e w' => e = .returned (.bool EB) ∧ Below W.heap.size W w') := ⟨fun W hW => by
                have h1 := isdef_any F KD _ W (HVK.out.below (below_then HB6.out HB6.out.size hW))
                rw [HEB.out] at h1
                exact h1⟩
              have hne : (EB != EB) = false := by cases EB <;> rfl
              obtain ⟨m0, m1, m2, m3, m4, y0, y1, y2, y3, n0, n1, n2, n3⟩ := HCEL.out w8 (Below.refl _ _)
              go_region_held3 (fun W => W.cell? ⟨gf, 0, none⟩ = some (.string F.f0) ∧ W.cell? ⟨gf, 1, none⟩ = some (.int .u8 F.f1.f0) ∧ W.cell? ⟨gf, 2, none⟩ = some (.int .i64 F.f1.f1) ∧ W.cell? ⟨gf, 3, none⟩ = some (.int .i64 F.f1.f2) ∧ W.cell? ⟨gf, 4, none⟩ = some (.int .u64 F.f2) ∧ W.cell? ⟨gv, 0, none⟩ = some (.int .u64 v.f0) ∧ W.cell? ⟨gv, 1, none⟩ = some (.slice A7 v.f1.length c7) ∧ W.cell? ⟨gv, 2, none⟩ = some (.slice (some av) v.f2.length c8) ∧ W.cell? ⟨gv, 3, none⟩ = some (.bool v.f3) ∧ W.cell? (av.add (k * 4)) = some (.int .u64 KD.f0) ∧ W.cell? ⟨(av.add (k * 4)).block, (av.add (k * 4)).off + 1, none⟩ = some (.slice A10 KD.f1.length c10) ∧ W.cell? ⟨(av.add (k * 4)).block, (av.add (k * 4)).off + 2, none⟩ = some (.slice A11 KD.f2.length c11) ∧ W.cell? ⟨(av.add (k * 4)).block, (av.add (k * 4)).off + 3, none⟩ = some (.bool KD.f3))
                (first | with_reducible exact ka | with_reducible exact kb | with_reducible exact kc | go_keep)
                (first
                  | (go_at_call 13; (with_reducible refine (of_any _ _ _ _ w8.drew).mono ?_); rintro e wa ⟨rfl, hb⟩; have HBA2 := Aside0.mk (below_then (below_drew (Below.refl w8.heap.size w8)) (Nat.le_refl _) hb); have ka := HCEL.out wa HBA2.out; clear hb)
                  | (go_at_call 12; (with_reducible refine (HEMP.out wa HBA2.out).mono ?_); rintro e wb ⟨rfl, hb⟩; have HBB2 := Aside0.mk (below_then HBA2.out HBA2.out.size hb); have kb := HCEL.out wb HBB2.out; clear hb)
                  | (go_at_call 15; (with_reducible refine (HISD.out wb HBB2.out).mono ?_); rintro e wc ⟨rfl, hb⟩; have HBC2 := Aside0.mk (below_then HBB2.out HBB2.out.size hb); have kc := HCEL.out wc HBC2.out; clear hb))
              go_wp2_with (fail)
              go_roundg m
              case measure => omega
              case rel => exact ⟨k + 1, by go_num, ⟨by omega⟩, ⟨by have := HKQ.out; omega⟩, ⟨below_then HB6.out HB6.out.size HBC2.out⟩⟩
            · have d1 : decide (k < R.f1.length) = false := decide_eq_false t
              have d2 : decide ((k : Int) < (R.f1.length : Int)) = false := decide_eq_false (by omega)
              go_wp2_with (fail)
              exact bodyPost_ret (v := .bool true) (by simp [results, Try.results4, go_sem]) rfl ⟨rfl, below_then HW4.out HW4.out.size (below_then HW6.out HW6.out.size HWC.out)⟩
theorem viewDefaults_walk (cs : Array Value) (p : Plan) (a1 : Option Addr) (len1 cap1 : Nat) (B : List Int) (w : World) (K0 : KPlan.K w p (Value.agg cs).cells.toList) (wf0 : wfPlan p) (K1 : (Kd.slice 5 (Kd.int .u8)).K w B (Value.slice a1 len1 cap1).cells.toList) (wf1 : B.length ≤ maxLen ∧ ∀ x ∈ B, (Lit.int .u8 x).wf = true) :
    Calls Try.prog 4 #[.agg cs, .slice a1 len1 cap1] w fun e w' => e = .returned (.bool true) ∧ Below w.heap.size w w' := by
  obtain ⟨A0, z0, A1, z1, rfl, k0, l0, k1, l1⟩ := plan_in K0
  obtain ⟨A, c, he, hc, hC⟩ := K1
  have he' : Value.slice a1 len1 cap1 = .slice A B.length c := by simpa [Value.cells] using he
  rw [he']
  exact viewDefaults_at p.1 p.2.1 p.2.2.1 p.2.2.2 (fun x hx => by have := U.wf_u8 (wf0.1.2 x hx); omega) (fun l hl x hx => bok_of ((wf0.2.1.2 l hl).2 x hx)) (by have := U.wf_u8 wf0.2.2.1; omega) A0 z0 A1 z1 B (fun x hx => by have := U.wf_u8 (wf1.2 x hx); omega) A c w k0 l0 k1 l1 hC
end Go.Proofs.Ythilhndejhnlnaa.Hand
end
