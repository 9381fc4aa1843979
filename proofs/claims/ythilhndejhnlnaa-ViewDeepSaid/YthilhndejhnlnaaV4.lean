/- Layer 7, view: the walk of fits, of structs; and what fits comes to, whatever the type. -/
import Derived.Test.YthilhndejhnlnaaV3
namespace Go.Proofs.Ythilhndejhnlnaa.Hand
open Go.RowKit Go.Proofs.Ythilhndejhnlnaa.QAll Go.Proofs.YthilhndejhnlnaaW.PrintWords Go.Proofs.YthilhndejhnlnaaW.PrintLast Go.Proofs.YthilhndejhnlnaaW.PrintMore Go.Proofs.Ythilhndejhnlnaa.Runes
set_option linter.unusedVariables false
set_option linter.unusedSimpArgs false

set_option maxHeartbeats 6400000 in
theorem fits_struct_gone {st : List S31} {en : List S61} {root : Int} (d : Nat) (q : Nat) (hq : q < st.length) (ls : Int) (v : S39) (us u : Value) (w : World) (hls : ¬ 0 < ls) (hs : IsS w st en root us) (hv : IsV w v u)
    (hno : v.f0 ≠ 0 ∨ 0 < v.f1.length ∨ v.f3 = false) :
    Calls Try.prog 17 #[us, tyV 13 q ls, u, .int .i64 d] w fun e w' => e = .returned (.bool (goneB v)) ∧ Below w.heap.size w w' := by
  obtain ⟨A0, c0, A1, c1, rfl, hS1, hS2, hS3, hS4⟩ := hs
  obtain ⟨A2, c2, A3, c3, rfl, hV1, hV2, hV3, hV4⟩ := hv
  have V3 := Aside0.mk hV3
  have V4 := Aside0.mk hV4
  have l0 : decide (0 < ls) = false := decide_eq_false hls
  have hq0 : (0 : Int) ≤ (q : Int) := Int.natCast_nonneg _
  have hq1 : (q : Int) < (st.length : Int) := by omega
  obtain ⟨h3, hh3⟩ : ∃ h3, v.f3 = h3 := ⟨_, rfl⟩
  rw [hh3] at hno ⊢
  obtain ⟨gs, hgs⟩ : ∃ gs, w.heap.size = gs := ⟨_, rfl⟩
  obtain ⟨gt, hgt⟩ : ∃ gt, gs + 1 = gt := ⟨_, rfl⟩
  obtain ⟨gv, hgv⟩ : ∃ gv, gt + 1 = gv := ⟨_, rfl⟩
  obtain ⟨gd, hgd⟩ : ∃ gd, gv + 1 = gd := ⟨_, rfl⟩
  have H0 := four_new w #[.slice A0 st.length c0, .slice A1 en.length c1, .int .i64 root] #[.int .u8 13, .int .i64 (q : Int), .int .i64 ls] #[.int .u64 v.f0, .slice A2 v.f1.length c2, .slice A3 v.f2.length c3, .bool h3] d hgs hgt hgv hgd
  have HB0 := four_below w #[.slice A0 st.length c0, .slice A1 en.length c1, .int .i64 root] #[.int .u8 13, .int .i64 (q : Int), .int .i64 ls] #[.int .u64 v.f0, .slice A2 v.f1.length c2, .slice A3 v.f2.length c3, .bool h3] d
  obtain ⟨w1, hw1⟩ : ∃ w1, ((((w.alloc (.cells #[.slice A0 st.length c0, .slice A1 en.length c1, .int .i64 root] 35)).alloc (.cells #[.int .u8 13, .int .i64 (q : Int), .int .i64 ls] 25)).alloc (.cells #[.int .u64 v.f0, .slice A2 v.f1.length c2, .slice A3 v.f2.length c3, .bool h3] 39)).alloc (.cells #[.int .i64 d] 3)) = w1 := ⟨_, rfl⟩
  rw [hw1] at H0 HB0
  have H4 := Aside0.mk H0
  have HB1 := Aside0.mk HB0
  have HNE : Aside0 (w.heap.size ≤ gs ∧ gs < gt ∧ gt < gv ∧ gv < gd) := ⟨by omega⟩
  have HEQ := Aside0.mk (And.intro hw1 (And.intro hgs (And.intro hgt (And.intro hgv hgd))))
  clear H0 HB0 hw1 hgs hgt hgv hgd
  obtain ⟨ad, A4, c4, rfl, x0, x1, hF1, hF2⟩ := at_T31 hS1 (q : Int) hq0 hq1
  obtain ⟨R, hRR⟩ : ∃ R, rd_T31 st (q : Int) = R := ⟨_, rfl⟩
  rw [hRR] at x0 x1 hF1 hF2
  rw [show ((q : Int)).toNat = q from rfl] at x0 x1
  replace x0 := pw_cell_below HB1.out x0
  replace x1 := pw_cell_below HB1.out x1
  obtain ⟨w2, hw2⟩ : ∃ w2, w1.alloc (.cells #[.string R.f0, .slice A4 R.f1.length c4] 31) = w2 := ⟨_, rfl⟩
  obtain ⟨gr, hgr⟩ : ∃ gr, w1.heap.size = gr := ⟨_, rfl⟩
  have H12 := below_alloc (Below.refl w1.heap.size w1) (.cells #[.string R.f0, .slice A4 R.f1.length c4] 31)
  rw [hw2] at H12
  have H5 := Aside0.mk (H4.out.below H12)
  have HB2 := Aside0.mk (below_then HB1.out HB1.out.size H12)
  have HR2 : Aside0 (w2.heap[gr]? = some (.cells #[.string R.f0, .slice A4 R.f1.length c4] 31 (0, 0))) := ⟨by rw [← hw2, ← hgr]; exact heap_alloc_new w1 _⟩
  have HEQ2 := Aside0.mk (And.intro hw2 hgr)
  have HF1 := Aside0.mk hF1
  have HF2 := Aside0.mk hF2
  clear hw2 hgr H12
  obtain ⟨r, hr⟩ : ∃ r, goneB v = r := ⟨_, rfl⟩
  rw [hr]
  have ways : ((v.f0 != 0) = true ∧ (v.f0 == 0) = false ∧ r = false) ∨
      ((v.f0 != 0) = false ∧ (v.f0 == 0) = true ∧ decide ((0 : Int) < (v.f1.length : Int)) = true ∧ decide (0 < v.f1.length) = true ∧ ((v.f1.length : Int) == 0) = false ∧ (v.f1.length == 0) = false ∧ r = false) ∨
      ((v.f0 != 0) = false ∧ (v.f0 == 0) = true ∧ decide ((0 : Int) < (v.f1.length : Int)) = false ∧ decide (0 < v.f1.length) = false ∧ ((v.f1.length : Int) == 0) = true ∧ (v.f1.length == 0) = true ∧ h3 = false ∧ ((v.f2.length : Int) == 0) = r ∧ (v.f2.length == 0) = r) := by
    unfold goneB at hr
    by_cases e : v.f0 = 0
    · right
      have e1 : (v.f0 == 0) = true := by simp [e]
      have e2 : (v.f0 != 0) = false := by simp [e]
      rw [e1] at hr
      rcases Nat.eq_zero_or_pos v.f1.length with f | f
      · right
        have f1 : (v.f1.length == 0) = true := by rw [f]; rfl
        rw [f1] at hr
        have h30 : h3 = false := by
          rcases hno with x | x | x
          · exact absurd e x
          · omega
          · exact x
        have g : (v.f2.length == 0) = r := by simpa using hr
        refine ⟨e2, e1, decide_eq_false (by omega), decide_eq_false (by omega), by rw [f]; rfl, f1, h30, ?_, g⟩
        rw [← g, Bool.eq_iff_iff]; simp only [beq_iff_eq]; omega
      · left
        have f1 : (v.f1.length == 0) = false := by simp only [beq_eq_false_iff_ne]; omega
        rw [f1] at hr
        exact ⟨e2, e1, decide_eq_true (by omega), decide_eq_true f, by simp only [beq_eq_false_iff_ne]; omega, f1, by simpa using hr.symm⟩
    · left
      have e1 : (v.f0 == 0) = false := by simp [e]
      rw [e1] at hr
      exact ⟨by simp [e], e1, by simpa using hr.symm⟩
  clear hno hls hh3 hS1 hS2 hS3 hS4 hV1 hV2 hV3 hV4 hr hF1 hF2 hRR
  rcases ways with ⟨a1, a2, rfl⟩ | ⟨a1, a2, a3, a4, a5, a6, rfl⟩ | ⟨a1, a2, a3, a4, a5, a6, rfl, a7, a8⟩
  all_goals
    go_enter Try.func17, Try.ntmps17
    go_upto_region 1 with (fail)
    rw [HEQ.out.1, HEQ.out.2.1, HEQ.out.2.2.1, HEQ.out.2.2.2.1, HEQ.out.2.2.2.2]
    have s0 := H4.out.cs 0 rfl
    have t0 := H4.out.ct 0 rfl
    have t1 := H4.out.ct 1 rfl
    have t2 := H4.out.ct 2 rfl
    go_upto_region 8 with (fail)
    rw [HEQ2.out.1, HEQ2.out.2]
    clear s0 t0 t1 t2 x0 x1
    have v0 := H5.out.cv 0 rfl
    have v1 := H5.out.cv 1 rfl
    have v2 := H5.out.cv 2 rfl
    have v3 := H5.out.cv 3 rfl
    go_wp2_with (fail)
    go_ret
    exact ⟨by first | rfl | simp [*], HB2.out⟩

set_option maxHeartbeats 6400000 in
theorem fits_struct_no {st : List S31} {en : List S61} {root : Int} (d : Nat) (q : Nat) (hq : q < st.length) (ls : Int) (v : S39) (us u : Value) (w : World) (hls : ¬ 0 < ls) (hs : IsS w st en root us) (hv : IsV w v u)
    (hyes : v.f0 = 0 ∧ v.f1.length = 0 ∧ v.f3 = true) (hno : d = 0 ∨ v.f2.length ≠ (rd_T31 st (q : Int)).f1.length) :
    Calls Try.prog 17 #[us, tyV 13 q ls, u, .int .i64 d] w fun e w' => e = .returned (.bool false) ∧ Below w.heap.size w w' := by
  obtain ⟨A0, c0, A1, c1, rfl, hS1, hS2, hS3, hS4⟩ := hs
  obtain ⟨A2, c2, A3, c3, rfl, hV1, hV2, hV3, hV4⟩ := hv
  have V3 := Aside0.mk hV3
  have V4 := Aside0.mk hV4
  have l0 : decide (0 < ls) = false := decide_eq_false hls
  have hq0 : (0 : Int) ≤ (q : Int) := Int.natCast_nonneg _
  have hq1 : (q : Int) < (st.length : Int) := by omega
  obtain ⟨h3, hh3⟩ : ∃ h3, v.f3 = h3 := ⟨_, rfl⟩
  obtain ⟨y0, y1, y3⟩ := hyes
  rw [hh3] at y3 ⊢
  obtain ⟨gs, hgs⟩ : ∃ gs, w.heap.size = gs := ⟨_, rfl⟩
  obtain ⟨gt, hgt⟩ : ∃ gt, gs + 1 = gt := ⟨_, rfl⟩
  obtain ⟨gv, hgv⟩ : ∃ gv, gt + 1 = gv := ⟨_, rfl⟩
  obtain ⟨gd, hgd⟩ : ∃ gd, gv + 1 = gd := ⟨_, rfl⟩
  have H0 := four_new w #[.slice A0 st.length c0, .slice A1 en.length c1, .int .i64 root] #[.int .u8 13, .int .i64 (q : Int), .int .i64 ls] #[.int .u64 v.f0, .slice A2 v.f1.length c2, .slice A3 v.f2.length c3, .bool h3] d hgs hgt hgv hgd
  have HB0 := four_below w #[.slice A0 st.length c0, .slice A1 en.length c1, .int .i64 root] #[.int .u8 13, .int .i64 (q : Int), .int .i64 ls] #[.int .u64 v.f0, .slice A2 v.f1.length c2, .slice A3 v.f2.length c3, .bool h3] d
  obtain ⟨w1, hw1⟩ : ∃ w1, ((((w.alloc (.cells #[.slice A0 st.length c0, .slice A1 en.length c1, .int .i64 root] 35)).alloc (.cells #[.int .u8 13, .int .i64 (q : Int), .int .i64 ls] 25)).alloc (.cells #[.int .u64 v.f0, .slice A2 v.f1.length c2, .slice A3 v.f2.length c3, .bool h3] 39)).alloc (.cells #[.int .i64 d] 3)) = w1 := ⟨_, rfl⟩
  rw [hw1] at H0 HB0
  have H4 := Aside0.mk H0
  have HB1 := Aside0.mk HB0
  have HNE : Aside0 (w.heap.size ≤ gs ∧ gs < gt ∧ gt < gv ∧ gv < gd) := ⟨by omega⟩
  have HEQ := Aside0.mk (And.intro hw1 (And.intro hgs (And.intro hgt (And.intro hgv hgd))))
  clear H0 HB0 hw1 hgs hgt hgv hgd
  obtain ⟨ad, A4, c4, rfl, x0, x1, hF1, hF2⟩ := at_T31 hS1 (q : Int) hq0 hq1
  obtain ⟨R, hRR⟩ : ∃ R, rd_T31 st (q : Int) = R := ⟨_, rfl⟩
  rw [hRR] at x0 x1 hF1 hF2
  rw [show ((q : Int)).toNat = q from rfl] at x0 x1
  replace x0 := pw_cell_below HB1.out x0
  replace x1 := pw_cell_below HB1.out x1
  obtain ⟨w2, hw2⟩ : ∃ w2, w1.alloc (.cells #[.string R.f0, .slice A4 R.f1.length c4] 31) = w2 := ⟨_, rfl⟩
  obtain ⟨gr, hgr⟩ : ∃ gr, w1.heap.size = gr := ⟨_, rfl⟩
  have H12 := below_alloc (Below.refl w1.heap.size w1) (.cells #[.string R.f0, .slice A4 R.f1.length c4] 31)
  rw [hw2] at H12
  have H5 := Aside0.mk (H4.out.below H12)
  have HB2 := Aside0.mk (below_then HB1.out HB1.out.size H12)
  have HR2 : Aside0 (w2.heap[gr]? = some (.cells #[.string R.f0, .slice A4 R.f1.length c4] 31 (0, 0))) := ⟨by rw [← hw2, ← hgr]; exact heap_alloc_new w1 _⟩
  have HEQ2 := Aside0.mk (And.intro hw2 hgr)
  have HF1 := Aside0.mk hF1
  have HF2 := Aside0.mk hF2
  clear hw2 hgr H12
  rw [hRR] at hno
  have xz : (v.f0 != 0) = false := by simp [y0]
  have b1 : decide ((0 : Int) < (v.f1.length : Int)) = false := decide_eq_false (by omega)
  have b2 : decide (0 < v.f1.length) = false := decide_eq_false (by omega)
  have two : (decide ((d : Int) < 1) = true ∧ decide (d < 1) = true) ∨ (decide ((d : Int) < 1) = false ∧ decide (d < 1) = false ∧ ((v.f2.length : Int) != (R.f1.length : Int)) = true ∧ (v.f2.length != R.f1.length) = true) := by
    by_cases e : d = 0
    · left; exact ⟨decide_eq_true (by omega), decide_eq_true (by omega)⟩
    · right
      have n : v.f2.length ≠ R.f1.length := hno.resolve_left e
      exact ⟨decide_eq_false (by omega), decide_eq_false (by omega), by simp only [bne_iff_ne]; omega, by simp only [bne_iff_ne]; omega⟩
  subst y3
  clear hno hls hh3 hS1 hS2 hS3 hS4 hV1 hV2 hV3 hV4 hF1 hF2 hRR y0 y1
  rcases two with ⟨a1, a2⟩ | ⟨a1, a2, a3, a4⟩
  all_goals
    go_enter Try.func17, Try.ntmps17
    go_upto_region 1 with (fail)
    rw [HEQ.out.1, HEQ.out.2.1, HEQ.out.2.2.1, HEQ.out.2.2.2.1, HEQ.out.2.2.2.2]
    have s0 := H4.out.cs 0 rfl
    have t0 := H4.out.ct 0 rfl
    have t1 := H4.out.ct 1 rfl
    have t2 := H4.out.ct 2 rfl
    go_upto_region 8 with (fail)
    rw [HEQ2.out.1, HEQ2.out.2]
    clear s0 t0 t1 t2 x0 x1
    have v0 := H5.out.cv 0 rfl
    have v1 := H5.out.cv 1 rfl
    have v2 := H5.out.cv 2 rfl
    have v3 := H5.out.cv 3 rfl
    have d0 := H5.out.cd
    have r1 : w2.cell? ⟨gr, 1, none⟩ = some (.slice A4 R.f1.length c4) := (blk_cell HR2.out 1).trans rfl
    go_wp2_with (fail)
    go_ret
    exact ⟨rfl, HB2.out⟩

/-- What stands at the head of a round over a struct's fields. -/
def KRound (w5 : World) (fs : List S28) (vs : List S39) (p : S28 × S39 → Bool) (v101 : Value) (wr : World) : Prop :=
  ∃ k : Nat, v101 = .int .i64 k ∧ k ≤ fs.length ∧ ((fs.zip vs).take k).all p = true ∧ Below w5.heap.size w5 wr
theorem take_zip {fs : List S28} {vs : List S39} (p : S28 × S39 → Bool) {k : Nat} (hk : k < fs.length) (hk2 : k < vs.length) : ((fs.zip vs).take (k + 1)).all p = (((fs.zip vs).take k).all p && p (fs[k], vs[k])) := by
  rw [List.take_succ_eq_append_getElem (by rw [List.length_zip]; omega), List.all_append, List.getElem_zip]; simp
theorem all_not {fs : List S28} {vs : List S39} (p : S28 × S39 → Bool) {k : Nat} (hk : k < fs.length) (hk2 : k < vs.length) (h : p (fs[k], vs[k]) = false) : (fs.zip vs).all p = false := by
  cases e : (fs.zip vs).all p with
  | false => rfl
  | true =>
    have hl : k < (fs.zip vs).length := by rw [List.length_zip]; omega
    have := List.all_eq_true.1 e _ (List.getElem_mem hl)
    rw [List.getElem_zip, h] at this; cases this
set_option maxHeartbeats 6400000 in
set_option maxRecDepth 100000 in
theorem fits_struct_yes {st : List S31} {en : List S61} {root : Int} (d : Nat) (hd : d < 1000) (q : Nat) (hq : q < st.length) (ls : Int) (v : S39) (us u : Value) (w : World) (hls : ¬ 0 < ls) (hs : IsS w st en root us) (hv : IsV w v u)
    (hyes : v.f0 = 0 ∧ v.f1.length = 0 ∧ v.f3 = true) (hlen : v.f2.length = (rd_T31 st (q : Int)).f1.length) (p : S28 × S39 → Bool)
    (hin : ∀ (k : Nat) (hk : k < (rd_T31 st (q : Int)).f1.length) (hk2 : k < v.f2.length) (W : World) (uk : Value), Below w.heap.size w W → IsV W v.f2[k] uk →
      Calls Try.prog 17 #[us, tyV ((rd_T31 st (q : Int)).f1[k]).f1.f0 ((rd_T31 st (q : Int)).f1[k]).f1.f1 ((rd_T31 st (q : Int)).f1[k]).f1.f2, uk, .int .i64 d] W fun e W' => e = .returned (.bool (p ((rd_T31 st (q : Int)).f1[k], v.f2[k]))) ∧ Below W.heap.size W W') :
    Calls Try.prog 17 #[us, tyV 13 q ls, u, .int .i64 ((d : Int) + 1)] w fun e w' => e = .returned (.bool (((rd_T31 st (q : Int)).f1.zip v.f2).all p)) ∧ Below w.heap.size w w' := by
  obtain ⟨A0, c0, A1, c1, rfl, hS1, hS2, hS3, hS4⟩ := hs
  obtain ⟨A2, c2, A3, c3, rfl, hV1, hV2, hV3, hV4⟩ := hv
  have V3 := Aside0.mk hV3
  have V4 := Aside0.mk hV4
  have l0 : decide (0 < ls) = false := decide_eq_false hls
  have hq0 : (0 : Int) ≤ (q : Int) := Int.natCast_nonneg _
  have hq1 : (q : Int) < (st.length : Int) := by omega
  obtain ⟨h3, hh3⟩ : ∃ h3, v.f3 = h3 := ⟨_, rfl⟩
  obtain ⟨y0, y1, y3⟩ := hyes
  rw [hh3] at y3 ⊢
  obtain ⟨gs, hgs⟩ : ∃ gs, w.heap.size = gs := ⟨_, rfl⟩
  obtain ⟨gt, hgt⟩ : ∃ gt, gs + 1 = gt := ⟨_, rfl⟩
  obtain ⟨gv, hgv⟩ : ∃ gv, gt + 1 = gv := ⟨_, rfl⟩
  obtain ⟨gd, hgd⟩ : ∃ gd, gv + 1 = gd := ⟨_, rfl⟩
  have H0 := four_new w #[.slice A0 st.length c0, .slice A1 en.length c1, .int .i64 root] #[.int .u8 13, .int .i64 (q : Int), .int .i64 ls] #[.int .u64 v.f0, .slice A2 v.f1.length c2, .slice A3 v.f2.length c3, .bool h3] ((d : Int) + 1) hgs hgt hgv hgd
  have HB0 := four_below w #[.slice A0 st.length c0, .slice A1 en.length c1, .int .i64 root] #[.int .u8 13, .int .i64 (q : Int), .int .i64 ls] #[.int .u64 v.f0, .slice A2 v.f1.length c2, .slice A3 v.f2.length c3, .bool h3] ((d : Int) + 1)
  obtain ⟨w1, hw1⟩ : ∃ w1, ((((w.alloc (.cells #[.slice A0 st.length c0, .slice A1 en.length c1, .int .i64 root] 35)).alloc (.cells #[.int .u8 13, .int .i64 (q : Int), .int .i64 ls] 25)).alloc (.cells #[.int .u64 v.f0, .slice A2 v.f1.length c2, .slice A3 v.f2.length c3, .bool h3] 39)).alloc (.cells #[.int .i64 ((d : Int) + 1)] 3)) = w1 := ⟨_, rfl⟩
  rw [hw1] at H0 HB0
  have H4 := Aside0.mk H0
  have HB1 := Aside0.mk HB0
  have HNE : Aside0 (w.heap.size ≤ gs ∧ gs < gt ∧ gt < gv ∧ gv < gd) := ⟨by omega⟩
  have HEQ := Aside0.mk (And.intro hw1 (And.intro hgs (And.intro hgt (And.intro hgv hgd))))
  clear H0 HB0 hw1 hgs hgt hgv hgd
  obtain ⟨ad, A4, c4, rfl, x0, x1, hF1, hF2⟩ := at_T31 hS1 (q : Int) hq0 hq1
  obtain ⟨R, hRR⟩ : ∃ R, rd_T31 st (q : Int) = R := ⟨_, rfl⟩
  rw [hRR] at x0 x1 hF1 hF2
  rw [show ((q : Int)).toNat = q from rfl] at x0 x1
  replace x0 := pw_cell_below HB1.out x0
  replace x1 := pw_cell_below HB1.out x1
  obtain ⟨w2, hw2⟩ : ∃ w2, w1.alloc (.cells #[.string R.f0, .slice A4 R.f1.length c4] 31) = w2 := ⟨_, rfl⟩
  obtain ⟨gr, hgr⟩ : ∃ gr, w1.heap.size = gr := ⟨_, rfl⟩
  have H12 := below_alloc (Below.refl w1.heap.size w1) (.cells #[.string R.f0, .slice A4 R.f1.length c4] 31)
  rw [hw2] at H12
  have H5 := Aside0.mk (H4.out.below H12)
  have HB2 := Aside0.mk (below_then HB1.out HB1.out.size H12)
  have HR2 : Aside0 (w2.heap[gr]? = some (.cells #[.string R.f0, .slice A4 R.f1.length c4] 31 (0, 0))) := ⟨by rw [← hw2, ← hgr]; exact heap_alloc_new w1 _⟩
  have HEQ2 := Aside0.mk (And.intro hw2 hgr)
  have HF1 := Aside0.mk hF1
  have HF2 := Aside0.mk hF2
  clear hw2 hgr H12
  rw [hRR] at hin hlen ⊢
  have HIN := Aside0.mk hin
  have HLEN := Aside0.mk hlen
  obtain ⟨res, hres⟩ : ∃ res, (R.f1.zip v.f2).all p = res := ⟨_, rfl⟩
  rw [hres]
  have HRES := Aside0.mk hres
  have HMX := Aside0.mk (Kd.C_max hF2)
  have xz : (v.f0 != 0) = false := by simp [y0]
  have b1 : decide ((0 : Int) < (v.f1.length : Int)) = false := decide_eq_false (by omega)
  have b2 : decide (0 < v.f1.length) = false := decide_eq_false (by omega)
  have a1 : decide ((d : Int) + 1 < 1) = false := decide_eq_false (by omega)
  have a3 : ((v.f2.length : Int) != (R.f1.length : Int)) = false := by rw [hlen]; exact bne_self_eq_false _
  have a4 : (v.f2.length != R.f1.length) = false := by rw [hlen]; exact bne_self_eq_false _
  have wd : IntKind.i64.wrap ((d : Int) + 1 - 1) = (d : Int) := by rw [IntKind.wrap_i64]; omega
  have wd2 : IntKind.i64.wrap (d : Int) = (d : Int) := by rw [IntKind.wrap_i64]; omega
  subst y3
  clear hin hlen hres hls hh3 hS1 hS2 hS3 hS4 hV1 hV2 hV3 hV4 hF1 hF2 hRR y0 y1 hd
  · 
    go_enter Try.func17, Try.ntmps17
    go_upto_region 1 with (fail)
    rw [HEQ.out.1, HEQ.out.2.1, HEQ.out.2.2.1, HEQ.out.2.2.2.1, HEQ.out.2.2.2.2]
    have s0 := H4.out.cs 0 rfl
    have t0 := H4.out.ct 0 rfl
    have t1 := H4.out.ct 1 rfl
    have t2 := H4.out.ct 2 rfl
    go_upto_region 8 with (fail)
    rw [HEQ2.out.1, HEQ2.out.2]
    clear s0 t0 t1 t2 x0 x1
    have v0 := H5.out.cv 0 rfl
    have v1 := H5.out.cv 1 rfl
    have v2 := H5.out.cv 2 rfl
    have v3 := H5.out.cv 3 rfl
    have d0 := H5.out.cd
    have r1 : w2.cell? ⟨gr, 1, none⟩ = some (.slice A4 R.f1.length c4) := (blk_cell HR2.out 1).trans rfl
    go_upto_region 13 with (fail)
    clear v0 v1 v2 v3 d0 r1 xz b1 b2 a1 a3 a4
    go_loopw [101] (fun v101 wr => KRound w2 R.f1 v.f2 p v101 wr) (fun v101 _ => R.f1.length - (intOf v101).toNat)
    case atStart => exact ⟨0, rfl, Nat.zero_le _, by simp, Below.refl _ _⟩
    case round =>
      obtain ⟨k, rfl, hk, hall, hB⟩ := hrel
      have HK := Aside0.mk hk
      have HALL := Aside0.mk hall
      have HB := Aside0.mk hB
      clear hk hall hB
      by_cases hlt : k < R.f1.length
      · have hlt2 : k < v.f2.length := by have := HLEN.out; omega
        obtain ⟨fd, rfl, z0, z1, z2, z3, z4⟩ := at_T28 HF2.out (k : Int) (by omega) (by omega)
        have hfx : rd_T28 R.f1 (k : Int) = R.f1[k] := by unfold rd_T28; rw [show ((k : Int)).toNat = k from rfl, List.getD_eq_getElem?_getD, List.getElem?_eq_getElem hlt]; rfl
        obtain ⟨kdd, E1, e1, E2, e2, rfl, m0, m1, m2, m3, hkv⟩ := kid_at V3.out k hlt2
        have HX := Aside0.mk (HIN.out k hlt hlt2)
        have HTK := Aside0.mk (take_zip p hlt hlt2)
        have HAT := Aside0.mk (all_not p hlt hlt2)
        obtain ⟨F, hF⟩ : ∃ F, R.f1[k] = F := ⟨_, rfl⟩
        obtain ⟨K, hK⟩ : ∃ K, v.f2[k] = K := ⟨_, rfl⟩
        rw [hfx, hF] at z0 z1 z2 z3 z4
        rw [show ((k : Int)).toNat = k from rfl] at z0 z1 z2 z3 z4
        rw [hF, hK] at HX HTK HAT
        rw [hK] at m0 m1 m2 m3 hkv
        obtain ⟨b, hb⟩ : ∃ b, p (F, K) = b := ⟨_, rfl⟩
        rw [hb] at HX HTK HAT
        have hBw := below_then HB2.out HB2.out.size HB.out
        have HBW := Aside0.mk hBw
        replace z0 := pw_cell_below hBw (show w.cell? _ = _ from by first | exact z0)
        replace z1 := pw_cell_below hBw z1
        replace z2 := pw_cell_below hBw z2
        replace z3 := pw_cell_below hBw z3
        replace z4 := pw_cell_below hBw z4
        obtain ⟨w6, hw6⟩ : ∃ w6, wr.alloc (.cells #[.string F.f0, .int .u8 F.f1.f0, .int .i64 F.f1.f1, .int .i64 F.f1.f2, .int .u64 F.f2] 28) = w6 := ⟨_, rfl⟩
        obtain ⟨gf, hgf⟩ : ∃ gf, wr.heap.size = gf := ⟨_, rfl⟩
        have h16 := below_alloc (Below.refl wr.heap.size wr) (.cells #[.string F.f0, .int .u8 F.f1.f0, .int .i64 F.f1.f1, .int .i64 F.f1.f2, .int .u64 F.f2] 28)
        rw [hw6] at h16
        have HB6 := Aside0.mk (below_then HB.out HB.out.size h16)
        have hBw6 := below_then hBw hBw.size h16
        have HBW6 := Aside0.mk hBw6
        have H6 := Aside0.mk (H5.out.below HB6.out)
        have HF6 : Aside0 (w6.heap[gf]? = some (.cells #[.string F.f0, .int .u8 F.f1.f0, .int .i64 F.f1.f1, .int .i64 F.f1.f2, .int .u64 F.f2] 28 (0, 0))) := ⟨by rw [← hw6, ← hgf]; exact heap_alloc_new wr _⟩
        replace m0 := pw_cell_below hBw6 m0
        replace m1 := pw_cell_below hBw6 m1
        replace m2 := pw_cell_below hBw6 m2
        replace m3 := pw_cell_below hBw6 m3
        have HY := Aside0.mk (HX.out w6.drew _ (below_then hBw6 hBw6.size (below_drew (Below.refl w6.heap.size w6))) (hkv.below (below_then hBw6 hBw6.size (below_drew (Below.refl w6.heap.size w6)))))
        have d0 : decide (k < R.f1.length) = true := decide_eq_true hlt
        have d0' : decide ((k : Int) < (R.f1.length : Int)) = true := decide_eq_true (by omega)
        have wk : IntKind.i64.wrap ((k : Int) + 1) = (k : Int) + 1 := by rw [IntKind.wrap_i64]; have := HMX.out; omega
        have HW6 := Aside0.mk (And.intro hw6 hgf)
        clear hfx hF hK hb hBw hBw6 h16 hkv HX hw6 hgf
        go_upto_region 15 with (fail)
        rw [HW6.out.1, HW6.out.2]
        clear z0 z1 z2 z3 z4
        have f1 : w6.cell? ⟨gf, 1, none⟩ = some (.int .u8 F.f1.f0) := (blk_cell HF6.out 1).trans rfl
        have f2 : w6.cell? ⟨gf, 2, none⟩ = some (.int .i64 F.f1.f1) := (blk_cell HF6.out 2).trans rfl
        have f3 : w6.cell? ⟨gf, 3, none⟩ = some (.int .i64 F.f1.f2) := (blk_cell HF6.out 3).trans rfl
        have s0 := H6.out.cs 0 rfl
        have s1 := H6.out.cs 1 rfl
        have s2 := H6.out.cs 2 rfl
        have v2 := H6.out.cv 2 rfl
        have dd := H6.out.cd
        have k0 : (0 : Int) ≤ (k : Int) := Int.natCast_nonneg _
        have k1 : (k : Int) < (v.f2.length : Int) := by omega
        go_still_tail 10, (by kernel_rfl)
        change wpList _ _ _ _ _ w6.drew
        clear f1 f2 f3 s0 s1 s2 v2 dd m0 m1 m2 m3
        cases b with
        | false =>
          replace HAT := Aside0.mk (HAT.out rfl)
          go_wp2_with (go_at_call 17; (with_reducible refine HY.out.mono ?_); rintro e w7 ⟨rfl, hb⟩; have HB7 := Aside0.mk (below_then (below_then HBW6.out HBW6.out.size (below_drew (Below.refl w6.heap.size w6))) (Nat.le_trans HBW6.out.size (Nat.le_refl _)) hb); clear hb)
          go_ret
          exact ⟨by rw [← HRES.out, HAT.out]; rfl, HB7.out⟩
        | true =>
          go_wp2_with (go_at_call 17; (with_reducible refine HY.out.mono ?_); rintro e w7 ⟨rfl, hb⟩; have HB7 := Aside0.mk (below_then (below_then HB6.out HB6.out.size (below_drew (Below.refl w6.heap.size w6))) (Nat.le_trans HB6.out.size (Nat.le_refl _)) hb); clear hb)
          go_roundw
          case rel => exact ⟨k + 1, by go_num, by omega, by rw [HTK.out, HALL.out]; rfl, HB7.out⟩
          case measure => simp [intOf]; omega
      · have d0 : decide (k < R.f1.length) = false := decide_eq_false hlt
        have d0' : decide ((k : Int) < (R.f1.length : Int)) = false := decide_eq_false (by omega)
        go_wp2_with (fail)
        go_ret
        exact ⟨by
          have h := HALL.out
          rw [List.take_of_length_le (by rw [List.length_zip]; omega), HRES.out] at h
          rw [h]; rfl, below_then HB2.out HB2.out.size HB.out⟩
end Go.Proofs.Ythilhndejhnlnaa.Hand
