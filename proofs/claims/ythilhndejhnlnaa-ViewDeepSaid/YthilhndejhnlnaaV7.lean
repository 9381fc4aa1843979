/- Layer 7, view: the fixed fact of the laws. -/
import Derived.Test.YthilhndejhnlnaaV6
namespace Go.Proofs.Ythilhndejhnlnaa.Hand
open Go.RowKit Go.Proofs.Ythilhndejhnlnaa.QAll Go.Proofs.YthilhndejhnlnaaW.PrintWords Go.Proofs.YthilhndejhnlnaaW.PrintLast Go.Proofs.YthilhndejhnlnaaW.PrintMore Go.Proofs.Ythilhndejhnlnaa.Runes
set_option linter.unusedVariables false
set_option linter.unusedSimpArgs false

theorem heap_four (w : World) (o0 o1 o2 o3 : Obj) {b0 b1 b2 b3 : Nat} (h : w.heap.size = b0) (h1 : b0 + 1 = b1) (h2 : b1 + 1 = b2) (h3 : b2 + 1 = b3) {W : World} (hW : (((w.alloc o0).alloc o1).alloc o2).alloc o3 = W) :
    W.heap[b0]? = some o0 ∧ W.heap[b1]? = some o1 ∧ W.heap[b2]? = some o2 ∧ W.heap[b3]? = some o3 ∧ Below w.heap.size w W := by
  subst h h1 h2 h3 hW
  have a1 := heap_alloc_new w o0
  have b1 := below_alloc (Below.refl (w.alloc o0).heap.size (w.alloc o0)) o1
  have a2 := heap_alloc_new (w.alloc o0) o1
  have b2 := below_alloc (Below.refl ((w.alloc o0).alloc o1).heap.size ((w.alloc o0).alloc o1)) o2
  have a3 := heap_alloc_new ((w.alloc o0).alloc o1) o2
  have b3 := below_alloc (Below.refl (((w.alloc o0).alloc o1).alloc o2).heap.size (((w.alloc o0).alloc o1).alloc o2)) o3
  have a4 := heap_alloc_new (((w.alloc o0).alloc o1).alloc o2) o3
  have e1 : (w.alloc o0).heap.size = w.heap.size + 1 := by simp
  have e2 : ((w.alloc o0).alloc o1).heap.size = w.heap.size + 1 + 1 := by simp
  have e3 : (((w.alloc o0).alloc o1).alloc o2).heap.size = w.heap.size + 1 + 1 + 1 := by simp
  rw [e1] at a2
  rw [e2] at a3
  rw [e3] at a4
  exact ⟨(b3.block _ (by omega)).trans ((b2.block _ (by omega)).trans ((b1.block _ (by omega)).trans a1)), (b3.block _ (by omega)).trans ((b2.block _ (by omega)).trans a2), (b3.block _ (by omega)).trans a3, a4,
    below_alloc (below_alloc (below_alloc (below_alloc (Below.refl _ _) _) _) _) _⟩
theorem isS_one {w : World} {r : S31} {g : Nat} {Af : Option Addr} {cf : Nat} (hb : w.heap[g]? = some (.cells #[.string r.f0, .slice Af r.f1.length cf] 31 (0, 0))) (hF : Kd.C k28 w Af r.f1.length r.f1) (hc : r.f1.length ≤ cf) :
    IsS w [r] [] 0 (.agg #[.slice (some ⟨g, 0, none⟩) 1 1, .slice none 0 0, .int .i64 0]) :=
  ⟨some ⟨g, 0, none⟩, 1, none, 0, rfl, C_one hb rfl (k31_mk w r hc hF), Nat.le_refl _, Kd.C_nil _ _, Nat.le_refl _⟩
theorem isV_zero (w : World) : IsV w z39 (.agg #[.int .u64 0, .slice none 0 0, .slice none 0 0, .bool false]) := ⟨none, 0, none, 0, rfl, Kd.C_nil _ _, Nat.le_refl _, Kd.C_nil _ _, Nat.le_refl _⟩
theorem good_rS : Good [rS] := good_one rS (by
  intro f hf
  simp only [rS, List.mem_cons, List.not_mem_nil, or_false] at hf
  rcases hf with rfl | rfl
  · exact ⟨fun h => absurd h (by decide), by decide⟩
  · exact ⟨fun h => absurd h (by decide), by decide⟩)
theorem fits_dS : fitsTop [rS] [] 0 0 dS = true := by kernel_rfl
theorem fits_zS : fitsTop [rS] [] 0 0 z39 = false := by kernel_rfl
set_option maxHeartbeats 3200000 in
set_option maxRecDepth 100000 in
theorem awake07 (w : World) : Calls Try.prog 6 #[] w fun e w' => e = .returned (.bool true) ∧ Below w.heap.size w w' := by
  obtain ⟨b0, h0⟩ : ∃ b0, w.heap.size = b0 := ⟨_, rfl⟩
  obtain ⟨b1, h1⟩ : ∃ b1, b0 + 1 = b1 := ⟨_, rfl⟩
  obtain ⟨b2, h2⟩ : ∃ b2, b1 + 1 = b2 := ⟨_, rfl⟩
  obtain ⟨b3, h3⟩ : ∃ b3, b2 + 1 = b3 := ⟨_, rfl⟩
  obtain ⟨w1, hw1⟩ : ∃ w1, (((w.alloc (.cells #[.string ⟨#[120]⟩, .int .u8 6, .int .i64 0, .int .i64 0, .int .u64 5, .string ⟨#[116]⟩, .int .u8 11, .int .i64 0, .int .i64 0, .int .u64 0] 28)).alloc
    (.cells #[.string ⟨#[83]⟩, .slice (some ⟨b0, 0, none⟩) 2 2] 31)).alloc (.cells #[.string ⟨#[83]⟩, .slice (some ⟨b0, 0, none⟩) 2 2] 31)).alloc (.cells #[.slice (some ⟨b2, 0, none⟩) 1 1, .slice none 0 0, .int .i64 0] 35) = w1 := ⟨_, rfl⟩
  obtain ⟨x0, x1, x2, x3, hB⟩ := heap_four w _ _ _ _ h0 h1 h2 h3 hw1
  have K28 : Kd.C k28 w1 (some ⟨b0, 0, none⟩) rS.f1.length rS.f1 := C_of_block x0 (by decide) (fun j p hp => by
    rcases j with _ | _ | j
    · have hp' : some fx = some p := hp
      injection hp' with hp'; subst hp'
      exact ⟨_, rfl, k28_mk w1 fx, fun i u hu => by
        rcases i with _ | _ | _ | _ | _ | i
        all_goals first | exact hu | (exfalso; simp at hu)⟩
    · have hp' : some ft = some p := hp
      injection hp' with hp'; subst hp'
      exact ⟨_, rfl, k28_mk w1 ft, fun i u hu => by
        rcases i with _ | _ | _ | _ | _ | i
        all_goals first | exact hu | (exfalso; simp at hu)⟩
    · exfalso; simp [rS] at hp)
  have HS := Aside0.mk (isS_one (r := rS) (cf := 2) x2 K28 (by decide))
  have HD := Aside0.mk (view_Default.calls 5 ⟨#[83]⟩ (some ⟨b0, 0, none⟩) 2 rS.f1 _ _ _ _ w1 K28 (by decide) default_f)
  have HX1 := Aside0.mk x1
  have HX3 := Aside0.mk x3
  have HB1 := Aside0.mk hB
  have HEQ := Aside0.mk (And.intro h0 (And.intro h1 (And.intro h2 (And.intro h3 hw1))))
  have HF := Aside0.mk (fun (W : World) (us u : Value) (v : S39) (hs : IsS W [rS] [] 0 us) (hv : IsV W v u) => fitstop_any good_rS 0 v us u W hs hv)
  clear x0 x1 x2 x3 hB K28 h0 h1 h2 h3 hw1
  go_enter Try.func6, Try.ntmps6
  go_upto_region 3 with (fail)
  rw [HEQ.out.1, HEQ.out.2.1, HEQ.out.2.2.1, HEQ.out.2.2.2.1, HEQ.out.2.2.2.2]
  have r0 : w1.cell? ⟨b1, 0, none⟩ = some (.string ⟨#[83]⟩) := (blk_cell HX1.out 0).trans rfl
  have r1 : w1.cell? ⟨b1, 1, none⟩ = some (.slice (some ⟨b0, 0, none⟩) 2 2) := (blk_cell HX1.out 1).trans rfl
  go_upto_region 4 with (go_at_call 9; refine calls_of_args (args' := #[.agg #[.string ⟨#[83]⟩, .slice (some ⟨b0, 0, none⟩) rS.f1.length 2]]) rfl ?_; refine HD.out.mono ?_; rintro e w2 ⟨v1, v2, rfl, hv1, hv2, hb⟩; obtain ⟨A1, c1, rfl⟩ := Kd.R_slice hv1; obtain ⟨A2, c2, rfl⟩ := Kd.R_slice hv2; have HV1 := Aside0.mk (Kd.R_reads' hv1).2; have HV2 := Aside0.mk (Kd.R_reads' hv2).2; have HB2 := Aside0.mk (below_then HB1.out HB1.out.size hb); have HS2 := Aside0.mk (HS.out.below hb); have HX32 := Aside0.mk ((hb.block _ (blk_lt HX3.out)).trans HX3.out); clear hv1 hv2 hb)
  clear r0 r1
  obtain ⟨w3, hw3⟩ : ∃ w3, w2.alloc (.cells #[.int .u64 0, .slice A1 0 c1, .slice A2 2 c2, .bool true] 39) = w3 := ⟨_, rfl⟩
  obtain ⟨gd, hgd⟩ : ∃ gd, w2.heap.size = gd := ⟨_, rfl⟩
  have h23 : Below w2.heap.size w2 w3 := by rw [← hw3]; exact below_alloc (Below.refl _ _) _
  have HB3 := Aside0.mk (below_then HB2.out HB2.out.size h23)
  have HS3 := Aside0.mk (HS2.out.below h23)
  have HX33 := Aside0.mk ((h23.block _ (blk_lt HX32.out)).trans HX32.out)
  have HD3 : Aside0 (w3.heap[gd]? = some (.cells #[.int .u64 0, .slice A1 0 c1, .slice A2 2 c2, .bool true] 39 (0, 0))) := ⟨by rw [← hw3, ← hgd]; exact heap_alloc_new w2 _⟩
  have HV3 : Aside0 (IsV w3 dS (.agg #[.int .u64 0, .slice A1 0 c1, .slice A2 2 c2, .bool true])) := ⟨⟨A1, c1, A2, c2, rfl, Kd.C_below HV1.out.2 h23, HV1.out.1, Kd.C_below HV2.out.2 h23, HV2.out.1⟩⟩
  obtain ⟨ad, E1, e1, E2, e2, rfl, m0, -, -, -, -⟩ := kid_at (xs := dS.f2) (Kd.C_below HV2.out.2 h23) 0 (by decide)
  have m5 : w3.cell? ad = some (.int .u64 5) := m0
  have m6 : w3.cell? (ad.add 0) = some (.int .u64 5) := m0
  rw [hw3, hgd]
  clear hw3 hgd h23 m0
  have d0 : w3.cell? ⟨gd, 0, none⟩ = some (.int .u64 0) := (blk_cell HD3.out 0).trans rfl
  have d1 : w3.cell? ⟨gd, 1, none⟩ = some (.slice A1 0 c1) := (blk_cell HD3.out 1).trans rfl
  have d2 : w3.cell? ⟨gd, 2, none⟩ = some (.slice (some ad) 2 c2) := (blk_cell HD3.out 2).trans rfl
  have d3 : w3.cell? ⟨gd, 3, none⟩ = some (.bool true) := (blk_cell HD3.out 3).trans rfl
  have s0 : w3.cell? ⟨b3, 0, none⟩ = some (.slice (some ⟨b2, 0, none⟩) 1 1) := (blk_cell HX33.out 0).trans rfl
  have s1 : w3.cell? ⟨b3, 1, none⟩ = some (.slice none 0 0) := (blk_cell HX33.out 1).trans rfl
  have s2 : w3.cell? ⟨b3, 2, none⟩ = some (.int .i64 0) := (blk_cell HX33.out 2).trans rfl
  have hm : ∀ (a b c d : Value) (w : World), (method 221 80 (.agg #[a, b, c, d]) "Num").run Try.prog w = .ok (57, .agg #[a, b, c, d]) w := fun _ _ _ _ _ => by kernel_rfl
  go_wp2_with (first
    | (go_at_call 7; have hx := HF.out w4 _ _ z39 HS4.out (isV_zero w4); rw [fits_zS] at hx; (with_reducible refine hx.mono ?_); clear hx; rintro e w5 ⟨rfl, hb⟩; have HB5 := Aside0.mk (below_then HB4.out HB4.out.size hb)
       have x0 := pw_cell_below hb y0; have x1 := pw_cell_below hb y1; have x2 := pw_cell_below hb y2; have x3 := pw_cell_below hb y3; have HV5 := Aside0.mk (HV4.out.below hb); clear hb y0 y1 y2 y3 z0 z1 z2)
    | (go_at_call 7; have hx := HF.out w3 _ _ dS HS3.out HV3.out; rw [fits_dS] at hx; (with_reducible refine hx.mono ?_); clear hx; rintro e w4 ⟨rfl, hb⟩; have HB4 := Aside0.mk (below_then HB3.out HB3.out.size hb)
       have y0 := pw_cell_below hb d0; have y1 := pw_cell_below hb d1; have y2 := pw_cell_below hb d2; have y3 := pw_cell_below hb d3; have z0 := pw_cell_below hb s0; have z1 := pw_cell_below hb s1; have z2 := pw_cell_below hb s2; have HS4 := Aside0.mk (HS3.out.below hb); have HV4 := Aside0.mk (HV3.out.below hb); clear hb d0 d1 d2 d3 s0 s1 s2 m5 m6)
    | (go_at_call 13; (with_reducible refine (of_any _ _ _ _ _).mono ?_); rintro e w6 ⟨rfl, hb⟩; have HV6 := Aside0.mk (HV5.out.below hb); have HB6 := Aside0.mk (below_then HB5.out HB5.out.size hb); clear hb x0 x1 x2 x3)
    | (go_at_call 57; have hx : Calls Try.prog 57 #[.agg #[.int .u64 0, .slice A1 0 c1, .slice (some ad) 2 c2, .bool true], .int .i64 0] w6 (fun e w' => e = .returned (.int .u64 5) ∧ Below w6.heap.size w6 w') := num_in dS _ 0 (by decide) w6 HV6.out; (with_reducible refine hx.mono ?_); clear hx; rintro e w7 ⟨rfl, hb⟩; have HB7 := Aside0.mk (below_then HB6.out HB6.out.size hb); clear hb))
  go_ret
  exact ⟨rfl, HB7.out⟩
end Go.Proofs.Ythilhndejhnlnaa.Hand
