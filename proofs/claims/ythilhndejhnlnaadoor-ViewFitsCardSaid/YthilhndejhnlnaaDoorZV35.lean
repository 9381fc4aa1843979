/- Texts joined: V6 V7. -/
import Derived.Test.YthilhndejhnlnaaDoorZV30
section
/- Layer 7, view: a value as a view (Of, Num), and the fixed fact. -/
namespace Go.Proofs.YthilhndejhnlnaaDoor.Hand
open Go.RowKit Go.Proofs.YthilhndejhnlnaaDoor.QAll Go.Proofs.YthilhndejhnlnaaDoorW.PrintWords Go.Proofs.YthilhndejhnlnaaDoorW.PrintLast Go.Proofs.YthilhndejhnlnaaDoorW.PrintMore Go.Proofs.YthilhndejhnlnaaDoor.Runes
set_option linter.unusedVariables false
set_option linter.unusedSimpArgs false

def KidPost (w : World) (x : S29) (e : Ending) (w' : World) : Prop := ∃ uk, e = .returned uk ∧ IsV w' x uk ∧ Below w.heap.size w w'
set_option maxHeartbeats 1600000 in
theorem kid_in (v : S29) (u : Value) (i : Nat) (hi : i < v.f2.length) (w : World) (hv : IsV w v u) : Calls Tryd.prog 57 #[u, .int .i64 i] w (KidPost w v.f2[i]) := by
  obtain ⟨A1, c1, A2, c2, rfl, hV1, hV2, hV3, hV4⟩ := hv
  obtain ⟨ad, E1, e1, E2, e2, rfl, m0, m1, m2, m3, hkv⟩ := kid_at hV3 i hi
  obtain ⟨K, hK⟩ : ∃ K, v.f2[i] = K := ⟨_, rfl⟩
  rw [hK] at m0 m1 m2 m3 hkv ⊢
  have HKV := Aside0.mk hkv
  have i0 : (0 : Int) ≤ (i : Int) := Int.natCast_nonneg _
  have i1 : (i : Int) < (v.f2.length : Int) := by omega
  have i2 : decide ((i : Int) < 0) = false := decide_eq_false (by omega)
  have i3 : decide (v.f2.length ≤ i) = false := decide_eq_false (by omega)
  have i4 : decide ((v.f2.length : Int) ≤ (i : Int)) = false := decide_eq_false (by omega)
  have l0 := World.block_lt_of_cell? w _ m0
  clear hV1 hV2 hV3 hV4 hK hkv
  go_enter Tryd.func57, Tryd.ntmps57
  go_wp2
  refine bodyPost_ret (v := .agg #[.int .u64 K.f0, .slice E1 K.f1.length e1, .slice E2 K.f2.length e2, .bool K.f3]) (by simp [results, Tryd.results57, go_sem]) rfl ⟨_, rfl, HKV.out.below ?_, ?_⟩
  all_goals
    first
      | exact below_alloc (below_alloc (Below.refl _ _) _) _
      | exact Below.setCell (below_alloc (below_alloc (Below.refl _ _) _) _) (by simp) _
      | exact below_alloc (Below.refl _ _) _
set_option maxHeartbeats 1600000 in
set_option maxRecDepth 100000 in
theorem num_in (v : S29) (u : Value) (i : Nat) (hi : i < v.f2.length) (w : World) (hv : IsV w v u) : Calls Tryd.prog 56 #[u, .int .i64 i] w fun e w' => e = .returned (.int .u64 (v.f2[i]).f0) ∧ Below w.heap.size w w' := by
  have HV := Aside0.mk hv
  obtain ⟨A1, c1, A2, c2, rfl, -, -, -, -⟩ := hv
  have HC : Aside0 (∀ W, Below w.heap.size w W → Calls Tryd.prog 57 #[.agg #[.int .u64 v.f0, .slice A1 v.f1.length c1, .slice A2 v.f2.length c2, .bool v.f3], .int .i64 i] W (KidPost W v.f2[i])) := ⟨fun W hW => kid_in v _ i hi W (HV.out.below hW)⟩
  obtain ⟨K, hK⟩ : ∃ K, v.f2[i] = K := ⟨_, rfl⟩
  rw [hK] at HC ⊢
  clear hK
  go_enter Tryd.func56, Tryd.ntmps56
  have HB1 : Aside0 (Below w.heap.size w (w.alloc (.cells #[.int .u64 v.f0, .slice A1 v.f1.length c1, .slice A2 v.f2.length c2, .bool v.f3] 71))) := ⟨below_alloc (Below.refl w.heap.size w) _⟩
  have hfld : ∀ (a b c d : Value) (w : World), (Instr.field 29 (.agg #[a, b, c, d]) 0).run Tryd.prog w = .ok a w := fun _ _ _ _ _ => by kernel_rfl
  go_wp2_with (go_at_call 57; have hx := HC.out _ HB1.out; (with_reducible refine hx.mono ?_); clear hx; rintro e w2 ⟨uk, rfl, hu, hb⟩; have HB2 := Aside0.mk (below_then HB1.out HB1.out.size hb); obtain ⟨E1, e1, E2, e2, rfl, -, -, -, -⟩ := hu; clear hb)
  go_ret
  exact ⟨rfl, HB2.out⟩
set_option maxHeartbeats 800000 in
theorem of_any (n s1 s2 h : Value) (w : World) : Calls Tryd.prog 13 #[.agg #[n, s1, s2, h]] w fun e w' => e = .returned (.iface 73 (.agg #[n, s1, s2, h])) ∧ Below w.heap.size w w' := by
  go_enter Tryd.func13, Tryd.ntmps13
  go_wp2
  go_ret
  exact ⟨rfl, below_alloc (Below.refl _ _) _⟩

/-- A row of elements, out of the block that holds them. -/
theorem C_of_block {α : Type} {d : Kd α} {w : World} {g : Nat} {cs : Array Value} {t : TypeId} {xs : List α} (hb : w.heap[g]? = some (.cells cs t (0, 0))) (hm : xs.length ≤ 1000)
    (hK : ∀ j p, xs[j]? = some p → ∃ c : List Value, c.length = d.sz ∧ d.K w p c ∧ ∀ i u, c[i]? = some u → cs[j * d.sz + i]? = some u) : Kd.C d w (some ⟨g, 0, none⟩) xs.length xs := by
  refine ⟨rfl, by omega, fun hp => ⟨⟨g, 0, none⟩, rfl, fun j p hp => ?_⟩⟩
  obtain ⟨c, h1, h2, h3⟩ := hK j p hp
  refine ⟨c, h1, h2, fun i u hu => ?_⟩
  have e : (⟨g, 0, none⟩ : Addr).add (j * d.sz + i) = ⟨g, j * d.sz + i, none⟩ := by
    unfold Addr.add; split
    · rename_i h; rw [h]
    · simp
  rw [e]
  exact (blk_cell hb _).trans (h3 i u hu)
/-- One element alone. -/
theorem C_one {α : Type} {d : Kd α} {w : World} {g : Nat} {cs : Array Value} {t : TypeId} {x : α} (hb : w.heap[g]? = some (.cells cs t (0, 0))) (hs : cs.toList.length = d.sz) (hK : d.K w x cs.toList) : Kd.C d w (some ⟨g, 0, none⟩) 1 [x] :=
  C_of_block (xs := [x]) hb (by simp) (fun j p hp => by
    rcases j with _ | j
    · simp at hp; subst hp
      exact ⟨cs.toList, hs, hK, fun i u hu => by simpa using hu⟩
    · simp at hp)
def fx : S47 := ⟨⟨#[120]⟩, ⟨6, 0, 0⟩, 5⟩
def ft : S47 := ⟨⟨#[116]⟩, ⟨11, 0, 0⟩, 0⟩
def rS : S50 := ⟨⟨#[83]⟩, [fx, ft]⟩
def dS : S29 := ⟨0, [], [⟨5, [], [], false⟩, ⟨0, [], [], false⟩], true⟩
theorem default_f : view_Default.f 5 ⟨#[83]⟩ [fx, ft] = some (0, [], [⟨5, [], [], false⟩, ⟨0, [], [], false⟩], true) := by kernel_rfl
theorem good_one (r : S50) (h : ∀ f ∈ r.f1, (f.f1.f0 = 13 → 0 ≤ f.f1.f1 ∧ f.f1.f1 < 1) ∧ f.f1.f2 ≤ 9223372036854775807) : Good [r] := by
  intro r' hr f hf
  rw [List.mem_singleton] at hr; subst hr
  exact ⟨fun e => (h f hf).1 e, (h f hf).2⟩
end Go.Proofs.YthilhndejhnlnaaDoor.Hand
end

section
/- Layer 7, view: the fixed fact of the laws. -/
namespace Go.Proofs.YthilhndejhnlnaaDoor.Hand
open Go.RowKit Go.Proofs.YthilhndejhnlnaaDoor.QAll Go.Proofs.YthilhndejhnlnaaDoorW.PrintWords Go.Proofs.YthilhndejhnlnaaDoorW.PrintLast Go.Proofs.YthilhndejhnlnaaDoorW.PrintMore Go.Proofs.YthilhndejhnlnaaDoor.Runes
set_option linter.unusedVariables false
set_option linter.unusedSimpArgs false

theorem heap_four (w : World) (o0 o1 o2 o3 : Obj) {b0 b1 b2 b3 : Nat} (h : w.heap.size = b0) (h1 : b0 + 1 = b1) (h2 : b1 + 1 = b2) (h3 : b2 + 1 = b3) {W : World} (hW : (((w.alloc o0).alloc o1).alloc o2).alloc o3 = W) :
    W.heap[b0]? = some o0 ∧ W.heap[b1]? = some o1 ∧ W.heap[b2]? = some o2 ∧ W.heap[b3]? = some o3 ∧ Below w.heap.size w W := by
  subst h h1 h2 h3 hW
  have a1 := heap_alloc_new w o0
  have b1 := below_alloc (Below.refl (w.alloc o0).heap.size (w.alloc o0)) o1
  have a2 := heap_alloc_new (w.alloc o0) o1
  have b2 := below_alloc (Below.refl ((w.alloc o0).alloc o1).heap.size ((w.alloc o0).alloc o1)) o2
  have a3 := heap_alloc_new ((w.alloc o0).alloc o1) o2
  have b3 := below_alloc (Below.refl (((w.alloc o0).alloc o1).alloc o2).heap.size (((w.alloc o0).alloc o1).alloc o2)) o3
  have a4 := heap_alloc_new (((w.alloc o0).alloc o1).alloc o2) o3
  have e1 : (w.alloc o0).heap.size = w.heap.size + 1 := by simp
  have e2 : ((w.alloc o0).alloc o1).heap.size = w.heap.size + 1 + 1 := by simp
  have e3 : (((w.alloc o0).alloc o1).alloc o2).heap.size = w.heap.size + 1 + 1 + 1 := by simp
  rw [e1] at a2
  rw [e2] at a3
  rw [e3] at a4
  exact ⟨(b3.block _ (by omega)).trans ((b2.block _ (by omega)).trans ((b1.block _ (by omega)).trans a1)), (b3.block _ (by omega)).trans ((b2.block _ (by omega)).trans a2), (b3.block _ (by omega)).trans a3, a4,
    below_alloc (below_alloc (below_alloc (below_alloc (Below.refl _ _) _) _) _) _⟩
theorem isS_one {w : World} {r : S50} {g : Nat} {Af : Option Addr} {cf : Nat} (hb : w.heap[g]? = some (.cells #[.string r.f0, .slice Af r.f1.length cf] 50 (0, 0))) (hF : Kd.C k47 w Af r.f1.length r.f1) (hc : r.f1.length ≤ cf) :
    IsS w [r] [] 0 (.agg #[.slice (some ⟨g, 0, none⟩) 1 1, .slice none 0 0, .int .i64 0]) :=
  ⟨some ⟨g, 0, none⟩, 1, none, 0, rfl, C_one hb rfl (k50_mk w r hc hF), Nat.le_refl _, Kd.C_nil _ _, Nat.le_refl _⟩
theorem isV_zero (w : World) : IsV w z29 (.agg #[.int .u64 0, .slice none 0 0, .slice none 0 0, .bool false]) := ⟨none, 0, none, 0, rfl, Kd.C_nil _ _, Nat.le_refl _, Kd.C_nil _ _, Nat.le_refl _⟩
theorem good_rS : Good [rS] := good_one rS (by
  intro f hf
  simp only [rS, List.mem_cons, List.not_mem_nil, or_false] at hf
  rcases hf with rfl | rfl
  · exact ⟨fun h => absurd h (by decide), by decide⟩
  · exact ⟨fun h => absurd h (by decide), by decide⟩)
theorem fits_dS : fitsTop [rS] [] 0 0 dS = true := by kernel_rfl
theorem fits_zS : fitsTop [rS] [] 0 0 z29 = false := by kernel_rfl
set_option maxHeartbeats 3200000 in
set_option maxRecDepth 100000 in
theorem awake07 (w : World) : Calls Tryd.prog 5 #[] w fun e w' => e = .returned (.bool true) ∧ Below w.heap.size w w' := by
  obtain ⟨b0, h0⟩ : ∃ b0, w.heap.size = b0 := ⟨_, rfl⟩
  obtain ⟨b1, h1⟩ : ∃ b1, b0 + 1 = b1 := ⟨_, rfl⟩
  obtain ⟨b2, h2⟩ : ∃ b2, b1 + 1 = b2 := ⟨_, rfl⟩
  obtain ⟨b3, h3⟩ : ∃ b3, b2 + 1 = b3 := ⟨_, rfl⟩
  obtain ⟨w1, hw1⟩ : ∃ w1, (((w.alloc (.cells #[.string ⟨#[120]⟩, .int .u8 6, .int .i64 0, .int .i64 0, .int .u64 5, .string ⟨#[116]⟩, .int .u8 11, .int .i64 0, .int .i64 0, .int .u64 0] 47)).alloc
    (.cells #[.string ⟨#[83]⟩, .slice (some ⟨b0, 0, none⟩) 2 2] 50)).alloc (.cells #[.string ⟨#[83]⟩, .slice (some ⟨b0, 0, none⟩) 2 2] 50)).alloc (.cells #[.slice (some ⟨b2, 0, none⟩) 1 1, .slice none 0 0, .int .i64 0] 34) = w1 := ⟨_, rfl⟩
  obtain ⟨x0, x1, x2, x3, hB⟩ := heap_four w _ _ _ _ h0 h1 h2 h3 hw1
  have K28 : Kd.C k47 w1 (some ⟨b0, 0, none⟩) rS.f1.length rS.f1 := C_of_block x0 (by decide) (fun j p hp => by
    rcases j with _ | _ | j
    · have hp' : some fx = some p := hp
      injection hp' with hp'; subst hp'
      exact ⟨_, rfl, k47_mk w1 fx, fun i u hu => by
        rcases i with _ | _ | _ | _ | _ | i
        all_goals first | exact hu | (exfalso; simp at hu)⟩
    · have hp' : some ft = some p := hp
      injection hp' with hp'; subst hp'
      exact ⟨_, rfl, k47_mk w1 ft, fun i u hu => by
        rcases i with _ | _ | _ | _ | _ | i
        all_goals first | exact hu | (exfalso; simp at hu)⟩
    · exfalso; simp [rS] at hp)
  have HS := Aside0.mk (isS_one (r := rS) (cf := 2) x2 K28 (by decide))
  have HD := Aside0.mk (view_Default.calls 5 ⟨#[83]⟩ (some ⟨b0, 0, none⟩) 2 rS.f1 _ _ _ _ w1 K28 (by decide) default_f)
  have HX1 := Aside0.mk x1
  have HX3 := Aside0.mk x3
  have HB1 := Aside0.mk hB
  have HEQ := Aside0.mk (And.intro h0 (And.intro h1 (And.intro h2 (And.intro h3 hw1))))
  have HF := Aside0.mk (fun (W : World) (us u : Value) (v : S29) (hs : IsS W [rS] [] 0 us) (hv : IsV W v u) => fitstop_any good_rS 0 v us u W hs hv)
  clear x0 x1 x2 x3 hB K28 h0 h1 h2 h3 hw1
  go_enter Tryd.func5, Tryd.ntmps5
  go_upto_region 3 with (fail)
  rw [HEQ.out.1, HEQ.out.2.1, HEQ.out.2.2.1, HEQ.out.2.2.2.1, HEQ.out.2.2.2.2]
  have r0 : w1.cell? ⟨b1, 0, none⟩ = some (.string ⟨#[83]⟩) := (blk_cell HX1.out 0).trans rfl
  have r1 : w1.cell? ⟨b1, 1, none⟩ = some (.slice (some ⟨b0, 0, none⟩) 2 2) := (blk_cell HX1.out 1).trans rfl
  go_upto_region 4 with (go_at_call 12; refine calls_of_args (args' := #[.agg #[.string ⟨#[83]⟩, .slice (some ⟨b0, 0, none⟩) rS.f1.length 2]]) rfl ?_; refine HD.out.mono ?_; rintro e w2 ⟨v1, v2, rfl, hv1, hv2, hb⟩; obtain ⟨A1, c1, rfl⟩ := Kd.R_slice hv1; obtain ⟨A2, c2, rfl⟩ := Kd.R_slice hv2; have HV1 := Aside0.mk (Kd.R_reads' hv1).2; have HV2 := Aside0.mk (Kd.R_reads' hv2).2; have HB2 := Aside0.mk (below_then HB1.out HB1.out.size hb); have HS2 := Aside0.mk (HS.out.below hb); have HX32 := Aside0.mk ((hb.block _ (blk_lt HX3.out)).trans HX3.out); clear hv1 hv2 hb)
  clear r0 r1
  obtain ⟨w3, hw3⟩ : ∃ w3, w2.alloc (.cells #[.int .u64 0, .slice A1 0 c1, .slice A2 2 c2, .bool true] 29) = w3 := ⟨_, rfl⟩
  obtain ⟨gd, hgd⟩ : ∃ gd, w2.heap.size = gd := ⟨_, rfl⟩
  have h23 : Below w2.heap.size w2 w3 := by rw [← hw3]; exact below_alloc (Below.refl _ _) _
  have HB3 := Aside0.mk (below_then HB2.out HB2.out.size h23)
  have HS3 := Aside0.mk (HS2.out.below h23)
  have HX33 := Aside0.mk ((h23.block _ (blk_lt HX32.out)).trans HX32.out)
  have HD3 : Aside0 (w3.heap[gd]? = some (.cells #[.int .u64 0, .slice A1 0 c1, .slice A2 2 c2, .bool true] 29 (0, 0))) := ⟨by rw [← hw3, ← hgd]; exact heap_alloc_new w2 _⟩
  have HV3 : Aside0 (IsV w3 dS (.agg #[.int .u64 0, .slice A1 0 c1, .slice A2 2 c2, .bool true])) := ⟨⟨A1, c1, A2, c2, rfl, Kd.C_below HV1.out.2 h23, HV1.out.1, Kd.C_below HV2.out.2 h23, HV2.out.1⟩⟩
  obtain ⟨ad, E1, e1, E2, e2, rfl, m0, -, -, -, -⟩ := kid_at (xs := dS.f2) (Kd.C_below HV2.out.2 h23) 0 (by decide)
  have m5 : w3.cell? ad = some (.int .u64 5) := m0
  have m6 : w3.cell? (ad.add 0) = some (.int .u64 5) := m0
  rw [hw3, hgd]
  clear hw3 hgd h23 m0
  have d0 : w3.cell? ⟨gd, 0, none⟩ = some (.int .u64 0) := (blk_cell HD3.out 0).trans rfl
  have d1 : w3.cell? ⟨gd, 1, none⟩ = some (.slice A1 0 c1) := (blk_cell HD3.out 1).trans rfl
  have d2 : w3.cell? ⟨gd, 2, none⟩ = some (.slice (some ad) 2 c2) := (blk_cell HD3.out 2).trans rfl
  have d3 : w3.cell? ⟨gd, 3, none⟩ = some (.bool true) := (blk_cell HD3.out 3).trans rfl
  have s0 : w3.cell? ⟨b3, 0, none⟩ = some (.slice (some ⟨b2, 0, none⟩) 1 1) := (blk_cell HX33.out 0).trans rfl
  have s1 : w3.cell? ⟨b3, 1, none⟩ = some (.slice none 0 0) := (blk_cell HX33.out 1).trans rfl
  have s2 : w3.cell? ⟨b3, 2, none⟩ = some (.int .i64 0) := (blk_cell HX33.out 2).trans rfl
  have hm : ∀ (a b c d : Value) (w : World), (method 220 73 (.agg #[a, b, c, d]) "Num").run Tryd.prog w = .ok (56, .agg #[a, b, c, d]) w := fun _ _ _ _ _ => by kernel_rfl
  go_wp2_with (first
    | (go_at_call 8; have hx := HF.out w4 _ _ z29 HS4.out (isV_zero w4); rw [fits_zS] at hx; (with_reducible refine hx.mono ?_); clear hx; rintro e w5 ⟨rfl, hb⟩; have HB5 := Aside0.mk (below_then HB4.out HB4.out.size hb)
       have x0 := pw_cell_below hb y0; have x1 := pw_cell_below hb y1; have x2 := pw_cell_below hb y2; have x3 := pw_cell_below hb y3; have HV5 := Aside0.mk (HV4.out.below hb); clear hb y0 y1 y2 y3 z0 z1 z2)
    | (go_at_call 8; have hx := HF.out w3 _ _ dS HS3.out HV3.out; rw [fits_dS] at hx; (with_reducible refine hx.mono ?_); clear hx; rintro e w4 ⟨rfl, hb⟩; have HB4 := Aside0.mk (below_then HB3.out HB3.out.size hb)
       have y0 := pw_cell_below hb d0; have y1 := pw_cell_below hb d1; have y2 := pw_cell_below hb d2; have y3 := pw_cell_below hb d3; have z0 := pw_cell_below hb s0; have z1 := pw_cell_below hb s1; have z2 := pw_cell_below hb s2; have HS4 := Aside0.mk (HS3.out.below hb); have HV4 := Aside0.mk (HV3.out.below hb); clear hb d0 d1 d2 d3 s0 s1 s2 m5 m6)
    | (go_at_call 13; (with_reducible refine (of_any _ _ _ _ _).mono ?_); rintro e w6 ⟨rfl, hb⟩; have HV6 := Aside0.mk (HV5.out.below hb); have HB6 := Aside0.mk (below_then HB5.out HB5.out.size hb); clear hb x0 x1 x2 x3)
    | (go_at_call 56; have hx : Calls Tryd.prog 56 #[.agg #[.int .u64 0, .slice A1 0 c1, .slice (some ad) 2 c2, .bool true], .int .i64 0] w6 (fun e w' => e = .returned (.int .u64 5) ∧ Below w6.heap.size w6 w') := num_in dS _ 0 (by decide) w6 HV6.out; (with_reducible refine hx.mono ?_); clear hx; rintro e w7 ⟨rfl, hb⟩; have HB7 := Aside0.mk (below_then HB6.out HB6.out.size hb); clear hb))
  go_ret
  exact ⟨rfl, HB7.out⟩
end Go.Proofs.YthilhndejhnlnaaDoor.Hand
end
