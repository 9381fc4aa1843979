/- Texts joined: W6. -/
import Derived.Test.YthilhndejhnlnaaDoorZU24
import Derived.Test.YthilhndejhnlnaaDoorZU27
import Derived.Test.YthilhndejhnlnaaDoorZU35
section
/- turn: a part of a value, turned about: the walk of what is done at its place. -/
namespace Go.Proofs.YthilhndejhnlnaaDoor.Hand
open Go.RowKit Go.Proofs.YthilhndejhnlnaaDoor.QAll Go.Proofs.YthilhndejhnlnaaDoorW.PrintWords Go.Proofs.YthilhndejhnlnaaDoorW.PrintLast Go.Proofs.YthilhndejhnlnaaDoorW.PrintMore Go.Proofs.YthilhndejhnlnaaDoor.Runes Go.Proofs.YthilhndejhnlnaaDoor.Mk
set_option linter.unusedVariables false
set_option linter.unusedSimpArgs false
theorem heap29 : Kd.Heap k29 := Kd.heap_fix (fun d hd => Kd.heap_iso _ (Kd.heap_pair (Kd.heap_int _) (Kd.heap_pair (Kd.heap_slice 5 (Kd.heap_int _)) (Kd.heap_pair (Kd.heap_slice 29 hd) Kd.heap_bool))))
/-- What turn comes to: some value, of numbers in their ranges, hardly heavier. -/
def TPost (okv : Nat → Prop) (v : S29) (w : World) (e : Ending) (w' : World) : Prop :=
  ∃ (V : S29) (A1 : Option Addr) (c1 : Nat) (A2 : Option Addr) (c2 : Nat), e = .returned (.agg #[.int .u64 V.f0, .slice A1 V.f1.length c1, .slice A2 V.f2.length c2, .bool V.f3]) ∧ Kd.F (Kd.int .u8) w' (fun k => okv k ∨ w.heap.size ≤ k) A1 V.f1.length V.f1 ∧ V.f1.length ≤ c1 ∧ Kd.F k29 w' (fun k => okv k ∨ w.heap.size ≤ k) A2 V.f2.length V.f2 ∧ V.f2.length ≤ c2 ∧ rng V ∧ wt V ≤ wt v + 2 ∧ Below w.heap.size w w'
/-- A value whose memory lies in okv. -/
def FV (w : World) (okv : Nat → Prop) (v : S29) (u : Value) : Prop :=
  ∃ A1 c1 A2 c2, u = .agg #[.int .u64 v.f0, .slice A1 v.f1.length c1, .slice A2 v.f2.length c2, .bool v.f3] ∧ Kd.F (Kd.int .u8) w okv A1 v.f1.length v.f1 ∧ v.f1.length ≤ c1 ∧ Kd.F k29 w okv A2 v.f2.length v.f2 ∧ v.f2.length ≤ c2
theorem rng_mk {n : Int} {b : List Int} {ks : List S29} {f : Bool} (hn : 0 ≤ n ∧ n < 18446744073709551616) (hb : ∀ x ∈ b, 0 ≤ x ∧ x < 256) (hk : ∀ x ∈ ks, rng x) : rng ⟨n, b, ks, f⟩ := by
  simp only [rng]; exact ⟨hn, hb, (rngs_iff ks).2 hk⟩
theorem turn_new (w : World) (vs os : Array Value) : ∃ w1 gv gr, (w.alloc (.cells vs 29)).alloc (.cells os 29) = w1 ∧ w.heap.size = gv ∧ gv + 1 = gr ∧ gr + 1 = w1.heap.size ∧ w1.heap[gv]? = some (.cells vs 29 (0, 0)) ∧ w1.heap[gr]? = some (.cells os 29 (0, 0)) ∧ Below w.heap.size w w1 := by
  have a1 := heap_alloc_new w (.cells vs 29)
  have b1 := below_alloc (Below.refl (w.alloc (.cells vs 29)).heap.size (w.alloc (.cells vs 29))) (.cells os 29)
  have a2 := heap_alloc_new (w.alloc (.cells vs 29)) (.cells os 29)
  have e1 : (w.alloc (.cells vs 29)).heap.size = w.heap.size + 1 := by simp
  rw [e1] at a2
  exact ⟨_, _, _, rfl, rfl, rfl, by simp, (b1.block _ (by omega)).trans a1, a2, below_alloc (below_alloc (Below.refl _ _) _) _⟩
/-- The result's cells, written. -/
theorem set4 {W : World} {gr : Nat} {x0 x1 x2 x3 : Value} {o : Array Value} (hr : W.heap[gr]? = some (.cells o 29 (0, 0))) (ho : o.size = 4) :
    ∃ W', (((W.setCell ⟨gr, 0, none⟩ x0).setCell ⟨gr, 1, none⟩ x1).setCell ⟨gr, 2, none⟩ x2).setCell ⟨gr, 3, none⟩ x3 = W' ∧ W'.heap.size = W.heap.size ∧ (∀ k, k ≠ gr → W'.heap[k]? = W.heap[k]?) ∧ W'.cell? ⟨gr, 0, none⟩ = some x0 ∧ W'.cell? ⟨gr, 1, none⟩ = some x1 ∧ W'.cell? ⟨gr, 2, none⟩ = some x2 ∧ W'.cell? ⟨gr, 3, none⟩ = some x3 := by
  refine ⟨_, rfl, by simp [World.setCell], fun k hk => ?_, ?_⟩
  · rw [Below.heap_setCell _ ⟨gr, 3, none⟩ _ k hk, Below.heap_setCell _ ⟨gr, 2, none⟩ _ k hk, Below.heap_setCell _ ⟨gr, 1, none⟩ _ k hk, Below.heap_setCell _ ⟨gr, 0, none⟩ _ k hk]
  · have h := blk_set (blk_set (blk_set (blk_set hr 0 x0) 1 x1) 2 x2) 3 x3
    obtain ⟨a, b, c, d, rfl⟩ : ∃ a b c d, o = #[a, b, c, d] := by
      obtain ⟨l⟩ := o
      match l, ho with
      | [a, b, c, d], _ => exact ⟨a, b, c, d, rfl⟩
    exact ⟨(blk_cell h 0).trans rfl, (blk_cell h 1).trans rfl, (blk_cell h 2).trans rfl, (blk_cell h 3).trans rfl⟩
theorem turn_done {okv : Nat → Prop} {w W : World} {gr : Nat} {v : S29} {x0 : Int} {A1 A2 : Option Addr} {c1 c2 : Nat} {b : List Int} {ks : List S29} {n1 n2 : Nat} {f : Bool} (e1 : b.length = n1) (e2 : ks.length = n2) (hb : Below w.heap.size w W) (hgr : w.heap.size ≤ gr) (hR : W.heap[gr]? = some (.cells #[.int .u64 0, .slice none 0 0, .slice none 0 0, .bool false] 29 (0, 0)))
    (h1 : Kd.F (Kd.int .u8) W (fun k => (okv k ∨ w.heap.size ≤ k) ∧ k ≠ gr) A1 n1 b) (l1 : n1 ≤ c1) (h2 : Kd.F k29 W (fun k => (okv k ∨ w.heap.size ≤ k) ∧ k ≠ gr) A2 n2 ks) (l2 : n2 ≤ c2) (hr : rng ⟨x0, b, ks, f⟩) (hw : wt ⟨x0, b, ks, f⟩ ≤ wt v + 2) :
    ∃ Wz, (((W.setCell ⟨gr, 0, none⟩ (.int .u64 x0)).setCell ⟨gr, 1, none⟩ (.slice A1 n1 c1)).setCell ⟨gr, 2, none⟩ (.slice A2 n2 c2)).setCell ⟨gr, 3, none⟩ (.bool f) = Wz ∧ Wz.cell? ⟨gr, 0, none⟩ = some (.int .u64 x0) ∧ Wz.cell? ⟨gr, 1, none⟩ = some (.slice A1 n1 c1) ∧ Wz.cell? ⟨gr, 2, none⟩ = some (.slice A2 n2 c2) ∧ Wz.cell? ⟨gr, 3, none⟩ = some (.bool f) ∧ TPost okv v w (.returned (.agg #[.int .u64 x0, .slice A1 n1 c1, .slice A2 n2 c2, .bool f])) Wz := by
  subst e1 e2
  obtain ⟨Wz, hWz, hs, hk, r0, r1, r2, r3⟩ := set4 (x0 := .int .u64 x0) (x1 := .slice A1 b.length c1) (x2 := .slice A2 ks.length c2) (x3 := .bool f) hR rfl
  refine ⟨Wz, hWz, r0, r1, r2, r3, ⟨x0, b, ks, f⟩, A1, c1, A2, c2, rfl, Kd.F_mono (Kd.F_step h1 (fun k ho _ => hk k ho.2)) (fun k ho => ho.1), l1, Kd.F_mono (Kd.F_step h2 (fun k ho _ => hk k ho.2)) (fun k ho => ho.1), l2, hr, hw, ?_⟩
  rw [← hWz]
  exact Below.setCell (Below.setCell (Below.setCell (Below.setCell hb (p := ⟨gr, 0, none⟩) hgr _) (p := ⟨gr, 1, none⟩) hgr _) (p := ⟨gr, 2, none⟩) hgr _) (p := ⟨gr, 3, none⟩) hgr _
theorem old_F {α : Type} {d : Kd α} {okv : Nat → Prop} {w W : World} {A : Option Addr} {n gr : Nat} {xs : List α} (h : Kd.F d w okv A n xs) (hb : Below w.heap.size w W) (hgr : w.heap.size ≤ gr) : Kd.F d W (fun k => (okv k ∨ w.heap.size ≤ k) ∧ k ≠ gr) A n xs :=
  Kd.F_mono (Kd.F_below (Kd.F_bound h) hb) (fun k hk => ⟨.inl hk.1, by have := hk.2; omega⟩)
set_option maxHeartbeats 6400000 in
set_option maxRecDepth 100000 in
theorem turn_leaf (what n deep : Int) (hn : 0 ≤ n ∧ n < 18446744073709551616) (hwh : 0 ≤ what ∧ what < 256) (way : List Int) (v : S29) (u : Value) (A : Option Addr) (c : Nat) (w : World) (okv : Nat → Prop) (hr : rng v) (hw : wt v ≤ 90000) (hv : FV w okv v u)
    (hno : way.length = 0 ∨ v.f2.length = 0 ∨ ¬ 0 < deep) :
    Calls Tryd.prog 10 #[u, .slice A way.length c, .int .u8 what, .int .u64 n, .int .i64 deep] w (TPost okv v w) := by
  obtain ⟨A2, c2, A3, c3, rfl, hV1, hV2, hV3, hV4⟩ := hv
  obtain ⟨w1, gv, gr, hw1, hgv, hgr, hsz, a1, a2, hb⟩ := turn_new w #[.int .u64 v.f0, .slice A2 v.f1.length c2, .slice A3 v.f2.length c3, .bool v.f3] #[.int .u64 0, .slice none 0 0, .slice none 0 0, .bool false]
  have HEQ := Aside0.mk (And.intro hw1 (And.intro hgv hgr))
  have HG := Aside0.mk a1
  have HR := Aside0.mk a2
  have HB1 := Aside0.mk hb
  have facts : (decide ((0 : Int) < (way.length : Int)) = false ∧ decide (0 < way.length) = false) ∨ ((decide ((0 : Int) < (way.length : Int)) = true ∧ decide (0 < way.length) = true) ∧ (decide ((0 : Int) < (v.f2.length : Int)) = false ∧ decide (0 < v.f2.length) = false)) ∨
      ((decide ((0 : Int) < (way.length : Int)) = true ∧ decide (0 < way.length) = true) ∧ (decide ((0 : Int) < (v.f2.length : Int)) = true ∧ decide (0 < v.f2.length) = true) ∧ decide (0 < deep) = false) := by
    rcases Nat.eq_zero_or_pos way.length with f | f
    · left; exact ⟨decide_eq_false (by omega), decide_eq_false (by omega)⟩
    · right
      rcases Nat.eq_zero_or_pos v.f2.length with g | g
      · left; exact ⟨⟨decide_eq_true (by omega), decide_eq_true f⟩, ⟨decide_eq_false (by omega), decide_eq_false (by omega)⟩⟩
      · right; exact ⟨⟨decide_eq_true (by omega), decide_eq_true f⟩, ⟨decide_eq_true (by omega), decide_eq_true g⟩, decide_eq_false (by omega)⟩
  have HV1 := Aside0.mk (And.intro hV1 hV2)
  have HV3 := Aside0.mk (And.intro hV3 hV4)
  have HLO : Aside0 (w.heap.size ≤ gv ∧ w.heap.size ≤ gr ∧ gr ≠ gv) := ⟨by omega⟩
  have HSZ : Aside0 (gr + 1 = w1.heap.size) := ⟨hsz⟩
  have HNR := Aside0.mk hn
  have HRG := Aside0.mk (rng_is v hr)
  have HWT := Aside0.mk hw
  obtain ⟨sv, hsv⟩ : ∃ sv, what % 6 = sv := ⟨_, rfl⟩
  have HSV := Aside0.mk hsv
  have sw : ((sv == 0) = true ∧ True) ∨ ((sv == 0) = false ∧ (sv == 1) = true ∧ True) ∨ ((sv == 0) = false ∧ (sv == 1) = false ∧ (sv == 2) = true ∧ True) ∨ ((sv == 0) = false ∧ (sv == 1) = false ∧ (sv == 2) = false ∧ (sv == 3) = true ∧ True) ∨
      ((sv == 0) = false ∧ (sv == 1) = false ∧ (sv == 2) = false ∧ (sv == 3) = false ∧ (sv == 4) = true ∧ True) ∨ ((sv == 0) = false ∧ (sv == 1) = false ∧ (sv == 2) = false ∧ (sv == 3) = false ∧ (sv == 4) = false ∧ True) := by
    cases (sv == 0) <;> cases (sv == 1) <;> cases (sv == 2) <;> cases (sv == 3) <;> cases (sv == 4) <;> simp
  obtain ⟨hwh0, hwh1⟩ := hwh
  clear hw1 hgv hgr a1 a2 hb hV1 hV2 hV3 hV4 hno hsz hr hw hn hsv
  obtain ⟨y, hy⟩ : ∃ y, n % 256 = y := ⟨_, rfl⟩
  have hwy : IntKind.u8.wrap n = y := by rw [IntKind.wrap_u8]; exact hy
  have HY : Aside0 (0 ≤ y ∧ y < 256) := ⟨by omega⟩
  obtain ⟨r3, hr3⟩ : ∃ r3, n % 3 = r3 := ⟨_, rfl⟩
  have HR3 : Aside0 (0 ≤ r3 ∧ r3 < 18446744073709551616) := ⟨by omega⟩
  have hm3 : Int.tmod n 3 = r3 := by rw [Int.tmod_eq_emod_of_nonneg HNR.out.1]; exact hr3
  have HLV : Aside0 (v.f1.length ≤ 90000 ∧ v.f2.length ≤ 90000) := ⟨by have := wtd_is v; have := wtds_len v.f2; have := HWT.out; omega⟩
  clear hy hr3
  rcases facts with ⟨f1, f2⟩ | ⟨⟨f1, f2⟩, ⟨f3, f4⟩⟩ | ⟨⟨f1, f2⟩, ⟨f3, f4⟩, f5⟩
  all_goals
    go_enter Tryd.func10, Tryd.ntmps10
    go_upto_region 1 with (fail)
    rw [HEQ.out.1, HEQ.out.2.1, HEQ.out.2.2]
    have v0 : w1.cell? ⟨gv, 0, none⟩ = some (.int .u64 v.f0) := (blk_cell HG.out 0).trans rfl
    have v1 : w1.cell? ⟨gv, 1, none⟩ = some (.slice A2 v.f1.length c2) := (blk_cell HG.out 1).trans rfl
    have v2 : w1.cell? ⟨gv, 2, none⟩ = some (.slice A3 v.f2.length c3) := (blk_cell HG.out 2).trans rfl
    have v3 : w1.cell? ⟨gv, 3, none⟩ = some (.bool v.f3) := (blk_cell HG.out 3).trans rfl
    go_upto_region 8 with (fail)
    rw [HSV.out]
    rcases sw with ⟨e0, hs⟩ | ⟨e0, e1, hs⟩ | ⟨e0, e1, e2, hs⟩ | ⟨e0, e1, e2, e3, hs⟩ | ⟨e0, e1, e2, e3, e4, hs⟩ | ⟨e0, e1, e2, e3, e4, hs⟩
    · have vf := blk_frozen HG.out 0
      go_upto_region 18 with (fail)
      obtain ⟨w2, hw2⟩ : ∃ w2, w1.setCell ⟨gv, 0, none⟩ (.int .u64 n) = w2 := ⟨_, rfl⟩
      have HB2 : Aside0 (Below w.heap.size w w2) := ⟨by rw [← hw2]; exact Below.setCell HB1.out (p := ⟨gv, 0, none⟩) HLO.out.1 _⟩
      have HG2 : Aside0 (w2.heap[gv]? = some (.cells #[.int .u64 n, .slice A2 v.f1.length c2, .slice A3 v.f2.length c3, .bool v.f3] 29 (0, 0))) := ⟨by rw [← hw2]; exact blk_set HG.out 0 _⟩
      have HR2 : Aside0 (w2.heap[gr]? = some (.cells #[.int .u64 0, .slice none 0 0, .slice none 0 0, .bool false] 29 (0, 0))) := ⟨by rw [← hw2]; exact blk_far (p := ⟨gv, 0, none⟩) HR.out HLO.out.2.2 _⟩
      rw [hw2]
      clear hw2 v0 v1 v2 v3 vf
      have v0 : w2.cell? ⟨gv, 0, none⟩ = some (.int .u64 n) := (blk_cell HG2.out 0).trans rfl
      have v1 : w2.cell? ⟨gv, 1, none⟩ = some (.slice A2 v.f1.length c2) := (blk_cell HG2.out 1).trans rfl
      have v2 : w2.cell? ⟨gv, 2, none⟩ = some (.slice A3 v.f2.length c3) := (blk_cell HG2.out 2).trans rfl
      have v3 : w2.cell? ⟨gv, 3, none⟩ = some (.bool v.f3) := (blk_cell HG2.out 3).trans rfl
      have HDONE := Aside0.mk (turn_done (okv := okv) (v := v) (b := v.f1) (ks := v.f2) (f := v.f3) (x0 := n) rfl rfl HB2.out HLO.out.2.1 HR2.out (old_F HV1.out.1 HB2.out HLO.out.2.1) HV1.out.2 (old_F HV3.out.1 HB2.out HLO.out.2.1) HV3.out.2 (rng_mk HNR.out HRG.out.2.1 HRG.out.2.2) (by have := wtd_is v; simp only [wt]; omega))
      have r0 : w2.cell? ⟨gr, 0, none⟩ = some (.int .u64 0) := (blk_cell HR2.out 0).trans rfl
      have r1 : w2.cell? ⟨gr, 1, none⟩ = some (.slice none 0 0) := (blk_cell HR2.out 1).trans rfl
      have r2 : w2.cell? ⟨gr, 2, none⟩ = some (.slice none 0 0) := (blk_cell HR2.out 2).trans rfl
      have r3 : w2.cell? ⟨gr, 3, none⟩ = some (.bool false) := (blk_cell HR2.out 3).trans rfl
      have r0f := blk_frozen HR2.out 0
      have r1f := blk_frozen HR2.out 1
      have r2f := blk_frozen HR2.out 2
      have r3f := blk_frozen HR2.out 3
      obtain ⟨Wz, hWz, z0, z1, z2, z3, hT⟩ := HDONE.out
      have HWZ := Aside0.mk hWz
      have HT := Aside0.mk hT
      clear hWz hT
      go_wp2_with (fail)
      rw [HWZ.out]
      exact bodyPost_ret (by simp [results, Tryd.results10, go_sem, z0, z1, z2, z3]) rfl HT.out
    · have hbw := below_alloc (Below.refl w1.heap.size w1) (.cells #[] 5)
      have HR0 : Aside0 (Rb (Kd.int .u8) 5 (w1.alloc (.cells #[] 5)) w1.heap.size (.slice (some ⟨w1.heap.size, 0, none⟩) 0 0) []) := ⟨Kd.R_of_own (enc := Value.int .u8) (h1 := fun _ => rfl) (World.ownsRow_made w1 #[] 0 (Nat.le_refl _) (Nat.zero_le _) rfl) (fun _ _ => trivial)⟩
      have ga := (hbw.block _ (blk_lt HG.out)).trans HG.out
      have u1 : (w1.alloc (.cells #[] 5)).cell? ⟨gv, 1, none⟩ = some (.slice A2 v.f1.length c2) := (blk_cell ga 1).trans rfl
      have HBW := Aside0.mk hbw
      clear hbw ga
      go_upto_region 18 with (first
        | ((with_reducible refine gate_builtin (b := .append) (xs := #[.tmp 67, .tmp 69]) rfl ?_); at_builtin; refine Kd.R_append_row (Value.int .u8) (0 : Int) (h1 := fun _ => rfl) (w0 := w1) (W := w1.alloc (.cells #[] 5)) w1.heap.size rfl (.tmp 67) (.tmp 69) 22 5 (.int .u8 0) 1 rfl Tryd.underlying22 info5 rfl (by decide) (.slice (some ⟨w1.heap.size, 0, none⟩) 0 0) [] v.f1 A2 v.f1.length c2 (fun _ => True) rfl rfl (fun _ _ => trivial) HR0.out (Kd.F_now (Kd.F_below HV1.out.1 (below_then HB1.out HB1.out.size HBW.out))) HBW.out HBW.out.size (by have := HLV.out.1; simp only [List.length_nil]; omega) ?_; intro va wa hra hba hga hata; rw [List.nil_append] at hra; obtain ⟨Aa, ca, rfl, -, -⟩ := Rb.slice hra; have HRA := Aside0.mk hra; have HBA := Aside0.mk hba; clear hra hba hga hata)
        | ((with_reducible refine gate_builtin (b := .append) (xs := #[.tmp 70, .tmp 73]) rfl ?_); at_builtin; refine Kd.R_append (Kd.int .u8) (w0 := w1) (W := wa) w1.heap.size rfl (.tmp 70) (.tmp 73) 22 5 (.int .u8 0) 1 rfl Tryd.underlying22 info5 rfl (by decide) (by decide) (.slice Aa v.f1.length ca) v.f1 y [.int .u8 y] (fun _ => True) (fun _ => False) rfl rfl rfl (fun _ h => h.elim) (fun _ _ => trivial) HRA.out HBA.out HBA.out.size (by have := HLV.out.1; omega) ?_; intro vb wb hrb hbb hgb hatb; obtain ⟨Ab, cb, evb, lb, -⟩ := Rb.slice hrb; rw [List.length_append, List.length_singleton] at evb lb; subst evb; have HRB := Aside0.mk hrb; have HBB := Aside0.mk hbb; have HLB := Aside0.mk lb; have gb := (hbb.block _ (blk_lt HG.out)).trans HG.out; have u2 : wb.cell? ⟨gv, 1, none⟩ = some (.slice A2 v.f1.length c2) := (blk_cell gb 1).trans rfl; have u2f := blk_frozen gb 1; clear hrb hbb hgb hatb lb gb))
      have gb := (HBB.out.block _ (blk_lt HG.out)).trans HG.out
      have rb := (HBB.out.block _ (blk_lt HR.out)).trans HR.out
      obtain ⟨w2, hw2⟩ : ∃ w2, wb.setCell ⟨gv, 1, none⟩ (.slice Ab (v.f1.length + 1) cb) = w2 := ⟨_, rfl⟩
      have hlo := HLO.out
      have hsz := HSZ.out
      have hsz0 : gv < gr := by have := HEQ.out.2.2; omega
      have HB2 : Aside0 (Below w.heap.size w w2) := ⟨by rw [← hw2]; exact Below.setCell (below_then HB1.out HB1.out.size HBB.out) (p := ⟨gv, 1, none⟩) HLO.out.1 _⟩
      have HG2 : Aside0 (w2.heap[gv]? = some (.cells #[.int .u64 v.f0, .slice Ab (v.f1.length + 1) cb, .slice A3 v.f2.length c3, .bool v.f3] 29 (0, 0))) := ⟨by rw [← hw2]; exact blk_set gb 1 _⟩
      have HR2 : Aside0 (w2.heap[gr]? = some (.cells #[.int .u64 0, .slice none 0 0, .slice none 0 0, .bool false] 29 (0, 0))) := ⟨by rw [← hw2]; exact blk_far (p := ⟨gv, 1, none⟩) rb HLO.out.2.2 _⟩
      have HRF : Aside0 (Kd.F (Kd.int .u8) w2 (fun k => (okv k ∨ w.heap.size ≤ k) ∧ k ≠ gr) Ab (v.f1.length + 1) (v.f1 ++ [y])) := ⟨by
        rw [← hw2]
        exact Kd.F_mono (Kd.R_F (Rb.from (Rb.set (p := ⟨gv, 1, none⟩) HRB.out (by show gv < w1.heap.size; omega) _))) (fun k hk => ⟨.inr (by omega), by omega⟩)⟩
      rw [hw2]
      clear gb rb hw2 hlo hsz hsz0 v0 v1 v2 v3 u1 u2 u2f
      have v0 : w2.cell? ⟨gv, 0, none⟩ = some (.int .u64 v.f0) := (blk_cell HG2.out 0).trans rfl
      have v1 : w2.cell? ⟨gv, 1, none⟩ = some (.slice Ab (v.f1.length + 1) cb) := (blk_cell HG2.out 1).trans rfl
      have v2 : w2.cell? ⟨gv, 2, none⟩ = some (.slice A3 v.f2.length c3) := (blk_cell HG2.out 2).trans rfl
      have v3 : w2.cell? ⟨gv, 3, none⟩ = some (.bool v.f3) := (blk_cell HG2.out 3).trans rfl
      have HDONE := Aside0.mk (turn_done (okv := okv) (v := v) (b := v.f1 ++ [y]) (ks := v.f2) (n1 := v.f1.length + 1) (f := v.f3) (x0 := v.f0) (by simp) rfl HB2.out HLO.out.2.1 HR2.out HRF.out HLB.out (old_F HV3.out.1 HB2.out HLO.out.2.1) HV3.out.2 (rng_mk HRG.out.1 (fun x hx => by have := HY.out; rcases List.mem_append.1 hx with h | h; exact HRG.out.2.1 x h; simp at h; omega) HRG.out.2.2) (by have := wtd_is v; simp only [wt, List.length_append, List.length_cons, List.length_nil]; omega))
      have r0 : w2.cell? ⟨gr, 0, none⟩ = some (.int .u64 0) := (blk_cell HR2.out 0).trans rfl
      have r1 : w2.cell? ⟨gr, 1, none⟩ = some (.slice none 0 0) := (blk_cell HR2.out 1).trans rfl
      have r2 : w2.cell? ⟨gr, 2, none⟩ = some (.slice none 0 0) := (blk_cell HR2.out 2).trans rfl
      have r3 : w2.cell? ⟨gr, 3, none⟩ = some (.bool false) := (blk_cell HR2.out 3).trans rfl
      have r0f := blk_frozen HR2.out 0
      have r1f := blk_frozen HR2.out 1
      have r2f := blk_frozen HR2.out 2
      have r3f := blk_frozen HR2.out 3
      obtain ⟨Wz, hWz, z0, z1, z2, z3, hT⟩ := HDONE.out
      have HWZ := Aside0.mk hWz
      have HT := Aside0.mk hT
      clear hWz hT
      go_wp2_with (fail)
      rw [HWZ.out]
      exact bodyPost_ret (by simp [results, Tryd.results10, go_sem, z0, z1, z2, z3]) rfl HT.out
    · have vf := blk_frozen HG.out 3
      go_upto_region 18 with (fail)
      obtain ⟨w2, hw2⟩ : ∃ w2, w1.setCell ⟨gv, 3, none⟩ (.bool (!v.f3)) = w2 := ⟨_, rfl⟩
      have HB2 : Aside0 (Below w.heap.size w w2) := ⟨by rw [← hw2]; exact Below.setCell HB1.out (p := ⟨gv, 3, none⟩) HLO.out.1 _⟩
      have HG2 : Aside0 (w2.heap[gv]? = some (.cells #[.int .u64 v.f0, .slice A2 v.f1.length c2, .slice A3 v.f2.length c3, .bool (!v.f3)] 29 (0, 0))) := ⟨by rw [← hw2]; exact blk_set HG.out 3 _⟩
      have HR2 : Aside0 (w2.heap[gr]? = some (.cells #[.int .u64 0, .slice none 0 0, .slice none 0 0, .bool false] 29 (0, 0))) := ⟨by rw [← hw2]; exact blk_far (p := ⟨gv, 3, none⟩) HR.out HLO.out.2.2 _⟩
      rw [hw2]
      clear hw2 v0 v1 v2 v3 vf
      have v0 : w2.cell? ⟨gv, 0, none⟩ = some (.int .u64 v.f0) := (blk_cell HG2.out 0).trans rfl
      have v1 : w2.cell? ⟨gv, 1, none⟩ = some (.slice A2 v.f1.length c2) := (blk_cell HG2.out 1).trans rfl
      have v2 : w2.cell? ⟨gv, 2, none⟩ = some (.slice A3 v.f2.length c3) := (blk_cell HG2.out 2).trans rfl
      have v3 : w2.cell? ⟨gv, 3, none⟩ = some (.bool (!v.f3)) := (blk_cell HG2.out 3).trans rfl
      have HDONE := Aside0.mk (turn_done (okv := okv) (v := v) (b := v.f1) (ks := v.f2) (f := (!v.f3)) (x0 := v.f0) rfl rfl HB2.out HLO.out.2.1 HR2.out (old_F HV1.out.1 HB2.out HLO.out.2.1) HV1.out.2 (old_F HV3.out.1 HB2.out HLO.out.2.1) HV3.out.2 (rng_mk HRG.out.1 HRG.out.2.1 HRG.out.2.2) (by have := wtd_is v; simp only [wt]; omega))
      have r0 : w2.cell? ⟨gr, 0, none⟩ = some (.int .u64 0) := (blk_cell HR2.out 0).trans rfl
      have r1 : w2.cell? ⟨gr, 1, none⟩ = some (.slice none 0 0) := (blk_cell HR2.out 1).trans rfl
      have r2 : w2.cell? ⟨gr, 2, none⟩ = some (.slice none 0 0) := (blk_cell HR2.out 2).trans rfl
      have r3 : w2.cell? ⟨gr, 3, none⟩ = some (.bool false) := (blk_cell HR2.out 3).trans rfl
      have r0f := blk_frozen HR2.out 0
      have r1f := blk_frozen HR2.out 1
      have r2f := blk_frozen HR2.out 2
      have r3f := blk_frozen HR2.out 3
      obtain ⟨Wz, hWz, z0, z1, z2, z3, hT⟩ := HDONE.out
      have HWZ := Aside0.mk hWz
      have HT := Aside0.mk hT
      clear hWz hT
      go_wp2_with (fail)
      rw [HWZ.out]
      exact bodyPost_ret (by simp [results, Tryd.results10, go_sem, z0, z1, z2, z3]) rfl HT.out
    · have hbw := below_alloc (Below.refl w1.heap.size w1) (.cells #[] 29)
      have HN0 : Aside0 (Kd.N k29 29 (w1.alloc (.cells #[] 29)) w1.heap.size (fun k => (okv k ∨ w.heap.size ≤ k) ∧ k ≠ gr ∧ k ≠ gv) (.slice (some ⟨w1.heap.size, 0, none⟩) 0 0) []) := ⟨by
        have hlo := HLO.out
        have hsz := HSZ.out
        have hsz0 : gv < gr := by have := HEQ.out.2.2; omega
        exact Kd.R_N ⟨fun k hk => by simp [Value.ownBlock] at hk; subst hk; exact ⟨.inr (by omega), by omega, by omega⟩, [], World.ownsRow_made w1 #[] 0 (Nat.le_refl _) (Nat.zero_le _) rfl, rfl, fun j p hj => by simp at hj⟩⟩
      have ga := (hbw.block _ (blk_lt HG.out)).trans HG.out
      have u1 : (w1.alloc (.cells #[] 29)).cell? ⟨gv, 2, none⟩ = some (.slice A3 v.f2.length c3) := (blk_cell ga 2).trans rfl
      have HBW := Aside0.mk hbw
      have HFV : Aside0 (Kd.F k29 (w1.alloc (.cells #[] 29)) (fun k => ((okv k ∨ w.heap.size ≤ k) ∧ k ≠ gr ∧ k ≠ gv) ∧ some k ≠ (Value.slice (some ⟨w1.heap.size, 0, none⟩) 0 0).ownBlock) A3 v.f2.length v.f2) := ⟨by
        have hlo := HLO.out
        have hsz := HSZ.out
        have e := HEQ.out
        exact Kd.F_mono (Kd.F_below (Kd.F_bound HV3.out.1) (below_then HB1.out HB1.out.size hbw)) (fun k hk => by have hk2 := hk.2; exact ⟨⟨.inl hk.1, by omega, by omega⟩, by simp [Value.ownBlock]; omega⟩)⟩
      have HFR : Aside0 (∀ k, (w1.alloc (.cells #[] 29)).heap.size ≤ k → (okv k ∨ w.heap.size ≤ k) ∧ k ≠ gr ∧ k ≠ gv) := ⟨fun k hk => by
        have hlo := HLO.out
        have hsz := HSZ.out
        have e := HEQ.out.2.2
        have := hbw.size
        exact ⟨.inr (by omega), by omega, by omega⟩⟩
      clear hbw ga
      go_upto_region 18 with (first
        | ((with_reducible refine gate_builtin (b := .append) (xs := #[.tmp 84, .tmp 86]) rfl ?_); at_builtin; refine Kd.N_append_rows k29 (w0 := w1) (W := w1.alloc (.cells #[] 29)) w1.heap.size rfl (.tmp 84) (.tmp 86) 27 29 (.agg #[.int .u64 0, .slice none 0 0, .slice none 0 0, .bool false]) 64 rfl Tryd.underlying27 info29 rfl (by decide) (by decide) (.slice (some ⟨w1.heap.size, 0, none⟩) 0 0) [] v.f2 A3 v.f2.length c3 (fun k => (okv k ∨ w.heap.size ≤ k) ∧ k ≠ gr ∧ k ≠ gv) (fun k => ((okv k ∨ w.heap.size ≤ k) ∧ k ≠ gr ∧ k ≠ gv) ∧ some k ≠ (Value.slice (some ⟨w1.heap.size, 0, none⟩) 0 0).ownBlock) rfl rfl HN0.out HFV.out (fun k hk => hk) HFR.out HBW.out HBW.out.size (by have := HLV.out.2; simp only [List.length_nil]; omega) ?_; intro va wa hra hba hga hata; rw [List.nil_append] at hra; obtain ⟨Aa, ca, rfl⟩ := Kd.N_slice hra; have HRA := Aside0.mk hra; have HBA := Aside0.mk hba; have HWA := Aside0.mk hga.size; clear hra hba hga hata)
        | ((with_reducible refine gate_builtin (b := .append) (xs := #[.tmp 87, .tmp 91]) rfl ?_); at_builtin; refine Kd.N_append k29 (w0 := w1) (W := wa) w1.heap.size rfl (.tmp 87) (.tmp 91) 27 29 (.agg #[.int .u64 0, .slice none 0 0, .slice none 0 0, .bool false]) 64 rfl Tryd.underlying27 info29 rfl (by decide) (by decide) (.slice Aa v.f2.length ca) v.f2 ⟨r3, [], [], false⟩ [.int .u64 r3, .slice none 0 0, .slice none 0 0, .bool false] (fun k => (okv k ∨ w.heap.size ≤ k) ∧ k ≠ gr ∧ k ≠ gv) (fun _ => False) rfl rfl (k29_mkF wa _ ⟨r3, [], [], false⟩ (Nat.le_refl _) (Kd.F_nil _ _ _) (Nat.le_refl _) (Kd.F_nil _ _ _)) (fun _ h => h.elim) (fun k hk => HFR.out k (Nat.le_trans (HWA.out) hk)) HRA.out HBA.out HBA.out.size (by have := HLV.out.2; omega) ?_; intro vb wb hrb hbb hgb hatb; obtain ⟨Ab, cb, evb, lb, -⟩ := Kd.N_reads hrb; rw [List.length_append, List.length_singleton] at evb lb; subst evb; have HRB := Aside0.mk hrb; have HBB := Aside0.mk hbb; have HLB := Aside0.mk lb; have gb := (hbb.block _ (blk_lt HG.out)).trans HG.out; have u2 : wb.cell? ⟨gv, 2, none⟩ = some (.slice A3 v.f2.length c3) := (blk_cell gb 2).trans rfl; have u2f := blk_frozen gb 2; clear hrb hbb hgb hatb lb gb))
      have gb := (HBB.out.block _ (blk_lt HG.out)).trans HG.out
      have rb := (HBB.out.block _ (blk_lt HR.out)).trans HR.out
      obtain ⟨w2, hw2⟩ : ∃ w2, wb.setCell ⟨gv, 2, none⟩ (.slice Ab (v.f2.length + 1) cb) = w2 := ⟨_, rfl⟩
      have HB2 : Aside0 (Below w.heap.size w w2) := ⟨by rw [← hw2]; exact Below.setCell (below_then HB1.out HB1.out.size HBB.out) (p := ⟨gv, 2, none⟩) HLO.out.1 _⟩
      have HG2 : Aside0 (w2.heap[gv]? = some (.cells #[.int .u64 v.f0, .slice A2 v.f1.length c2, .slice Ab (v.f2.length + 1) cb, .bool v.f3] 29 (0, 0))) := ⟨by rw [← hw2]; exact blk_set gb 2 _⟩
      have HR2 : Aside0 (w2.heap[gr]? = some (.cells #[.int .u64 0, .slice none 0 0, .slice none 0 0, .bool false] 29 (0, 0))) := ⟨by rw [← hw2]; exact blk_far (p := ⟨gv, 2, none⟩) rb HLO.out.2.2 _⟩
      have HRF : Aside0 (Kd.F k29 w2 (fun k => (okv k ∨ w.heap.size ≤ k) ∧ k ≠ gr) Ab (v.f2.length + 1) (v.f2 ++ [⟨r3, [], [], false⟩])) := ⟨by
        rw [← hw2]
        exact Kd.F_mono (Kd.N_F (Kd.N_far (p := ⟨gv, 2, none⟩) HRB.out (fun k hk => hk.2.2) _)) (fun k hk => ⟨hk.1, hk.2.1⟩)⟩
      rw [hw2]
      clear gb rb hw2 v0 v1 v2 v3 u1 u2 u2f
      have v0 : w2.cell? ⟨gv, 0, none⟩ = some (.int .u64 v.f0) := (blk_cell HG2.out 0).trans rfl
      have v1 : w2.cell? ⟨gv, 1, none⟩ = some (.slice A2 v.f1.length c2) := (blk_cell HG2.out 1).trans rfl
      have v2 : w2.cell? ⟨gv, 2, none⟩ = some (.slice Ab (v.f2.length + 1) cb) := (blk_cell HG2.out 2).trans rfl
      have v3 : w2.cell? ⟨gv, 3, none⟩ = some (.bool v.f3) := (blk_cell HG2.out 3).trans rfl
      have HDONE := Aside0.mk (turn_done (okv := okv) (v := v) (b := v.f1) (ks := v.f2 ++ [⟨r3, [], [], false⟩]) (n2 := v.f2.length + 1) (f := v.f3) (x0 := v.f0) rfl (by simp) HB2.out HLO.out.2.1 HR2.out (old_F HV1.out.1 HB2.out HLO.out.2.1) HV1.out.2 HRF.out HLB.out (rng_mk HRG.out.1 HRG.out.2.1 (fun x hx => by rcases List.mem_append.1 hx with h | h; exact HRG.out.2.2 x h; simp at h; subst h; exact rng_mk HR3.out (fun x hx => by cases hx) (fun x hx => by cases hx))) (by have := wtd_is v; simp only [wt, wts_append, wts, List.length_nil]; omega))
      have r0 : w2.cell? ⟨gr, 0, none⟩ = some (.int .u64 0) := (blk_cell HR2.out 0).trans rfl
      have r1 : w2.cell? ⟨gr, 1, none⟩ = some (.slice none 0 0) := (blk_cell HR2.out 1).trans rfl
      have r2 : w2.cell? ⟨gr, 2, none⟩ = some (.slice none 0 0) := (blk_cell HR2.out 2).trans rfl
      have r3 : w2.cell? ⟨gr, 3, none⟩ = some (.bool false) := (blk_cell HR2.out 3).trans rfl
      have r0f := blk_frozen HR2.out 0
      have r1f := blk_frozen HR2.out 1
      have r2f := blk_frozen HR2.out 2
      have r3f := blk_frozen HR2.out 3
      obtain ⟨Wz, hWz, z0, z1, z2, z3, hT⟩ := HDONE.out
      have HWZ := Aside0.mk hWz
      have HT := Aside0.mk hT
      clear hWz hT
      go_wp2_with (fail)
      rw [HWZ.out]
      exact bodyPost_ret (by simp [results, Tryd.results10, go_sem, z0, z1, z2, z3]) rfl HT.out
    · have vf := blk_frozen HG.out 2
      go_upto_region 18 with (fail)
      obtain ⟨w2, hw2⟩ : ∃ w2, w1.setCell ⟨gv, 2, none⟩ (.slice none 0 0) = w2 := ⟨_, rfl⟩
      have HB2 : Aside0 (Below w.heap.size w w2) := ⟨by rw [← hw2]; exact Below.setCell HB1.out (p := ⟨gv, 2, none⟩) HLO.out.1 _⟩
      have HG2 : Aside0 (w2.heap[gv]? = some (.cells #[.int .u64 v.f0, .slice A2 v.f1.length c2, .slice none 0 0, .bool v.f3] 29 (0, 0))) := ⟨by rw [← hw2]; exact blk_set HG.out 2 _⟩
      have HR2 : Aside0 (w2.heap[gr]? = some (.cells #[.int .u64 0, .slice none 0 0, .slice none 0 0, .bool false] 29 (0, 0))) := ⟨by rw [← hw2]; exact blk_far (p := ⟨gv, 2, none⟩) HR.out HLO.out.2.2 _⟩
      rw [hw2]
      clear hw2 v0 v1 v2 v3 vf
      have v0 : w2.cell? ⟨gv, 0, none⟩ = some (.int .u64 v.f0) := (blk_cell HG2.out 0).trans rfl
      have v1 : w2.cell? ⟨gv, 1, none⟩ = some (.slice A2 v.f1.length c2) := (blk_cell HG2.out 1).trans rfl
      have v2 : w2.cell? ⟨gv, 2, none⟩ = some (.slice none 0 0) := (blk_cell HG2.out 2).trans rfl
      have v3 : w2.cell? ⟨gv, 3, none⟩ = some (.bool v.f3) := (blk_cell HG2.out 3).trans rfl
      have HDONE := Aside0.mk (turn_done (okv := okv) (v := v) (b := v.f1) (ks := []) (n2 := 0) (f := v.f3) (x0 := v.f0) rfl rfl HB2.out HLO.out.2.1 HR2.out (old_F HV1.out.1 HB2.out HLO.out.2.1) HV1.out.2 (Kd.F_nil _ _ _) (Nat.le_refl _) (rng_mk HRG.out.1 HRG.out.2.1 (fun x hx => by cases hx)) (by have := wtd_is v; simp only [wt, wts]; omega))
      have r0 : w2.cell? ⟨gr, 0, none⟩ = some (.int .u64 0) := (blk_cell HR2.out 0).trans rfl
      have r1 : w2.cell? ⟨gr, 1, none⟩ = some (.slice none 0 0) := (blk_cell HR2.out 1).trans rfl
      have r2 : w2.cell? ⟨gr, 2, none⟩ = some (.slice none 0 0) := (blk_cell HR2.out 2).trans rfl
      have r3 : w2.cell? ⟨gr, 3, none⟩ = some (.bool false) := (blk_cell HR2.out 3).trans rfl
      have r0f := blk_frozen HR2.out 0
      have r1f := blk_frozen HR2.out 1
      have r2f := blk_frozen HR2.out 2
      have r3f := blk_frozen HR2.out 3
      obtain ⟨Wz, hWz, z0, z1, z2, z3, hT⟩ := HDONE.out
      have HWZ := Aside0.mk hWz
      have HT := Aside0.mk hT
      clear hWz hT
      go_wp2_with (fail)
      rw [HWZ.out]
      exact bodyPost_ret (by simp [results, Tryd.results10, go_sem, z0, z1, z2, z3]) rfl HT.out
    · obtain ⟨wa, hwa⟩ : ∃ wa, w1.alloc (.cells #[.int .u8 195, .int .u8 y] 5) = wa := ⟨_, rfl⟩
      have ba : Below w1.heap.size w1 wa := by rw [← hwa]; exact below_alloc (Below.refl _ _) _
      have ga : wa.heap[gv]? = some (.cells #[.int .u64 v.f0, .slice A2 v.f1.length c2, .slice A3 v.f2.length c3, .bool v.f3] 29 (0, 0)) := (ba.block _ (blk_lt HG.out)).trans HG.out
      have ra : wa.heap[gr]? = some (.cells #[.int .u64 0, .slice none 0 0, .slice none 0 0, .bool false] 29 (0, 0)) := (ba.block _ (blk_lt HR.out)).trans HR.out
      have na : wa.heap[w1.heap.size]? = some (.cells #[.int .u8 195, .int .u8 y] 5 (0, 0)) := by rw [← hwa]; exact heap_alloc_new w1 _
      have u1 : (w1.alloc (.cells #[.int .u8 195, .int .u8 y] 5)).cell? ⟨gv, 1, none⟩ = some (.slice A2 v.f1.length c2) := by rw [hwa]; exact (blk_cell ga 1).trans rfl
      have u1f : (w1.alloc (.cells #[.int .u8 195, .int .u8 y] 5)).frozen? ⟨gv, 1, none⟩ = false := by rw [hwa]; exact blk_frozen ga 1
      obtain ⟨gb, hgb⟩ : ∃ gb, w1.heap.size = gb := ⟨_, rfl⟩
      have HGB := Aside0.mk hgb
      obtain ⟨w2, hw2⟩ : ∃ w2, wa.setCell ⟨gv, 1, none⟩ (.slice (some ⟨gb, 0, none⟩) 2 2) = w2 := ⟨_, rfl⟩
      have HB2 : Aside0 (Below w.heap.size w w2) := ⟨by rw [← hw2]; exact Below.setCell (below_then HB1.out HB1.out.size ba) (p := ⟨gv, 1, none⟩) HLO.out.1 _⟩
      have HG2 : Aside0 (w2.heap[gv]? = some (.cells #[.int .u64 v.f0, .slice (some ⟨gb, 0, none⟩) 2 2, .slice A3 v.f2.length c3, .bool v.f3] 29 (0, 0))) := ⟨by rw [← hw2]; exact blk_set ga 1 _⟩
      have HR2 : Aside0 (w2.heap[gr]? = some (.cells #[.int .u64 0, .slice none 0 0, .slice none 0 0, .bool false] 29 (0, 0))) := ⟨by rw [← hw2]; exact blk_far (p := ⟨gv, 1, none⟩) ra HLO.out.2.2 _⟩
      have hlo := HLO.out
      have hsz := HSZ.out
      have hsz0 : gv < gr := by have := HEQ.out.2.2; omega
      have HN2 : Aside0 (w2.heap[gb]? = some (.cells #[.int .u8 195, .int .u8 y] 5 (0, 0))) := ⟨by rw [← hw2, ← hgb]; exact blk_far (p := ⟨gv, 1, none⟩) na (by show w1.heap.size ≠ gv; omega) _⟩
      have HGN : Aside0 (gb ≠ gr ∧ w.heap.size ≤ gb) := ⟨by omega⟩
      have HEQ2 := Aside0.mk (And.intro hwa hw2)
      clear ba ga ra na hwa hw2 hlo hsz hsz0
      go_upto_region 18 with (fail)
      rw [HEQ2.out.1, HEQ2.out.2]
      clear v0 v1 v2 v3 u1 u1f hgb
      have v0 : w2.cell? ⟨gv, 0, none⟩ = some (.int .u64 v.f0) := (blk_cell HG2.out 0).trans rfl
      have v1 : w2.cell? ⟨gv, 1, none⟩ = some (.slice (some ⟨gb, 0, none⟩) 2 2) := (blk_cell HG2.out 1).trans rfl
      have v2 : w2.cell? ⟨gv, 2, none⟩ = some (.slice A3 v.f2.length c3) := (blk_cell HG2.out 2).trans rfl
      have v3 : w2.cell? ⟨gv, 3, none⟩ = some (.bool v.f3) := (blk_cell HG2.out 3).trans rfl
      have HF : Aside0 (Kd.F (Kd.int .u8) w2 (fun k => (okv k ∨ w.heap.size ≤ k) ∧ k ≠ gr) (some ⟨gb, 0, none⟩) 2 [195, y]) := ⟨fun W' hW => by
        have hb' := (hW gb ⟨.inr HGN.out.2, HGN.out.1⟩ (blk_lt HN2.out)).trans HN2.out
        exact C_of_block (d := Kd.int .u8) (xs := [195, y]) hb' (by simp) (fun j p hp => by
          match j, hp with
          | 0, hp => simp at hp; subst hp; exact ⟨[.int .u8 195], rfl, rfl, fun i u hu => by match i, hu with | 0, hu => simpa using hu⟩
          | 1, hp => simp at hp; subst hp; exact ⟨[.int .u8 y], rfl, rfl, fun i u hu => by match i, hu with | 0, hu => exact hu⟩
          | j + 2, hp => simp at hp)⟩
      have HDONE := Aside0.mk (turn_done (okv := okv) (v := v) (b := [195, y]) (ks := v.f2) (n1 := 2) (f := v.f3) (x0 := v.f0) rfl rfl HB2.out HLO.out.2.1 HR2.out HF.out (Nat.le_refl _) (old_F HV3.out.1 HB2.out HLO.out.2.1) HV3.out.2 (rng_mk HRG.out.1 (fun x hx => by have := HY.out; simp at hx; rcases hx with rfl | rfl <;> omega) HRG.out.2.2) (by have := wtd_is v; simp only [wt, List.length_cons, List.length_nil]; omega))
      have r0 : w2.cell? ⟨gr, 0, none⟩ = some (.int .u64 0) := (blk_cell HR2.out 0).trans rfl
      have r1 : w2.cell? ⟨gr, 1, none⟩ = some (.slice none 0 0) := (blk_cell HR2.out 1).trans rfl
      have r2 : w2.cell? ⟨gr, 2, none⟩ = some (.slice none 0 0) := (blk_cell HR2.out 2).trans rfl
      have r3 : w2.cell? ⟨gr, 3, none⟩ = some (.bool false) := (blk_cell HR2.out 3).trans rfl
      have r0f := blk_frozen HR2.out 0
      have r1f := blk_frozen HR2.out 1
      have r2f := blk_frozen HR2.out 2
      have r3f := blk_frozen HR2.out 3
      obtain ⟨Wz, hWz, z0, z1, z2, z3, hT⟩ := HDONE.out
      have HWZ := Aside0.mk hWz
      have HT := Aside0.mk hT
      clear hWz hT
      go_wp2_with (fail)
      rw [HWZ.out]
      exact bodyPost_ret (by simp [results, Tryd.results10, go_sem, z0, z1, z2, z3]) rfl HT.out
end Go.Proofs.YthilhndejhnlnaaDoor.Hand
end
