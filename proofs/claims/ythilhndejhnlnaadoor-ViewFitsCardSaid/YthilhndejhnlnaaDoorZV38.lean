/- Texts joined: W9 WalkViewFits. -/
import Derived.Test.YthilhndejhnlnaaDoorZV31
import Derived.Test.YthilhndejhnlnaaDoorZV35
import Derived.Test.YthilhndejhnlnaaDoorZV37
section
/- A value as the law's parameter: its data, opened; nothing of it is longer than memory may be. -/
namespace Go.Proofs.YthilhndejhnlnaaDoor.Hand
open Go.RowKit Go.Deep Go.Proofs.YthilhndejhnlnaaDoor.QAll Go.Proofs.YthilhndejhnlnaaDoorW.PrintWords Go.Proofs.YthilhndejhnlnaaDoorW.PrintLast Go.Proofs.YthilhndejhnlnaaDoorW.PrintMore Go.Proofs.YthilhndejhnlnaaDoor.Mk
set_option linter.unusedVariables false
theorem rng_mk2 {n : Int} {b : List Int} {ks : List S29} {f : Bool} (hn : 0 ≤ n ∧ n < 18446744073709551616) (hb : ∀ x ∈ b, 0 ≤ x ∧ x < 256) (hk : ∀ x ∈ ks, rng x) : rng ⟨n, b, ks, f⟩ := by
  simp only [rng]; exact ⟨hn, hb, (rngs_iff ks).2 hk⟩
theorem weights_mem {H : Type} {P : Program} {e : TypeId} {l : List (DataW H)} {d : DataW H} (hd : d ∈ l) {p : Nat → Bool} (h : (DataW.weightsAll P e l).all p = true) : (d.weights P e).all p = true := by
  induction l with
  | nil => cases hd
  | cons a t ih =>
    simp only [DataW.weightsAll, List.all_append, Bool.and_eq_true] at h
    rcases List.mem_cons.1 hd with rfl | hd
    · exact h.1
    · exact ih hd h.2
theorem weights_at {H : Type} {P : Program} {p : Nat → Bool} : ∀ {ts : List TypeId} {ds : List (DataW H)} {j : Nat} {t : TypeId} {d : DataW H}, (DataW.weightsEach P ts ds).all p = true → ts[j]? = some t → ds[j]? = some d → (d.weights P t).all p = true
  | [], _, j, _, _, _, ht, _ => by simp at ht
  | _ :: _, [], j, _, _, _, _, hd => by simp at hd
  | a :: ts, b :: ds, 0, t, d, h, ht, hd => by
    simp only [List.getElem?_cons_zero, Option.some.injEq] at ht hd
    subst ht hd
    simp only [DataW.weightsEach, List.all_append, Bool.and_eq_true] at h
    exact h.1
  | a :: ts, b :: ds, j + 1, t, d, h, ht, hd => by
    simp only [DataW.weightsEach, List.all_append, Bool.and_eq_true] at h
    exact weights_at h.2 (by simpa using ht) (by simpa using hd)
theorem slice_in {P : Program} {t e : TypeId} {α : Type} {d : Kd α} {wf : α → Prop} (ht : P.underlying t = some (.slice e)) (he : P.cellsOf e = d.sz) {H : Type} {enc : TypeId × Value → H} {w : World} {base : Nat} {spare : Nat → Bool} {held : Bool} {fuel : Nat} {cs : List Value} {x : DataW H × List MemPlace}
    (h : DataW.trod enc P w base spare held fuel t cs = some x) (hw : (x.1.weights P t).all (· ≤ reachBytes) = true)
    (hd : ∀ (n : Nat) (c : List Value) (y : DataW H × List MemPlace), fuel = n + 1 → DataW.trod enc P w base spare held n e c = some y → (y.1.weights P e).all (· ≤ reachBytes) = true → ∃ v : α, d.K w v c ∧ wf v) :
    ∃ l : List α, (Kd.slice e d).K w l cs ∧ (∀ x ∈ l, wf x) ∧ l.length * P.bytesOf e ≤ reachBytes := by
  rcases DataW.trod_slice ht h with ⟨rfl, _⟩ | ⟨a, len, cap, elems, rest, n, hfu, rfl, rfl, hb, hl, hm, hlen, hel, hsp, hns⟩
  · exact ⟨[], ⟨none, 0, rfl, Nat.le_refl _, Kd.C_nil d w⟩, (fun x hx => by cases hx), by simp⟩
  simp only [DataW.weights, ht, List.all_cons, List.all_append, Bool.and_eq_true, decide_eq_true_eq, List.length_map] at hw
  have hmax : len ≤ 9223372036854775807 := by have h1 := Nat.le_trans hl hm; simpa [maxLen] using h1
  have key : ∀ i, i < len → ∃ (v : α), wf v ∧ ∃ c, c.length = d.sz ∧ d.K w v c ∧ ∀ j u, c[j]? = some u → w.cell? (a.add (i * d.sz + j)) = some u := by
    intro i hi
    have h1 := hel i hi
    rw [List.getElem?_eq_getElem (by omega)] at h1
    obtain ⟨c, hc, ht2⟩ := Option.bind_eq_some_iff.1 h1
    obtain ⟨v, hv, hwf⟩ := hd n c _ hfu ht2 (weights_mem (List.mem_map.2 ⟨_, List.getElem_mem (by omega), rfl⟩) hw.2.1)
    obtain ⟨_, hcl, hcc⟩ := World.cells?_some hc
    refine ⟨v, hwf, c, by rw [hcl, he], hv, fun j u hu => ?_⟩
    have hj : j < c.length := (List.getElem?_eq_some_iff.1 hu).1
    have h2 := hcc j (by omega)
    rw [hu, he] at h2
    have e3 : (a.add (i * d.sz)).add j = a.add (i * d.sz + j) := by
      unfold Addr.add
      by_cases h1 : i * d.sz = 0 <;> by_cases h2 : j = 0 <;> simp [h1, h2, Nat.add_assoc]
    rw [← e3]; exact h2
  have mk : ∀ n, n ≤ len → ∃ l : List α, l.length = n ∧ (∀ x ∈ l, wf x) ∧ ∀ j p, l[j]? = some p → ∃ c, c.length = d.sz ∧ d.K w p c ∧ ∀ i u, c[i]? = some u → w.cell? (a.add (j * d.sz + i)) = some u := by
    intro n
    induction n with
    | zero => intro _; exact ⟨[], rfl, (fun x hx => by cases hx), (fun j p hp => by simp at hp)⟩
    | succ n ih =>
      intro hn
      obtain ⟨l, h1, h2, h3⟩ := ih (by omega)
      obtain ⟨v, hwf, c, hc1, hc2, hc3⟩ := key n (by omega)
      refine ⟨l ++ [v], by simp [h1], ?_, ?_⟩
      · intro x hx
        rcases List.mem_append.1 hx with hx | hx
        · exact h2 x hx
        · rw [List.mem_singleton.1 hx]; exact hwf
      · intro j p hp
        rcases Nat.lt_or_ge j l.length with hj | hj
        · rw [List.getElem?_append_left hj] at hp; exact h3 j p hp
        · have hj' : j = n := by
            have := (List.getElem?_eq_some_iff.1 hp).1
            simp at this; omega
          subst hj'
          rw [List.getElem?_append_right hj, h1, Nat.sub_self] at hp
          simp at hp; subst hp
          exact ⟨c, hc1, hc2, hc3⟩
  obtain ⟨l, h1, h2, h3⟩ := mk len (Nat.le_refl _)
  refine ⟨l, ⟨some a, cap, by rw [h1], by rw [h1]; exact hl, rfl, by rw [h1]; exact hmax, fun _ => ⟨a, rfl, h3⟩⟩, h2, ?_⟩
  rw [h1]
  exact Nat.le_trans (Nat.mul_le_mul_right _ (by omega)) hw.1
set_option maxRecDepth 100000 in
theorem opensV : ∀ (N fuel : Nat), fuel ≤ N → ∀ (H : Type) (enc : TypeId × Value → H) (w : World) (base : Nat) (spare : Nat → Bool) (held : Bool) (cs : List Value) (x : DataW H × List MemPlace), DataW.trod enc Tryd.prog w base spare held fuel 29 cs = some x → (x.1.weights Tryd.prog 29).all (· ≤ reachBytes) = true →
    ∃ v : S29, k29.K w v cs ∧ rng v ∧ bl v := by
  intro N
  induction N with
  | zero =>
    intro fuel hf H enc w base spare held cs x h hw
    obtain ⟨xs, n, hfu, -⟩ := DataW.trod_struct Tryd.underlying29 h
    omega
  | succ N ih =>
    intro fuel hf H enc w base spare held cs x h hw
    obtain ⟨xs, n, rfl, rfl, hcl, hxl, hx⟩ := DataW.trod_struct Tryd.underlying29 h
    rw [show Tryd.prog.cellsOf 29 = 4 from by kernel_rfl] at hcl
    obtain ⟨c0, c1, c2, c3, rfl⟩ : ∃ a b c d, cs = [a, b, c, d] := by
      match cs, hcl with
      | [a, b, c, d], _ => exact ⟨a, b, c, d, rfl⟩
    obtain ⟨x0, x1, x2, x3, rfl⟩ : ∃ a b c d, xs = [a, b, c, d] := by
      match xs, hxl with
      | [a, b, c, d], _ => exact ⟨a, b, c, d, rfl⟩
    have k26 : Tryd.prog.cellsOf 26 = 1 := by kernel_rfl
    have k22 : Tryd.prog.cellsOf 22 = 1 := by kernel_rfl
    have k27 : Tryd.prog.cellsOf 27 = 1 := by kernel_rfl
    have k4 : Tryd.prog.cellsOf 4 = 1 := by kernel_rfl
    have h0 : DataW.trod enc Tryd.prog w base spare held n 26 (([c0, c1, c2, c3].drop 0).take (Tryd.prog.cellsOf 26)) = some x0 := hx 0 _ rfl
    rw [k26] at h0
    replace h0 : DataW.trod enc Tryd.prog w base spare held n 26 [c0] = some x0 := h0
    have h1 : DataW.trod enc Tryd.prog w base spare held n 22 (([c0, c1, c2, c3].drop 1).take (Tryd.prog.cellsOf 22)) = some x1 := hx 1 _ rfl
    rw [k22] at h1
    replace h1 : DataW.trod enc Tryd.prog w base spare held n 22 [c1] = some x1 := h1
    have h2 : DataW.trod enc Tryd.prog w base spare held n 27 (([c0, c1, c2, c3].drop 2).take (Tryd.prog.cellsOf 27)) = some x2 := hx 2 _ rfl
    rw [k27] at h2
    replace h2 : DataW.trod enc Tryd.prog w base spare held n 27 [c2] = some x2 := h2
    have h3 : DataW.trod enc Tryd.prog w base spare held n 4 (([c0, c1, c2, c3].drop 3).take (Tryd.prog.cellsOf 4)) = some x3 := hx 3 _ rfl
    rw [k4] at h3
    replace h3 : DataW.trod enc Tryd.prog w base spare held n 4 [c3] = some x3 := h3
    simp only [DataW.weights, Tryd.underlying29, DataW.weightsEach, List.map_cons, List.map_nil, List.all_append, Bool.and_eq_true] at hw
    obtain ⟨k, e0, -, hk⟩ := DataW.trod_int Tryd.underlying26 h0
    obtain ⟨f, e3, -⟩ := DataW.trod_bool Tryd.underlying4 h3
    obtain ⟨B, ⟨A1, z1, e1, l1, g1⟩, hB, hBl⟩ := slice_in (d := Kd.int .u8) (wf := fun n => (Lit.int .u8 n).wf = true) Tryd.underlying22 (by kernel_rfl) h1 hw.2.1 (fun n c y _ hy _ => by
      obtain ⟨q, rfl, _, hq⟩ := DataW.trod_int Tryd.underlying5 hy
      exact ⟨q, rfl, hq⟩)
    obtain ⟨ks, ⟨A2, z2, e2, l2, g2⟩, hK, hKl⟩ := slice_in (d := k29) (wf := fun v => rng v ∧ bl v) Tryd.underlying27 (by kernel_rfl) h2 hw.2.2.1 (fun n' c y hn hy hyw => ih n' (by omega) H enc w base spare held c y hy hyw)
    obtain rfl : c0 = .int .u64 k := by simpa using e0
    obtain rfl : c1 = .slice A1 B.length z1 := by simpa using e1
    obtain rfl : c2 = .slice A2 ks.length z2 := by simpa using e2
    obtain rfl : c3 = .bool f := by simpa using e3
    rw [show Tryd.prog.bytesOf 5 = 1 from by kernel_rfl] at hBl
    rw [show Tryd.prog.bytesOf 29 = 64 from by kernel_rfl] at hKl
    have hreach : reachBytes = 140737488351232 := by decide
    refine ⟨⟨k, B, ks, f⟩, k29_mk w ⟨k, B, ks, f⟩ l1 g1 l2 g2, rng_mk2 (by have := U.wf_u64 hk; omega) (fun x hx => by have := U.wf_u8 (hB x hx); omega) (fun x hx => (hK x hx).1), ?_⟩
    simp only [bl]
    exact ⟨by omega, by omega, (bls_iff ks).2 (fun x hx => (hK x hx).2)⟩
end Go.Proofs.YthilhndejhnlnaaDoor.Hand
end

section
/- ViewFits: any value, of any struct: the walk. -/
namespace Go.Proofs.YthilhndejhnlnaaDoor.Hand
open Go.RowKit Go.Proofs.YthilhndejhnlnaaDoor.QAll Go.Proofs.YthilhndejhnlnaaDoorW.PrintWords Go.Proofs.YthilhndejhnlnaaDoorW.PrintLast Go.Proofs.YthilhndejhnlnaaDoorW.PrintMore Go.Proofs.YthilhndejhnlnaaDoor.Mk
set_option linter.unusedVariables false
set_option linter.unusedSimpArgs false
theorem sch_all9 {en : List S58} {tr : Bool} {st : List S50} (h : SchOk en st.length tr st) : ∀ r ∈ st, ∀ f ∈ r.f1, TyG en st.length f.f1.f0 f.f1.f1 f.f1.f2 := by
  intro r hr f hf
  obtain ⟨i, hi, e⟩ := List.mem_iff_getElem.1 hr
  exact sch_ty h i r (by rw [List.getElem?_eq_getElem hi, e]) f hf
theorem pv_new (w : World) (ps vs : Array Value) : ∃ w1 gp gq, (w.alloc (.cells ps 25)).alloc (.cells vs 29) = w1 ∧ w.heap.size = gp ∧ gp + 1 = gq ∧ w1.heap[gp]? = some (.cells ps 25 (0, 0)) ∧ w1.heap[gq]? = some (.cells vs 29 (0, 0)) ∧ Below w.heap.size w w1 := by
  have a1 := heap_alloc_new w (.cells ps 25)
  have b1 := below_alloc (Below.refl (w.alloc (.cells ps 25)).heap.size (w.alloc (.cells ps 25))) (.cells vs 29)
  have a2 := heap_alloc_new (w.alloc (.cells ps 25)) (.cells vs 29)
  have e1 : (w.alloc (.cells ps 25)).heap.size = w.heap.size + 1 := by simp
  rw [e1] at a2
  exact ⟨_, _, _, rfl, rfl, rfl, (b1.block _ (by omega)).trans a1, a2, below_alloc (below_alloc (Below.refl _ _) _) _⟩
set_option maxHeartbeats 6400000 in
set_option maxRecDepth 100000 in
theorem viewFits_at (E : List Int) (S : List (List S61)) (Rt : Int) (tr : Bool) (hEb : ∀ x ∈ E, 0 ≤ x ∧ x < 256) (hSb : ∀ l ∈ S, ∀ x ∈ l, BOk x) (hRt : 0 ≤ Rt ∧ Rt < 256) (A0 : Option Addr) (z0 : Nat) (A1 : Option Addr) (z1 : Nat) (rc : Int) (v : S29) (A7 : Option Addr) (c7 : Nat) (A8 : Option Addr) (c8 : Nat) (hr : rng v) (hbl : bl v) (w : World)
    (hE : Kd.C (Kd.int .u8) w A0 E.length E) (hEz : E.length ≤ z0) (hS : Kd.C (Kd.slice 61 k61) w A1 S.length S) (hSz : S.length ≤ z1) (hV1 : Kd.C (Kd.int .u8) w A7 v.f1.length v.f1) (hV2 : v.f1.length ≤ c7) (hV3 : Kd.C k29 w A8 v.f2.length v.f2) (hV4 : v.f2.length ≤ c8) (hT : Tabs w) :
    Calls Tryd.prog 3 #[.agg #[.slice A0 E.length z0, .slice A1 S.length z1, .int .u8 Rt, .bool tr], .int .i64 rc, .agg #[.int .u64 v.f0, .slice A7 v.f1.length c7, .slice A8 v.f2.length c8, .bool v.f3]] w fun e w' => e = .returned (.bool true) ∧ Below w.heap.size w w' := by
  obtain ⟨w1, gp, gq, hw1, hgp, hgq, a1, a2, hbb⟩ := pv_new w #[.slice A0 E.length z0, .slice A1 S.length z1, .int .u8 Rt, .bool tr] #[.int .u64 v.f0, .slice A7 v.f1.length c7, .slice A8 v.f2.length c8, .bool v.f3]
  have HMADE : Aside0 (∀ (W : World), Below w.heap.size w W → Calls Tryd.prog 6 #[.agg #[.slice A0 E.length z0, .slice A1 S.length z1, .int .u8 Rt, .bool tr]] W (MPost S.length tr W)) := ⟨fun W h => made_any E S Rt tr hEb hSb hRt A0 z0 A1 z1 W (Kd.C_below hE h) hEz (Kd.C_below hS h) hSz⟩
  have HTB := Aside0.mk hT
  obtain ⟨kh, rh, hh, rh0, -, rh2⟩ := heavy_ev 30 v hbl (by decide)
  have HHV : Aside0 (∀ W, Below w.heap.size w W → Calls Tryd.prog 7 #[.agg #[.int .u64 v.f0, .slice A7 v.f1.length c7, .slice A8 v.f2.length c8, .bool v.f3], .int .i64 30] W fun e w' => e = .returned (.int .i64 rh) ∧ Below W.heap.size W w') := ⟨fun W hW => transomlaw07_heavy.calls kh v.f0 A7 c7 v.f1 A8 c8 v.f2 v.f3 30 rh W (Kd.C_below hV1 hW) hV2 (Kd.C_below hV3 hW) hV4 hh⟩
  have HWT : Aside0 (rh ≤ 2000 → wt v ≤ 2000) := ⟨fun h => by have := rh2 h; omega⟩
  have HRG := Aside0.mk hr
  have HV : Aside0 (IsV w v (.agg #[.int .u64 v.f0, .slice A7 v.f1.length c7, .slice A8 v.f2.length c8, .bool v.f3])) := ⟨A7, c7, A8, c8, rfl, hV1, hV2, hV3, hV4⟩
  have HAW : Aside0 (∀ W, Calls Tryd.prog 5 #[] W fun e w' => e = .returned (.bool true) ∧ Below W.heap.size W w') := ⟨awake07⟩
  have HW1 := Aside0.mk hbb
  have HP1 := Aside0.mk a1
  have HQ1 := Aside0.mk a2
  have HEQ := Aside0.mk (And.intro hw1 (And.intro hgp hgq))
  clear hE hS hEb hSb hRt hEz hSz hw1 hgp hgq a1 a2 hbb hV1 hV2 hV3 hV4 hT hr hbl hh rh2
  go_enter Tryd.func3, Tryd.ntmps3
  go_upto_region 1 with (fail)
  rw [HEQ.out.1, HEQ.out.2.1, HEQ.out.2.2]
  go_upto_region 3 with (go_at_call 5; (with_reducible refine (HAW.out _).mono ?_); rintro e w2 ⟨rfl, hb⟩; have HW2 := Aside0.mk (below_then HW1.out HW1.out.size hb); have HP2 := Aside0.mk ((hb.block _ (blk_lt HP1.out)).trans HP1.out); have HQ2 := Aside0.mk ((hb.block _ (blk_lt HQ1.out)).trans HQ1.out); clear hb)
  have p0 : w2.cell? ⟨gp, 0, none⟩ = some (.slice A0 E.length z0) := (blk_cell HP2.out 0).trans rfl
  have p1 : w2.cell? ⟨gp, 1, none⟩ = some (.slice A1 S.length z1) := (blk_cell HP2.out 1).trans rfl
  have p2 : w2.cell? ⟨gp, 2, none⟩ = some (.int .u8 Rt) := (blk_cell HP2.out 2).trans rfl
  have p3 : w2.cell? ⟨gp, 3, none⟩ = some (.bool tr) := (blk_cell HP2.out 3).trans rfl
  go_upto_region 4 with (go_at_call 6; (with_reducible refine (HMADE.out w2 HW2.out).mono ?_); rintro e w3 hp; obtain ⟨st, en, root, ok, v0, v1, rfl, hr1, hr2, hb, hmr, -⟩ := hp; obtain ⟨A5, c5, rfl, -, -⟩ := hr1.slice; obtain ⟨A6, c6, rfl, -, -⟩ := hr2.slice; have HW3 := Aside0.mk (below_then HW2.out HW2.out.size hb); have HQ3 := Aside0.mk ((hb.block _ (blk_lt HQ2.out)).trans HQ2.out); have HS3 := Aside0.mk (rb_isS (root := root) hr1 hr2); have HMR := Aside0.mk hmr; clear hr1 hr2 hb hmr p0 p1 p2 p3)
  have hb4 := below_alloc (Below.refl w3.heap.size w3) (.cells #[.slice A5 st.length c5, .slice A6 en.length c6, .int .i64 root] 34)
  have HW4 := Aside0.mk (below_then HW3.out HW3.out.size hb4)
  have HS4 := Aside0.mk (HS3.out.below hb4)
  have HQ4 := Aside0.mk ((hb4.block _ (blk_lt HQ3.out)).trans HQ3.out)
  have HU4 := Aside0.mk (heap_alloc_new w3 (.cells #[.slice A5 st.length c5, .slice A6 en.length c6, .int .i64 root] 34))
  obtain ⟨gs, hgs⟩ : ∃ gs, w3.heap.size = gs := ⟨_, rfl⟩
  obtain ⟨w4, hw4⟩ : ∃ w4, w3.alloc (.cells #[.slice A5 st.length c5, .slice A6 en.length c6, .int .i64 root] 34) = w4 := ⟨_, rfl⟩
  rw [hw4] at HW4 HS4 HU4 HQ4
  rw [hgs] at HU4
  rw [hw4, hgs]
  clear hgs hw4 hb4 HS3
  have q0 : w4.cell? ⟨gq, 0, none⟩ = some (.int .u64 v.f0) := (blk_cell HQ4.out 0).trans rfl
  have q1 : w4.cell? ⟨gq, 1, none⟩ = some (.slice A7 v.f1.length c7) := (blk_cell HQ4.out 1).trans rfl
  have q2 : w4.cell? ⟨gq, 2, none⟩ = some (.slice A8 v.f2.length c8) := (blk_cell HQ4.out 2).trans rfl
  have q3 : w4.cell? ⟨gq, 3, none⟩ = some (.bool v.f3) := (blk_cell HQ4.out 3).trans rfl
  cases ok with
  | false =>
    go_wp2_with (fail)
    exact bodyPost_ret (v := .bool true) (by simp [results, Tryd.results3, go_sem]) rfl ⟨rfl, HW4.out⟩
  | true =>
    by_cases hlen : 2000 < rh
    · have hl : decide (2000 < rh) = true := decide_eq_true hlen
      go_wp2_with (go_at_call 7; (with_reducible refine (HHV.out w4 HW4.out).mono ?_); rintro e w5 ⟨rfl, hb⟩; have HW5 := Aside0.mk (below_then HW4.out HW4.out.size hb); clear hb q0 q1 q2 q3)
      exact bodyPost_ret (v := .bool true) (by simp [results, Tryd.results3, go_sem]) rfl ⟨rfl, HW5.out⟩
    · have hl : decide (2000 < rh) = false := decide_eq_false (by omega)
      have HWV : Aside0 (wt v ≤ 2000) := ⟨HWT.out (by omega)⟩
      obtain ⟨hEn, hSch, hn, n1, n2, r0, r1⟩ := HMR.out rfl
      simp only at hEn hSch hn n1 n2 r0 r1
      rw [← hn] at hSch
      have HSC : Aside0 (SchOk en st.length tr st ∧ st.length ≤ 16) := ⟨hSch, by omega⟩
      clear hEn hSch hn n1 n2 r0 r1 hlen HMR
      go_upto_region 6 with (go_at_call 7; (with_reducible refine (HHV.out w4 HW4.out).mono ?_); rintro e w5 ⟨rfl, hb⟩; have HW5 := Aside0.mk (below_then HW4.out HW4.out.size hb); have HS5 := Aside0.mk (HS4.out.below hb); have HU5 := Aside0.mk ((hb.block _ (blk_lt HU4.out)).trans HU4.out); have HQ5 := Aside0.mk ((hb.block _ (blk_lt HQ4.out)).trans HQ4.out); clear hb q0 q1 q2 q3)
      obtain ⟨r, hr⟩ : ∃ r, fitsTop st en root rc v = r := ⟨_, rfl⟩
      have HFIT : Aside0 (∀ (W : World), Below w5.heap.size w5 W → Calls Tryd.prog 8 #[.agg #[.slice A5 st.length c5, .slice A6 en.length c6, .int .i64 root], .int .i64 rc, .agg #[.int .u64 v.f0, .slice A7 v.f1.length c7, .slice A8 v.f2.length c8, .bool v.f3]] W fun e w' => e = .returned (.bool r) ∧ Below W.heap.size W w') := ⟨fun W hW => by
        have := fitstop_any (sch_good HSC.out.1) rc v _ _ W (HS5.out.below hW) (HV.out.below (below_then HW5.out HW5.out.size hW))
        rw [hr] at this
        exact this⟩
      have HWHO : Aside0 (∀ (W : World), Below w5.heap.size w5 W → Calls Tryd.prog 9 #[.agg #[.slice A5 st.length c5, .slice A6 en.length c6, .int .i64 root], .int .i64 rc, .agg #[.int .u64 v.f0, .slice A7 v.f1.length c7, .slice A8 v.f2.length c8, .bool v.f3]] W fun e w' => e = .returned (.bool r) ∧ Below W.heap.size W w') := ⟨fun W hW => by
        have := whole_any (sch_all9 HSC.out.1) rc v _ _ W HRG.out (by have := HWV.out; omega) (HS5.out.below hW) (HV.out.below (below_then HW5.out HW5.out.size hW)) (HTB.out.below (below_then HW5.out HW5.out.size hW))
        rw [hr] at this
        exact this⟩
      have HCELL : Aside0 (∀ W, Below w5.heap.size w5 W → W.cell? ⟨gs, 0, none⟩ = some (.slice A5 st.length c5) ∧ W.cell? ⟨gs, 1, none⟩ = some (.slice A6 en.length c6) ∧ W.cell? ⟨gs, 2, none⟩ = some (.int .i64 root) ∧ W.cell? ⟨gq, 0, none⟩ = some (.int .u64 v.f0) ∧ W.cell? ⟨gq, 1, none⟩ = some (.slice A7 v.f1.length c7) ∧ W.cell? ⟨gq, 2, none⟩ = some (.slice A8 v.f2.length c8) ∧ W.cell? ⟨gq, 3, none⟩ = some (.bool v.f3)) := ⟨fun W hW =>
        ⟨pw_cell_below hW ((blk_cell HU5.out 0).trans rfl), pw_cell_below hW ((blk_cell HU5.out 1).trans rfl), pw_cell_below hW ((blk_cell HU5.out 2).trans rfl), pw_cell_below hW ((blk_cell HQ5.out 0).trans rfl), pw_cell_below hW ((blk_cell HQ5.out 1).trans rfl), pw_cell_below hW ((blk_cell HQ5.out 2).trans rfl), pw_cell_below hW ((blk_cell HQ5.out 3).trans rfl)⟩⟩
      have heq : (r == r) = true := by cases r <;> rfl
      obtain ⟨s0, s1, s2, v0, v1, v2, v3⟩ := HCELL.out w5 (Below.refl _ _)
      have ways : ((decide (0 ≤ rc) = true ∧ decide (1048576 < rc) = true) ∧ r = false) ∨ (decide (0 ≤ rc) = false) ∨ (decide (0 ≤ rc) = true ∧ decide (1048576 < rc) = false) := by
        by_cases a : 0 ≤ rc
        · by_cases c : 1048576 < rc
          · left
            refine ⟨⟨decide_eq_true a, decide_eq_true c⟩, ?_⟩
            rw [← hr]
            unfold fitsTop
            rw [if_neg (fun h => by have := HSC.out.2; omega)]
          · right; right; exact ⟨decide_eq_true a, decide_eq_false c⟩
        · right; left; exact decide_eq_false a
      clear hr
      rcases ways with ⟨⟨f1, f2⟩, rfl⟩ | f1 | ⟨f1, f2⟩
      · go_wp2_with (go_at_call 8; (with_reducible refine (HFIT.out w5 (Below.refl _ _)).mono ?_); rintro e wa ⟨rfl, hb⟩; have HBA := Aside0.mk hb; clear hb)
        exact bodyPost_ret (v := .bool true) (by simp [results, Tryd.results3, go_sem]) rfl ⟨rfl, below_then HW5.out HW5.out.size HBA.out⟩
      all_goals
        go_upto_region 8 with (fail)
        go_region_held3 (fun W => W.cell? ⟨gs, 0, none⟩ = some (.slice A5 st.length c5) ∧ W.cell? ⟨gs, 1, none⟩ = some (.slice A6 en.length c6) ∧ W.cell? ⟨gs, 2, none⟩ = some (.int .i64 root) ∧ W.cell? ⟨gq, 0, none⟩ = some (.int .u64 v.f0) ∧ W.cell? ⟨gq, 1, none⟩ = some (.slice A7 v.f1.length c7) ∧ W.cell? ⟨gq, 2, none⟩ = some (.slice A8 v.f2.length c8) ∧ W.cell? ⟨gq, 3, none⟩ = some (.bool v.f3))
          (first | with_reducible exact ka | with_reducible exact kb | go_keep)
          (first
            | (go_at_call 8; (with_reducible refine (HFIT.out w5.drew (below_drew (Below.refl _ _))).mono ?_); rintro e wa ⟨rfl, hb⟩; have HBA := Aside0.mk (below_then (below_drew (Below.refl w5.heap.size w5)) (Nat.le_refl _) hb); have ka := HCELL.out wa HBA.out; clear hb)
            | (go_at_call 9; (with_reducible refine (HWHO.out wa HBA.out).mono ?_); rintro e wb ⟨rfl, hb⟩; have HBB := Aside0.mk (below_then HBA.out HBA.out.size hb); have kb := HCELL.out wb HBB.out; clear hb))
        go_wp2_with (fail)
        exact bodyPost_ret (v := .bool true) (by simp [results, Tryd.results3, go_sem]) rfl ⟨rfl, below_then HW5.out HW5.out.size HBB.out⟩
theorem viewFits_walk (cs : Array Value) (p : Plan) (rc : Int) (cv : Array Value) (v : S29) (w : World) (K0 : KPlan.K w p (Value.agg cs).cells.toList) (wf0 : wfPlan p) (w1 : (Lit.int .i64 rc).wf = true) (K2 : k29.K w v (Value.agg cv).cells.toList) (wf2 : rng v ∧ bl v) (hT : Tabs w) :
    Calls Tryd.prog 3 #[.agg cs, .int .i64 rc, .agg cv] w fun e w' => e = .returned (.bool true) ∧ Below w.heap.size w w' := by
  obtain ⟨A0, z0, A1, z1, rfl, k0, l0, k1, l1⟩ := plan_in K0
  obtain ⟨A7, c7, A8, c8, e, l7, g7, l8, g8⟩ := k29_open K2
  obtain rfl : cv = #[.int .u64 v.f0, .slice A7 v.f1.length c7, .slice A8 v.f2.length c8, .bool v.f3] := by simpa [Value.cells, ← Array.toList_inj] using e
  exact viewFits_at p.1 p.2.1 p.2.2.1 p.2.2.2 (fun x hx => by have := U.wf_u8 (wf0.1.2 x hx); omega) (fun l hl x hx => bok_of ((wf0.2.1.2 l hl).2 x hx)) (by have := U.wf_u8 wf0.2.2.1; omega) A0 z0 A1 z1 rc v A7 c7 A8 c8 wf2.1 wf2.2 w k0 l0 k1 l1 g7 l7 g8 l8 hT
end Go.Proofs.YthilhndejhnlnaaDoor.Hand
end
