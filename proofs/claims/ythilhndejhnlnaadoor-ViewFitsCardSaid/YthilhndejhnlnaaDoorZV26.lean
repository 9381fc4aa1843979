/- Texts joined: W2. -/
import Derived.Test.YthilhndejhnlnaaDoorZV23
import Derived.Test.YthilhndejhnlnaaDoorZV25
section
/- The document's Value: is it one of a type: the walk. -/
namespace Go.Proofs.YthilhndejhnlnaaDoor.Hand
open Go.RowKit Go.Proofs.YthilhndejhnlnaaDoor.QAll Go.Proofs.YthilhndejhnlnaaDoorW.PrintWords Go.Proofs.YthilhndejhnlnaaDoorW.PrintLast Go.Proofs.YthilhndejhnlnaaDoorW.PrintMore Go.Proofs.YthilhndejhnlnaaDoor.Runes Go.Proofs.YthilhndejhnlnaaDoor.Mk
set_option linter.unusedVariables false
set_option linter.unusedSimpArgs false
/-- The three boxes of a call. -/
structure Thr (w : World) (gs gt gv : Nat) (us ts vs : Array Value) : Prop where
  s : w.heap[gs]? = some (.cells us 34 (0, 0))
  t : w.heap[gt]? = some (.cells ts 45 (0, 0))
  v : w.heap[gv]? = some (.cells vs 29 (0, 0))
section thr
variable {w W : World} {gs gt gv : Nat} {us ts vs : Array Value}
theorem Thr.below (h : Thr w gs gt gv us ts vs) (hb : Below w.heap.size w W) : Thr W gs gt gv us ts vs :=
  ⟨(hb.block _ (blk_lt h.s)).trans h.s, (hb.block _ (blk_lt h.t)).trans h.t, (hb.block _ (blk_lt h.v)).trans h.v⟩
theorem Thr.cs (h : Thr w gs gt gv us ts vs) (i : Nat) {u : Value} (hu : us[i]? = some u) : w.cell? ⟨gs, i, none⟩ = some u := (blk_cell h.s i).trans hu
theorem Thr.ct (h : Thr w gs gt gv us ts vs) (i : Nat) {u : Value} (hu : ts[i]? = some u) : w.cell? ⟨gt, i, none⟩ = some u := (blk_cell h.t i).trans hu
theorem Thr.cv (h : Thr w gs gt gv us ts vs) (i : Nat) {u : Value} (hu : vs[i]? = some u) : w.cell? ⟨gv, i, none⟩ = some u := (blk_cell h.v i).trans hu
end thr
theorem thr_new (w : World) (us ts vs : Array Value) : ∃ w1 gs gt gv, ((w.alloc (.cells us 34)).alloc (.cells ts 45)).alloc (.cells vs 29) = w1 ∧ w.heap.size = gs ∧ gs + 1 = gt ∧ gt + 1 = gv ∧ Thr w1 gs gt gv us ts vs ∧ Below w.heap.size w w1 := by
  have a1 := heap_alloc_new w (.cells us 34)
  have b1 := below_alloc (Below.refl (w.alloc (.cells us 34)).heap.size (w.alloc (.cells us 34))) (.cells ts 45)
  have a2 := heap_alloc_new (w.alloc (.cells us 34)) (.cells ts 45)
  have b2 := below_alloc (Below.refl ((w.alloc (.cells us 34)).alloc (.cells ts 45)).heap.size ((w.alloc (.cells us 34)).alloc (.cells ts 45))) (.cells vs 29)
  have a3 := heap_alloc_new ((w.alloc (.cells us 34)).alloc (.cells ts 45)) (.cells vs 29)
  have e1 : (w.alloc (.cells us 34)).heap.size = w.heap.size + 1 := by simp
  have e2 : ((w.alloc (.cells us 34)).alloc (.cells ts 45)).heap.size = w.heap.size + 1 + 1 := by simp
  rw [e1] at a2
  rw [e2] at a3
  exact ⟨_, _, _, _, rfl, rfl, rfl, rfl, ⟨(b2.block _ (by omega)).trans ((b1.block _ (by omega)).trans a1), (b2.block _ (by omega)).trans a2, a3⟩, below_alloc (below_alloc (below_alloc (Below.refl _ _) _) _) _⟩
theorem text_is (l : List Int) : textB l = (U l.length l).isNone := by
  unfold textB
  cases U l.length l with
  | none => rfl
  | some p => show decide ((p : Int) < 0) = false; exact decide_eq_false (by omega)
theorem rng_is (v : S29) (h : rng v) : (0 ≤ v.f0 ∧ v.f0 < 18446744073709551616) ∧ (∀ x ∈ v.f1, 0 ≤ x ∧ x < 256) ∧ ∀ x ∈ v.f2, rng x := by
  obtain ⟨n, b, ks, f⟩ := v
  simp only [rng] at h
  exact ⟨h.1, h.2.1, (rngs_iff ks).1 h.2.2⟩
set_option maxHeartbeats 6400000 in
set_option maxRecDepth 100000 in
theorem refval_leaf {st : List S50} {en : List S58} {root : Int} (d kd rf : Int) (v : S29) (us u : Value) (w : World) (hk : 1 ≤ kd ∧ kd ≤ 12) (hr : rng v) (hw : v.f1.length ≤ 100000) (hs : IsS w st en root us) (hv : IsV w v u) (hT : Tabs w) :
    Calls Tryd.prog 18 #[us, tyV kd rf 0, u, .int .i64 d] w fun e w' => e = .returned (.bool (leafB st en root kd rf 0 v)) ∧ Below w.heap.size w w' := by
  obtain ⟨A0, c0, A1, c1, rfl, hS1, hS2, hS3, hS4⟩ := hs
  obtain ⟨A2, c2, A3, c3, rfl, hV1, hV2, hV3, hV4⟩ := hv
  obtain ⟨w1, gs, gt, gv, hw1, hgs, hgt, hgv, H, HB⟩ := thr_new w #[.slice A0 st.length c0, .slice A1 en.length c1, .int .i64 root] #[.int .u8 kd, .int .i64 rf, .int .i64 0] #[.int .u64 v.f0, .slice A2 v.f1.length c2, .slice A3 v.f2.length c3, .bool v.f3]
  have HEQ := Aside0.mk (And.intro hw1 (And.intro hgs (And.intro hgt hgv)))
  have HB1 := Aside0.mk HB
  have HCELL : Aside0 (∀ W, Below w1.heap.size w1 W → W.cell? ⟨gs, 0, none⟩ = some (.slice A0 st.length c0) ∧ W.cell? ⟨gs, 1, none⟩ = some (.slice A1 en.length c1) ∧ W.cell? ⟨gs, 2, none⟩ = some (.int .i64 root) ∧ W.cell? ⟨gt, 0, none⟩ = some (.int .u8 kd) ∧ W.cell? ⟨gt, 1, none⟩ = some (.int .i64 rf) ∧ W.cell? ⟨gt, 2, none⟩ = some (.int .i64 0) ∧ W.cell? ⟨gv, 0, none⟩ = some (.int .u64 v.f0) ∧ W.cell? ⟨gv, 1, none⟩ = some (.slice A2 v.f1.length c2) ∧ W.cell? ⟨gv, 2, none⟩ = some (.slice A3 v.f2.length c3) ∧ W.cell? ⟨gv, 3, none⟩ = some (.bool v.f3)) := ⟨fun W hW => by
    have h := H.below hW
    exact ⟨h.cs 0 rfl, h.cs 1 rfl, h.cs 2 rfl, h.ct 0 rfl, h.ct 1 rfl, h.ct 2 rfl, h.cv 0 rfl, h.cv 1 rfl, h.cv 2 rfl, h.cv 3 rfl⟩⟩
  obtain ⟨⟨n0, n1⟩, hby, -⟩ := rng_is v hr
  obtain ⟨nu, hnu⟩ : ∃ nu, decide ((0 : Int) = 0 ∧ 0 < szB kd) = nu := ⟨_, rfl⟩
  obtain ⟨m, hm⟩ : ∃ m, numB st en root kd rf 0 v.f0 = m := ⟨_, rfl⟩
  obtain ⟨x, hx⟩ : ∃ x, textB v.f1 = x := ⟨_, rfl⟩
  have HIN : Aside0 (∀ W, Calls Tryd.prog 15 #[.agg #[.int .u8 kd, .int .i64 rf, .int .i64 0]] W fun e w' => e = .returned (.bool nu) ∧ Below W.heap.size W w') := ⟨fun W => transomref05_IsNum.calls 6 kd rf 0 nu W (by rw [isnum_f kd rf 0 (by omega) (by omega), hnu])⟩
  have HFI : Aside0 (nu = true → ∀ W, Below w.heap.size w W → Calls Tryd.prog 28 #[.agg #[.slice A0 st.length c0, .slice A1 en.length c1, .int .i64 root], .agg #[.int .u8 kd, .int .i64 rf, .int .i64 0], .int .u64 v.f0] W fun e w' => e = .returned (.bool m) ∧ Below W.heap.size W w') := ⟨fun hn W hW => transomref05_Fits.calls 6 A0 c0 st A1 c1 en root kd rf 0 v.f0 m W (Kd.C_below hS1 hW) hS2 (Kd.C_below hS3 hW) hS4 (by
    have hk10 : kd ≤ 10 := by
      rw [← hnu, decide_eq_true_iff] at hn
      have := hn.2
      by_cases c : kd ≤ 10
      · exact c
      · rcases (show kd = 11 ∨ kd = 12 by omega) with rfl | rfl
        · exact absurd this (by decide)
        · exact absurd this (by decide)
    rw [reffits_f st en root kd rf v.f0 hk.1 hk10 n0 n1, hm])⟩
  have HTX : Aside0 (∀ W, Below w.heap.size w W → Calls Tryd.prog 29 #[.slice A2 v.f1.length c2] W fun e w' => e = .returned (.bool x) ∧ Below W.heap.size W w') := ⟨fun W hW => reftext_any A2 c2 v.f1 W (hT.below hW) (Kd.C_below hV1 hW) hV2 hby hw x (by rw [← hx]; exact text_is _)⟩
  obtain ⟨r, hr'⟩ : ∃ r, leafB st en root kd rf 0 v = r := ⟨_, rfl⟩
  rw [hr']
  have k13 : (kd == 13) = false := beq_eq_false_iff_ne.2 (by omega)
  have ways : ((v.f3 = true) ∧ r = false) ∨ (v.f3 = false ∧ (decide ((0 : Int) < (v.f2.length : Int)) = true ∧ decide (0 < v.f2.length) = true) ∧ r = false) ∨
      (v.f3 = false ∧ (decide ((0 : Int) < (v.f2.length : Int)) = false ∧ decide (0 < v.f2.length) = false) ∧ nu = true ∧ ((v.f1.length : Int) == 0) = false ∧ (v.f1.length == 0) = false ∧ r = false) ∨
      (v.f3 = false ∧ (decide ((0 : Int) < (v.f2.length : Int)) = false ∧ decide (0 < v.f2.length) = false) ∧ nu = true ∧ ((v.f1.length : Int) == 0) = true ∧ (v.f1.length == 0) = true ∧ r = m) ∨
      (v.f3 = false ∧ (decide ((0 : Int) < (v.f2.length : Int)) = false ∧ decide (0 < v.f2.length) = false) ∧ nu = false ∧ (v.f0 == 0) = false ∧ r = false) ∨
      (v.f3 = false ∧ (decide ((0 : Int) < (v.f2.length : Int)) = false ∧ decide (0 < v.f2.length) = false) ∧ nu = false ∧ (v.f0 == 0) = true ∧ (kd == 12) = true ∧ r = true) ∨
      (v.f3 = false ∧ (decide ((0 : Int) < (v.f2.length : Int)) = false ∧ decide (0 < v.f2.length) = false) ∧ nu = false ∧ (v.f0 == 0) = true ∧ (kd == 12) = false ∧ r = x) := by
    unfold leafB at hr'
    rw [hm, hx] at hr'
    cases h3 : v.f3 with
    | true => left; rw [if_pos (.inr h3)] at hr'; exact ⟨rfl, hr'.symm⟩
    | false =>
      right
      rcases Nat.eq_zero_or_pos v.f2.length with f | f
      · right
        rw [if_neg (fun h => h.elim (fun h => by omega) (fun h => by rw [h3] at h; cases h))] at hr'
        have f1 : (decide ((0 : Int) < (v.f2.length : Int)) = false ∧ decide (0 < v.f2.length) = false) := ⟨decide_eq_false (by omega), decide_eq_false (by omega)⟩
        by_cases hs : 0 < szB kd
        · rw [if_pos hs] at hr'
          have hn : nu = true := by rw [← hnu]; exact decide_eq_true ⟨rfl, hs⟩
          by_cases g : v.f1.length = 0
          · right; left
            have g1 : (v.f1.length == 0) = true := by rw [g]; rfl
            rw [g1] at hr'
            exact ⟨rfl, f1, hn, by rw [g]; rfl, g1, by simpa using hr'.symm⟩
          · left
            have g1 : (v.f1.length == 0) = false := by rw [beq_eq_false_iff_ne]; exact g
            rw [g1] at hr'
            exact ⟨rfl, f1, hn, by rw [beq_eq_false_iff_ne]; omega, g1, by simpa using hr'.symm⟩
        · rw [if_neg hs] at hr'
          have hn : nu = false := by rw [← hnu]; exact decide_eq_false (fun h => hs h.2)
          right; right
          cases g : (v.f0 == 0) with
          | false => left; rw [g] at hr'; exact ⟨rfl, f1, hn, rfl, by simpa using hr'.symm⟩
          | true =>
            right
            rw [g] at hr'
            cases k : (kd == 12) with
            | true => left; rw [k] at hr'; exact ⟨rfl, f1, hn, rfl, rfl, by simpa using hr'.symm⟩
            | false => right; rw [k] at hr'; exact ⟨rfl, f1, hn, rfl, rfl, by simpa using hr'.symm⟩
      · left
        rw [if_pos (.inl f)] at hr'
        exact ⟨rfl, ⟨decide_eq_true (by omega), decide_eq_true f⟩, hr'.symm⟩
  have l0 : decide ((0 : Int) < 0) = false := by decide
  obtain ⟨h3, hh3⟩ : ∃ h3, v.f3 = h3 := ⟨_, rfl⟩
  rw [hh3] at ways HCELL HEQ ⊢
  clear hT hS1 hS2 hS3 hS4 hV1 hV2 hV3 hV4 H HB hw1 hgs hgt hgv hr hw hby n0 n1 hnu hm hx hr' hh3 hk
  rcases ways with ⟨rfl, rfl⟩ | ⟨rfl, ⟨a1, a2⟩, rfl⟩ | ⟨rfl, ⟨a1, a2⟩, rfl, a3, a4, rfl⟩ | ⟨rfl, ⟨a1, a2⟩, rfl, a3, a4, rfl⟩ | ⟨rfl, ⟨a1, a2⟩, rfl, a3, rfl⟩ | ⟨rfl, ⟨a1, a2⟩, rfl, a3, a4, rfl⟩ | ⟨rfl, ⟨a1, a2⟩, rfl, a3, a4, rfl⟩
  all_goals
    go_enter Tryd.func18, Tryd.ntmps18
    go_upto_region 1 with (fail)
    rw [HEQ.out.1, HEQ.out.2.1, HEQ.out.2.2.1, HEQ.out.2.2.2]
    obtain ⟨s0, s1, s2, t0, t1, t2, v0, v1, v2, v3⟩ := HCELL.out w1 (Below.refl _ _)
    go_wp2_with (first
      | (go_at_call 15; (with_reducible refine (HIN.out w1).mono ?_); rintro e wa ⟨rfl, hb⟩; have HBA := Aside0.mk hb; obtain ⟨s0', s1', s2', t0', t1', t2', v0', v1', v2', v3'⟩ := HCELL.out wa hb; clear hb s0 s1 s2 t0 t1 t2 v0 v1 v2 v3)
      | (go_at_call 28; (with_reducible refine (HFI.out (by first | rfl | trivial) wa (below_then HB1.out HB1.out.size HBA.out)).mono ?_); rintro e wb ⟨rfl, hb⟩; replace HBA := Aside0.mk (below_then HBA.out HBA.out.size hb); clear hb)
      | (go_at_call 29; (with_reducible refine (HTX.out wa (below_then HB1.out HB1.out.size HBA.out)).mono ?_); rintro e wb ⟨rfl, hb⟩; replace HBA := Aside0.mk (below_then HBA.out HBA.out.size hb); clear hb))
    go_ret
    exact ⟨by first | rfl | simp [*], by first | exact HB1.out | exact below_then HB1.out HB1.out.size HBA.out⟩
end Go.Proofs.YthilhndejhnlnaaDoor.Hand
end
