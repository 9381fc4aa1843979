/- Texts joined: W4. -/
import Derived.Test.YthilhndejhnlnaaDoorZV26
import Derived.Test.YthilhndejhnlnaaDoorZV27
section
/- The document's Value: of structs: the walk. -/
namespace Go.Proofs.YthilhndejhnlnaaDoor.Hand
open Go.RowKit Go.Proofs.YthilhndejhnlnaaDoor.QAll Go.Proofs.YthilhndejhnlnaaDoorW.PrintWords Go.Proofs.YthilhndejhnlnaaDoorW.PrintLast Go.Proofs.YthilhndejhnlnaaDoorW.PrintMore Go.Proofs.YthilhndejhnlnaaDoor.Runes Go.Proofs.YthilhndejhnlnaaDoor.Mk
set_option linter.unusedVariables false
set_option linter.unusedSimpArgs false
theorem all_take4 {α : Type} {xs : List α} {P : α → Bool} {i : Nat} (hi : i < xs.length) : (xs.take (i + 1)).all P = ((xs.take i).all P && P xs[i]) := by
  rw [List.take_succ_eq_append_getElem hi, List.all_append]; simp
theorem all_at4 {α : Type} {xs : List α} {P : α → Bool} {i : Nat} (hi : i < xs.length) (h : P xs[i] = false) : xs.all P = false := by
  rw [List.all_eq_false]; exact ⟨xs[i], List.getElem_mem hi, by rw [h]; decide⟩
theorem rd50_get {st : List S50} {q : Nat} (h : q < st.length) : rd_T50 st (q : Int) = st[q] := by
  unfold rd_T50; rw [show ((q : Int)).toNat = q from rfl, List.getD_eq_getElem?_getD, List.getElem?_eq_getElem h]; rfl
theorem rd47_get {fs : List S47} {i : Nat} (h : i < fs.length) : rd_T47 fs (i : Int) = fs[i] := by unfold rd_T47; rw [show ((i : Int)).toNat = i from rfl, List.getD_eq_getElem?_getD, List.getElem?_eq_getElem h]; rfl
set_option maxHeartbeats 6400000 in
set_option maxRecDepth 100000 in
theorem refval_gone {st : List S50} {en : List S58} {root : Int} (d rf : Int) (v : S29) (us u : Value) (w : World) (hs : IsS w st en root us) (hv : IsV w v u)
    (hno : v.f0 ≠ 0 ∨ 0 < v.f1.length ∨ v.f3 = false) :
    Calls Tryd.prog 18 #[us, tyV 13 rf 0, u, .int .i64 d] w fun e w' => e = .returned (.bool (goneB v)) ∧ Below w.heap.size w w' := by
  obtain ⟨A0, c0, A1, c1, rfl, -⟩ := hs
  obtain ⟨A2, c2, A3, c3, rfl, -⟩ := hv
  obtain ⟨w1, gs, gt, gv, hw1, hgs, hgt, hgv, H, HB⟩ := thr_new w #[.slice A0 st.length c0, .slice A1 en.length c1, .int .i64 root] #[.int .u8 13, .int .i64 rf, .int .i64 0] #[.int .u64 v.f0, .slice A2 v.f1.length c2, .slice A3 v.f2.length c3, .bool v.f3]
  have HEQ := Aside0.mk (And.intro hw1 (And.intro hgs (And.intro hgt hgv)))
  have HB1 := Aside0.mk HB
  have H4 := Aside0.mk H
  have l0 : decide ((0 : Int) < 0) = false := by decide
  obtain ⟨r, hr⟩ : ∃ r, goneB v = r := ⟨_, rfl⟩
  rw [hr]
  obtain ⟨h3, hh3⟩ : ∃ h3, v.f3 = h3 := ⟨_, rfl⟩
  rw [hh3] at hno H4 HEQ ⊢
  have ways : ((v.f0 != 0) = true ∧ r = false) ∨ ((v.f0 != 0) = false ∧ (decide ((0 : Int) < (v.f1.length : Int)) = true ∧ decide (0 < v.f1.length) = true) ∧ r = false) ∨
      ((v.f0 != 0) = false ∧ (decide ((0 : Int) < (v.f1.length : Int)) = false ∧ decide (0 < v.f1.length) = false) ∧ h3 = false ∧ (((v.f2.length : Int) == 0) = r ∧ (v.f2.length == 0) = r)) := by
    unfold goneB at hr
    by_cases a : v.f0 = 0
    · right
      have a1 : (v.f0 != 0) = false := by simp [a]
      have a2 : (v.f0 == 0) = true := by simp [a]
      rw [a2] at hr
      rcases Nat.eq_zero_or_pos v.f1.length with f | f
      · right
        have f1 : (v.f1.length == 0) = true := by rw [f]; rfl
        rw [f1] at hr
        have g : (v.f2.length == 0) = r := by simpa using hr
        refine ⟨a1, ⟨decide_eq_false (by omega), decide_eq_false (by omega)⟩, ?_, ?_, g⟩
        · rcases hno with x | x | x
          · exact absurd a x
          · omega
          · exact x
        · rw [← g, Bool.eq_iff_iff]; simp only [beq_iff_eq]; omega
      · left
        have f1 : (v.f1.length == 0) = false := by rw [beq_eq_false_iff_ne]; omega
        rw [f1] at hr
        exact ⟨a1, ⟨decide_eq_true (by omega), decide_eq_true f⟩, by simpa using hr.symm⟩
    · left
      have a2 : (v.f0 == 0) = false := by simp [a]
      rw [a2] at hr
      exact ⟨by simp [a], by simpa using hr.symm⟩
  clear hno hh3 H HB hw1 hgs hgt hgv hr
  rcases ways with ⟨a1, rfl⟩ | ⟨a1, ⟨a2, a3⟩, rfl⟩ | ⟨a1, ⟨a2, a3⟩, rfl, a4, a5⟩
  all_goals
    go_enter Tryd.func18, Tryd.ntmps18
    go_upto_region 1 with (fail)
    rw [HEQ.out.1, HEQ.out.2.1, HEQ.out.2.2.1, HEQ.out.2.2.2]
    have t0 := H4.out.ct 0 rfl
    have t2 := H4.out.ct 2 rfl
    have v0 := H4.out.cv 0 rfl
    have v1 := H4.out.cv 1 rfl
    have v2 := H4.out.cv 2 rfl
    have v3 := H4.out.cv 3 rfl
    go_wp2_with (fail)
    go_ret
    exact ⟨by first | rfl | simp [*], HB1.out⟩
set_option maxHeartbeats 6400000 in
set_option maxRecDepth 100000 in
theorem refval_short {st : List S50} {en : List S58} {root : Int} (d : Int) (q : Nat) (hq : q < st.length) (v : S29) (us u : Value) (w : World) (hs : IsS w st en root us) (hv : IsV w v u)
    (hyes : v.f0 = 0 ∧ v.f1.length = 0 ∧ v.f3 = true) (hno : d < 1 ∨ v.f2.length ≠ (rd_T50 st (q : Int)).f1.length) :
    Calls Tryd.prog 18 #[us, tyV 13 q 0, u, .int .i64 d] w fun e w' => e = .returned (.bool false) ∧ Below w.heap.size w w' := by
  obtain ⟨A0, c0, A1, c1, rfl, hS1, -⟩ := hs
  obtain ⟨A2, c2, A3, c3, rfl, -⟩ := hv
  have q0 : (0 : Int) ≤ (q : Int) := Int.natCast_nonneg _
  have q1 : (q : Int) < (st.length : Int) := by omega
  obtain ⟨ad, A4, c4, rfl, x0, x1, hF1, hF2⟩ := at_T50 hS1 (q : Int) q0 q1
  rw [show ((q : Int)).toNat = q from rfl] at x0 x1
  obtain ⟨R, hR⟩ : ∃ R, rd_T50 st (q : Int) = R := ⟨_, rfl⟩
  rw [hR] at x0 x1 hno
  obtain ⟨w1, gs, gt, gv, hw1, hgs, hgt, hgv, H, HB⟩ := thr_new w #[.slice (some ad) st.length c0, .slice A1 en.length c1, .int .i64 root] #[.int .u8 13, .int .i64 q, .int .i64 0] #[.int .u64 v.f0, .slice A2 v.f1.length c2, .slice A3 v.f2.length c3, .bool v.f3]
  have HEQ := Aside0.mk (And.intro hw1 (And.intro hgs (And.intro hgt hgv)))
  have HB1 := Aside0.mk HB
  have H4 := Aside0.mk H
  replace x0 := pw_cell_below HB x0
  replace x1 := pw_cell_below HB x1
  have l0 : decide ((0 : Int) < 0) = false := by decide
  obtain ⟨y0, y1, y3⟩ := hyes
  have a1 : (v.f0 != 0) = false := by simp [y0]
  have a2 : decide ((0 : Int) < (v.f1.length : Int)) = false := decide_eq_false (by omega)
  have a3 : decide (0 < v.f1.length) = false := decide_eq_false (by omega)
  have q3 : decide (q < st.length) = true := decide_eq_true hq
  have q4 : decide ((q : Int) < (st.length : Int)) = true := decide_eq_true q1
  rw [y3] at H4 HEQ ⊢
  obtain ⟨gr, hgr⟩ : ∃ gr, w1.heap.size = gr := ⟨_, rfl⟩
  obtain ⟨w2, hw2⟩ : ∃ w2, w1.alloc (.cells #[.string R.f0, .slice A4 R.f1.length c4] 50) = w2 := ⟨_, rfl⟩
  have b2 : Below w1.heap.size w1 w2 := by rw [← hw2]; exact below_alloc (Below.refl _ _) _
  have a5 : w2.heap[gr]? = some (.cells #[.string R.f0, .slice A4 R.f1.length c4] 50 (0, 0)) := by rw [← hw2, ← hgr]; exact heap_alloc_new w1 _
  have HB2 := Aside0.mk (below_then HB HB.size b2)
  have HR2 := Aside0.mk a5
  have H5 := Aside0.mk (H4.out.below b2)
  have HEQ2 := Aside0.mk (And.intro hgr hw2)
  have ways : (decide (d < 1) = true) ∨ (decide (d < 1) = false ∧ (v.f2.length != R.f1.length) = true ∧ ((v.f2.length : Int) != (R.f1.length : Int)) = true) := by
    by_cases e : d < 1
    · exact .inl (decide_eq_true e)
    · right
      have : v.f2.length ≠ R.f1.length := hno.resolve_left e
      exact ⟨decide_eq_false e, by simp [this], by simp; omega⟩
  clear hno hR hF1 hF2 hS1 H HB hw1 hgs hgt hgv y0 y1 y3 hgr hw2 b2 a5 hq
  rcases ways with k1 | ⟨k1, k2, k3⟩
  all_goals
    go_enter Tryd.func18, Tryd.ntmps18
    go_upto_region 1 with (fail)
    rw [HEQ.out.1, HEQ.out.2.1, HEQ.out.2.2.1, HEQ.out.2.2.2]
    have s0 := H4.out.cs 0 rfl
    have t0 := H4.out.ct 0 rfl
    have t1 := H4.out.ct 1 rfl
    have t2 := H4.out.ct 2 rfl
    have v0 := H4.out.cv 0 rfl
    have v1 := H4.out.cv 1 rfl
    have v3 := H4.out.cv 3 rfl
    go_upto_region 18 with (fail)
    rw [HEQ2.out.1, HEQ2.out.2]
    clear s0 t0 t1 t2 v0 v1 v3 x0 x1
    have v2 := H5.out.cv 2 rfl
    have r1 : w2.cell? ⟨gr, 1, none⟩ = some (.slice A4 R.f1.length c4) := (blk_cell HR2.out 1).trans rfl
    go_wp2_with (fail)
    go_ret
    exact ⟨rfl, HB2.out⟩
set_option maxHeartbeats 6400000 in
set_option maxRecDepth 100000 in
theorem refval_struct {st : List S50} {en : List S58} {root : Int} (d : Int) (q : Nat) (hq : q < st.length) (v : S29) (us u : Value) (w : World) (hlen : v.f2.length ≤ 100000) (hd9 : 1 ≤ d ∧ d ≤ 1000) (hs : IsS w st en root us) (hv : IsV w v u)
    (hyes : v.f0 = 0 ∧ v.f1.length = 0 ∧ v.f3 = true) (heq : v.f2.length = (rd_T50 st (q : Int)).f1.length) (Q : S47 → S29 → Bool)
    (hin : ∀ (k : Nat) (h1 : k < (rd_T50 st (q : Int)).f1.length) (h2 : k < v.f2.length), ∀ W uk, Below w.heap.size w W → IsV W v.f2[k] uk → Calls Tryd.prog 18 #[us, tyV ((rd_T50 st (q : Int)).f1[k]).f1.f0 ((rd_T50 st (q : Int)).f1[k]).f1.f1 ((rd_T50 st (q : Int)).f1[k]).f1.f2, uk, .int .i64 (d - 1)] W fun e W' => e = .returned (.bool (Q (rd_T50 st (q : Int)).f1[k] v.f2[k])) ∧ Below W.heap.size W W') :
    Calls Tryd.prog 18 #[us, tyV 13 q 0, u, .int .i64 d] w fun e w' => e = .returned (.bool (((rd_T50 st (q : Int)).f1.zip v.f2).all fun p => Q p.1 p.2)) ∧ Below w.heap.size w w' := by
  obtain ⟨A0, c0, A1, c1, rfl, hS1, -⟩ := hs
  obtain ⟨A2, c2, A3, c3, rfl, hV1, hV2, hV3, hV4⟩ := hv
  have q0 : (0 : Int) ≤ (q : Int) := Int.natCast_nonneg _
  have q1 : (q : Int) < (st.length : Int) := by omega
  obtain ⟨ad, A4, c4, rfl, x0, x1, hF1, hF2⟩ := at_T50 hS1 (q : Int) q0 q1
  rw [show ((q : Int)).toNat = q from rfl] at x0 x1
  obtain ⟨R, hR⟩ : ∃ R, rd_T50 st (q : Int) = R := ⟨_, rfl⟩
  rw [hR] at x0 x1 hF1 hF2 heq ⊢
  have hin' : ∀ (k : Nat) (h1 : k < R.f1.length) (h2 : k < v.f2.length), ∀ W uk, Below w.heap.size w W → IsV W v.f2[k] uk → Calls Tryd.prog 18 #[.agg #[.slice (some ad) st.length c0, .slice A1 en.length c1, .int .i64 root], tyV (R.f1[k]).f1.f0 (R.f1[k]).f1.f1 (R.f1[k]).f1.f2, uk, .int .i64 (d - 1)] W fun e W' => e = .returned (.bool (Q R.f1[k] v.f2[k])) ∧ Below W.heap.size W W' := by
    subst hR; exact hin
  obtain ⟨w1, gs, gt, gv, hw1, hgs, hgt, hgv, H, HB⟩ := thr_new w #[.slice (some ad) st.length c0, .slice A1 en.length c1, .int .i64 root] #[.int .u8 13, .int .i64 q, .int .i64 0] #[.int .u64 v.f0, .slice A2 v.f1.length c2, .slice A3 v.f2.length c3, .bool v.f3]
  have HEQ := Aside0.mk (And.intro hw1 (And.intro hgs (And.intro hgt hgv)))
  have H4 := Aside0.mk H
  replace x0 := pw_cell_below HB x0
  replace x1 := pw_cell_below HB x1
  have l0 : decide ((0 : Int) < 0) = false := by decide
  obtain ⟨y0, y1, y3⟩ := hyes
  have a1 : (v.f0 != 0) = false := by simp [y0]
  have a2 : decide ((0 : Int) < (v.f1.length : Int)) = false := decide_eq_false (by omega)
  have a3 : decide (0 < v.f1.length) = false := decide_eq_false (by omega)
  have q3 : decide (q < st.length) = true := decide_eq_true hq
  have q4 : decide ((q : Int) < (st.length : Int)) = true := decide_eq_true q1
  have k1 : decide (d < 1) = false := decide_eq_false (by omega)
  have wd : IntKind.i64.wrap (d - 1) = d - 1 := by rw [IntKind.wrap_i64]; omega
  rw [y3] at H4 HEQ ⊢
  obtain ⟨n, hn⟩ : ∃ n, R.f1.length = n := ⟨_, rfl⟩
  have HN : Aside0 (R.f1.length = n ∧ v.f2.length = n ∧ n ≤ 100000) := ⟨hn, heq.trans hn, by omega⟩
  rw [heq, hn] at H4 HEQ ⊢
  rw [hn] at x1 hF1 hF2
  obtain ⟨gr, hgr⟩ : ∃ gr, w1.heap.size = gr := ⟨_, rfl⟩
  obtain ⟨w2, hw2⟩ : ∃ w2, w1.alloc (.cells #[.string R.f0, .slice A4 n c4] 50) = w2 := ⟨_, rfl⟩
  have b2 : Below w1.heap.size w1 w2 := by rw [← hw2]; exact below_alloc (Below.refl _ _) _
  have a5 : w2.heap[gr]? = some (.cells #[.string R.f0, .slice A4 n c4] 50 (0, 0)) := by rw [← hw2, ← hgr]; exact heap_alloc_new w1 _
  have HB2 := Aside0.mk (below_then HB HB.size b2)
  have HR2 := Aside0.mk a5
  have H5 := Aside0.mk (H4.out.below b2)
  have HEQ2 := Aside0.mk (And.intro hgr hw2)
  have HF2 := Aside0.mk hF2
  have V3 := Aside0.mk hV3
  have HIN := Aside0.mk hin'
  have HCELL : Aside0 (∀ W, Below w2.heap.size w2 W → W.cell? ⟨gs, 0, none⟩ = some (.slice (some ad) st.length c0) ∧ W.cell? ⟨gs, 1, none⟩ = some (.slice A1 en.length c1) ∧ W.cell? ⟨gs, 2, none⟩ = some (.int .i64 root) ∧ W.cell? ⟨gv, 2, none⟩ = some (.slice A3 n c3) ∧ W.cell? ⟨gr, 1, none⟩ = some (.slice A4 n c4)) := ⟨fun W hW => by
    have h := H5.out.below hW
    have e := (hW.block _ (blk_lt HR2.out)).trans HR2.out
    exact ⟨h.cs 0 rfl, h.cs 1 rfl, h.cs 2 rfl, h.cv 2 rfl, (blk_cell e 1).trans rfl⟩⟩
  obtain ⟨P, hP⟩ : ∃ P : S47 × S29 → Bool, (fun p => Q p.1 p.2) = P := ⟨_, rfl⟩
  have HP : Aside0 (∀ a b, P (a, b) = Q a b) := ⟨fun a b => by rw [← hP]⟩
  rw [hP]
  obtain ⟨Z, hZ⟩ : ∃ Z, R.f1.zip v.f2 = Z := ⟨_, rfl⟩
  have HZ : Aside0 (R.f1.zip v.f2 = Z) := ⟨hZ⟩
  have HZL : Aside0 (Z.length = n) := ⟨by rw [← hZ, List.length_zip, hn, heq, hn]; omega⟩
  rw [hZ]
  have k3 : (n != n) = false := by simp
  have k4 : ((n : Int) != (n : Int)) = false := by simp
  clear hR hn heq hin hin' hF1 hF2 hS1 hV1 hV2 hV3 hV4 H HB hw1 hgs hgt hgv y0 y1 y3 hgr hw2 b2 a5 hq hP hZ hlen
  go_enter Tryd.func18, Tryd.ntmps18
  go_upto_region 1 with (fail)
  rw [HEQ.out.1, HEQ.out.2.1, HEQ.out.2.2.1, HEQ.out.2.2.2]
  have s0 := H4.out.cs 0 rfl
  have t0 := H4.out.ct 0 rfl
  have t1 := H4.out.ct 1 rfl
  have t2 := H4.out.ct 2 rfl
  have v0 := H4.out.cv 0 rfl
  have v1 := H4.out.cv 1 rfl
  have v3 := H4.out.cv 3 rfl
  go_upto_region 18 with (fail)
  rw [HEQ2.out.1, HEQ2.out.2]
  clear s0 t0 t1 t2 v0 v1 v3 x0 x1
  obtain ⟨s0, s1, s2, v2, r1⟩ := HCELL.out w2 (Below.refl _ _)
  go_wp2_with (fail)
  clear s0 s1 s2 v2 r1
  go_loopg [12] (n + 1) (fun kq v12 wr => ∃ (k : Nat), v12 = .int .i64 k ∧ Aside0 (k ≤ n) ∧ Aside0 (n < kq + k) ∧ Aside0 (Below w2.heap.size w2 wr) ∧ Aside0 ((Z.take k).all P = true))
  case atStart => exact ⟨0, rfl, ⟨Nat.zero_le _⟩, ⟨by omega⟩, ⟨Below.refl _ _⟩, ⟨by simp⟩⟩
  case round =>
    obtain ⟨k, rfl, HK, HKQ, HWR, HALL⟩ := hrel
    obtain ⟨m, rfl⟩ : ∃ m, gk = m + 1 := ⟨gk - 1, by have := HKQ.out; have := HK.out; omega⟩
    by_cases t : k < n
    · have d1 : decide (k < n) = true := decide_eq_true t
      have d2 : decide ((k : Int) < (n : Int)) = true := decide_eq_true (by omega)
      have k0 : (0 : Int) ≤ (k : Int) := Int.natCast_nonneg _
      have k2 : (k : Int) < (n : Int) := by omega
      have kb9 : k ≤ 100000 := by have := HN.out.2.2; omega
      have hk1 : k < R.f1.length := by have := HN.out.1; omega
      have hk2 : k < v.f2.length := by have := HN.out.2.1; omega
      have hkz : k < Z.length := by have := HZL.out; omega
      obtain ⟨af, rfl, m0, m1, m2, m3, m4⟩ := at_T47 HF2.out (k : Int) k0 k2
      rw [show ((k : Int)).toNat = k from rfl] at m0 m1 m2 m3 m4
      rw [rd47_get hk1] at m0 m1 m2 m3 m4
      have hV3' := V3.out
      obtain ⟨av, A10, c10, A11, c11, rfl, n0, n1, n2, n3, hvk⟩ := kid_at hV3' k hk2
      have HX := Aside0.mk (fun (W : World) (hW : Below w.heap.size w W) => HIN.out k hk1 hk2 W _ hW (hvk.below hW))
      have HTK := Aside0.mk (all_take4 (P := P) hkz)
      have HAT := Aside0.mk (all_at4 (P := P) hkz)
      have hzk : Z[k] = (R.f1[k], v.f2[k]) := by
        have := HZ.out; subst this; exact List.getElem_zip
      have HPX : Aside0 (P Z[k] = Q R.f1[k] v.f2[k]) := ⟨by rw [hzk]; exact HP.out _ _⟩
      obtain ⟨F, hF⟩ : ∃ F, R.f1[k] = F := ⟨_, rfl⟩
      obtain ⟨x, hx⟩ : ∃ x, v.f2[k] = x := ⟨_, rfl⟩
      obtain ⟨b, hb⟩ : ∃ b, Q F x = b := ⟨_, rfl⟩
      rw [hF] at m0 m1 m2 m3 m4
      rw [hx] at n0 n1 n2 n3
      rw [hF, hx] at HX HPX
      rw [hb] at HX HPX
      have HNN := Aside0.mk (And.intro n0 (And.intro n1 (And.intro n2 n3)))
      have HMM := Aside0.mk (And.intro m1 (And.intro m2 m3))
      have HW9 : Aside0 (Below w.heap.size w wr) := ⟨below_then HB2.out HB2.out.size HWR.out⟩
      have HCEL : Aside0 (∀ W, Below wr.heap.size wr W → W.cell? ⟨gs, 0, none⟩ = some (.slice (some ad) st.length c0) ∧ W.cell? ⟨gs, 1, none⟩ = some (.slice A1 en.length c1) ∧ W.cell? ⟨gs, 2, none⟩ = some (.int .i64 root) ∧ W.cell? ⟨gv, 2, none⟩ = some (.slice (some av) n c3) ∧ W.cell? ⟨gr, 1, none⟩ = some (.slice (some af) n c4) ∧ W.cell? ⟨(af.add (k * 5)).block, (af.add (k * 5)).off + 1, none⟩ = some (.int .u8 F.f1.f0) ∧ W.cell? ⟨(af.add (k * 5)).block, (af.add (k * 5)).off + 2, none⟩ = some (.int .i64 F.f1.f1) ∧ W.cell? ⟨(af.add (k * 5)).block, (af.add (k * 5)).off + 3, none⟩ = some (.int .i64 F.f1.f2) ∧ W.cell? (av.add (k * 4)) = some (.int .u64 x.f0) ∧ W.cell? ⟨(av.add (k * 4)).block, (av.add (k * 4)).off + 1, none⟩ = some (.slice A10 x.f1.length c10) ∧ W.cell? ⟨(av.add (k * 4)).block, (av.add (k * 4)).off + 2, none⟩ = some (.slice A11 x.f2.length c11) ∧ W.cell? ⟨(av.add (k * 4)).block, (av.add (k * 4)).off + 3, none⟩ = some (.bool x.f3)) := ⟨fun W hW => by
        have h1 := below_then HWR.out HWR.out.size hW
        have h2 := below_then HW9.out HW9.out.size hW
        obtain ⟨s0, s1, s2, v2, r1⟩ := HCELL.out W h1
        exact ⟨s0, s1, s2, v2, r1, pw_cell_below h2 HMM.out.1, pw_cell_below h2 HMM.out.2.1, pw_cell_below h2 HMM.out.2.2, pw_cell_below h2 HNN.out.1, pw_cell_below h2 HNN.out.2.1, pw_cell_below h2 HNN.out.2.2.1, pw_cell_below h2 HNN.out.2.2.2⟩⟩
      have HXW : Aside0 (∀ W, Below wr.heap.size wr W → Calls Tryd.prog 18 #[.agg #[.slice (some ad) st.length c0, .slice A1 en.length c1, .int .i64 root], tyV F.f1.f0 F.f1.f1 F.f1.f2, .agg #[.int .u64 x.f0, .slice A10 x.f1.length c10, .slice A11 x.f2.length c11, .bool x.f3], .int .i64 (d - 1)] W fun e W' => e = .returned (.bool b) ∧ Below W.heap.size W W') := ⟨fun W hW => HX.out W (below_then HW9.out HW9.out.size hW)⟩
      obtain ⟨s0, s1, s2, v2, r1, m1, m2, m3, n0, n1, n2, n3⟩ := HCEL.out wr (Below.refl _ _)
      clear hvk hF hx hb hzk hV3' hk1 hk2 HX HNN HMM m0 m4
      cases b
      all_goals
        go_upto_region 23 with (fail)
        go_region_held3 (fun W => W.cell? ⟨gs, 0, none⟩ = some (.slice (some ad) st.length c0) ∧ W.cell? ⟨gs, 1, none⟩ = some (.slice A1 en.length c1) ∧ W.cell? ⟨gs, 2, none⟩ = some (.int .i64 root) ∧ W.cell? ⟨gv, 2, none⟩ = some (.slice (some av) n c3) ∧ W.cell? ⟨gr, 1, none⟩ = some (.slice (some af) n c4) ∧ W.cell? ⟨(af.add (k * 5)).block, (af.add (k * 5)).off + 1, none⟩ = some (.int .u8 F.f1.f0) ∧ W.cell? ⟨(af.add (k * 5)).block, (af.add (k * 5)).off + 2, none⟩ = some (.int .i64 F.f1.f1) ∧ W.cell? ⟨(af.add (k * 5)).block, (af.add (k * 5)).off + 3, none⟩ = some (.int .i64 F.f1.f2) ∧ W.cell? (av.add (k * 4)) = some (.int .u64 x.f0) ∧ W.cell? ⟨(av.add (k * 4)).block, (av.add (k * 4)).off + 1, none⟩ = some (.slice A10 x.f1.length c10) ∧ W.cell? ⟨(av.add (k * 4)).block, (av.add (k * 4)).off + 2, none⟩ = some (.slice A11 x.f2.length c11) ∧ W.cell? ⟨(av.add (k * 4)).block, (av.add (k * 4)).off + 3, none⟩ = some (.bool x.f3))
          (first | with_reducible exact ka | go_keep)
          (first
            | (go_at_call 18; (with_reducible refine (HXW.out wr.drew (below_drew (Below.refl _ _))).mono ?_); rintro e wa ⟨rfl, hb⟩; have HBA := Aside0.mk (below_then (below_drew (Below.refl wr.heap.size wr)) (Nat.le_refl _) hb); have ka := HCEL.out wa HBA.out; clear hb))
        go_wp2_with (fail)
      · go_ret
        exact ⟨by rw [HAT.out (by rw [HPX.out])]; rfl, below_then HW9.out HW9.out.size HBA.out⟩
      · go_roundg m
        case measure => omega
        case rel => exact ⟨k + 1, by go_num, ⟨by omega⟩, ⟨by have := HKQ.out; omega⟩, ⟨below_then HWR.out HWR.out.size HBA.out⟩, ⟨by rw [HTK.out, HALL.out, HPX.out]; rfl⟩⟩
    · have d1 : decide (k < n) = false := decide_eq_false t
      have d2 : decide ((k : Int) < (n : Int)) = false := decide_eq_false (by omega)
      obtain ⟨s0, s1, s2, v2, r1⟩ := HCELL.out wr HWR.out
      go_wp2_with (fail)
      go_ret
      exact ⟨by have h := HALL.out; have h1 := HZL.out; rw [List.take_of_length_le (by omega)] at h; rw [h]; rfl, below_then HB2.out HB2.out.size HWR.out⟩
end Go.Proofs.YthilhndejhnlnaaDoor.Hand
end
