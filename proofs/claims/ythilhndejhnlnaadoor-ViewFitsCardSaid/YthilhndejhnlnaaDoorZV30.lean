/- Texts joined: V2 V3 V4 V5. -/
import Derived.Test.YthilhndejhnlnaaDoorZV27
section
/- Layer 7, view: the walk of fits. -/
namespace Go.Proofs.YthilhndejhnlnaaDoor.Hand
open Go.RowKit Go.Proofs.YthilhndejhnlnaaDoor.QAll Go.Proofs.YthilhndejhnlnaaDoorW.PrintWords Go.Proofs.YthilhndejhnlnaaDoorW.PrintLast Go.Proofs.YthilhndejhnlnaaDoorW.PrintMore Go.Proofs.YthilhndejhnlnaaDoor.Runes
set_option linter.unusedVariables false
set_option linter.unusedSimpArgs false

/-- The four boxes of a call. -/
structure Four (w : World) (gs gt gv gd : Nat) (us ts vs : Array Value) (d : Int) : Prop where
  s : w.heap[gs]? = some (.cells us 34 (0, 0))
  t : w.heap[gt]? = some (.cells ts 45 (0, 0))
  v : w.heap[gv]? = some (.cells vs 29 (0, 0))
  d : w.heap[gd]? = some (.cells #[.int .i64 d] 3 (0, 0))
section four
variable {w W : World} {gs gt gv gd : Nat} {us ts vs : Array Value} {d : Int}
theorem Four.below (h : Four w gs gt gv gd us ts vs d) (hb : Below w.heap.size w W) : Four W gs gt gv gd us ts vs d :=
  ⟨(hb.block _ (blk_lt h.s)).trans h.s, (hb.block _ (blk_lt h.t)).trans h.t, (hb.block _ (blk_lt h.v)).trans h.v, (hb.block _ (blk_lt h.d)).trans h.d⟩
theorem Four.cs (h : Four w gs gt gv gd us ts vs d) (i : Nat) {u : Value} (hu : us[i]? = some u) : w.cell? ⟨gs, i, none⟩ = some u := (blk_cell h.s i).trans hu
theorem Four.ct (h : Four w gs gt gv gd us ts vs d) (i : Nat) {u : Value} (hu : ts[i]? = some u) : w.cell? ⟨gt, i, none⟩ = some u := (blk_cell h.t i).trans hu
theorem Four.cv (h : Four w gs gt gv gd us ts vs d) (i : Nat) {u : Value} (hu : vs[i]? = some u) : w.cell? ⟨gv, i, none⟩ = some u := (blk_cell h.v i).trans hu
theorem Four.cd (h : Four w gs gt gv gd us ts vs d) : w.cell? ⟨gd, 0, none⟩ = some (.int .i64 d) := (blk_cell h.d 0).trans rfl
end four
theorem four_new (w : World) (us ts vs : Array Value) (d : Int) {gs gt gv gd : Nat} (h : w.heap.size = gs) (h1 : gs + 1 = gt) (h2 : gt + 1 = gv) (h3 : gv + 1 = gd) :
    Four ((((w.alloc (.cells us 34)).alloc (.cells ts 45)).alloc (.cells vs 29)).alloc (.cells #[.int .i64 d] 3)) gs gt gv gd us ts vs d := by
  subst h h1 h2 h3
  have a1 := heap_alloc_new w (.cells us 34)
  have b1 := below_alloc (Below.refl (w.alloc (.cells us 34)).heap.size (w.alloc (.cells us 34))) (.cells ts 45)
  have a2 := heap_alloc_new (w.alloc (.cells us 34)) (.cells ts 45)
  have b2 := below_alloc (Below.refl ((w.alloc (.cells us 34)).alloc (.cells ts 45)).heap.size ((w.alloc (.cells us 34)).alloc (.cells ts 45))) (.cells vs 29)
  have a3 := heap_alloc_new ((w.alloc (.cells us 34)).alloc (.cells ts 45)) (.cells vs 29)
  have b3 := below_alloc (Below.refl (((w.alloc (.cells us 34)).alloc (.cells ts 45)).alloc (.cells vs 29)).heap.size (((w.alloc (.cells us 34)).alloc (.cells ts 45)).alloc (.cells vs 29))) (.cells #[.int .i64 d] 3)
  have a4 := heap_alloc_new (((w.alloc (.cells us 34)).alloc (.cells ts 45)).alloc (.cells vs 29)) (.cells #[.int .i64 d] 3)
  have e1 : (w.alloc (.cells us 34)).heap.size = w.heap.size + 1 := by simp
  have e2 : ((w.alloc (.cells us 34)).alloc (.cells ts 45)).heap.size = w.heap.size + 1 + 1 := by simp
  have e3 : (((w.alloc (.cells us 34)).alloc (.cells ts 45)).alloc (.cells vs 29)).heap.size = w.heap.size + 1 + 1 + 1 := by simp
  rw [e1] at a2
  rw [e2] at a3
  rw [e3] at a4
  exact ⟨(b3.block _ (by omega)).trans ((b2.block _ (by omega)).trans ((b1.block _ (by omega)).trans a1)), (b3.block _ (by omega)).trans ((b2.block _ (by omega)).trans a2), (b3.block _ (by omega)).trans a3, a4⟩
theorem four_below (w : World) (us ts vs : Array Value) (d : Int) : Below w.heap.size w ((((w.alloc (.cells us 34)).alloc (.cells ts 45)).alloc (.cells vs 29)).alloc (.cells #[.int .i64 d] 3)) :=
  below_alloc (below_alloc (below_alloc (below_alloc (Below.refl _ _) _) _) _) _

set_option maxHeartbeats 3200000 in
theorem fits_leaf {st : List S50} {en : List S58} {root : Int} (d : Nat) (kd rf ls : Int) (v : S29) (us u : Value) (w : World) (hls : ¬ 0 < ls) (hkd : kd ≠ 13) (hs : IsS w st en root us) (hv : IsV w v u) :
    Calls Tryd.prog 17 #[us, tyV kd rf ls, u, .int .i64 d] w fun e w' => e = .returned (.bool (leafB st en root kd rf ls v)) ∧ Below w.heap.size w w' := by
  obtain ⟨A0, c0, A1, c1, rfl, hS1, hS2, hS3, hS4⟩ := hs
  obtain ⟨A2, c2, A3, c3, rfl, hV1, hV2, hV3, hV4⟩ := hv
  have S1 := Aside0.mk hS1
  have S2 := Aside0.mk hS2
  have S3 := Aside0.mk hS3
  have S4 := Aside0.mk hS4
  have V1 := Aside0.mk hV1
  have V2 := Aside0.mk hV2
  have HMX := Aside0.mk (Kd.C_max hV1)
  have HSZ := Aside0.mk (size_f kd)
  have HNUM := Aside0.mk (num_f st en root kd rf ls v.f0)
  have HTX := Aside0.mk (text_f v.f1 (Kd.C_max hV1))
  have l0 : decide (0 < ls) = false := decide_eq_false hls
  have k13 : (kd == 13) = false := by simpa using hkd
  obtain ⟨r, hr⟩ : ∃ r, leafB st en root kd rf ls v = r := ⟨_, rfl⟩
  rw [hr]
  have hlf : r = if 0 < v.f2.length ∨ v.f3 = true then false else if 0 < szB kd then (v.f1.length == 0 && numB st en root kd rf ls v.f0) else (v.f0 == 0 && (kd == 12 || textB v.f1)) := by rw [← hr]; rfl
  obtain ⟨s, hs⟩ : ∃ s, szB kd = s := ⟨_, rfl⟩
  obtain ⟨m, hm⟩ : ∃ m, numB st en root kd rf ls v.f0 = m := ⟨_, rfl⟩
  obtain ⟨x, hx⟩ : ∃ x, at_ (U v.f1.length v.f1) = x := ⟨_, rfl⟩
  have htb : textB v.f1 = decide (x < 0) := by rw [← hx]; rfl
  rw [hs] at HSZ hlf
  rw [hm] at HNUM hlf
  rw [hx] at HTX
  rw [htb] at hlf
  obtain ⟨h3, hh3⟩ : ∃ h3, v.f3 = h3 := ⟨_, rfl⟩
  rw [hh3] at hlf ⊢
  obtain ⟨gs, hgs⟩ : ∃ gs, w.heap.size = gs := ⟨_, rfl⟩
  obtain ⟨gt, hgt⟩ : ∃ gt, gs + 1 = gt := ⟨_, rfl⟩
  obtain ⟨gv, hgv⟩ : ∃ gv, gt + 1 = gv := ⟨_, rfl⟩
  obtain ⟨gd, hgd⟩ : ∃ gd, gv + 1 = gd := ⟨_, rfl⟩
  have H0 := four_new w #[.slice A0 st.length c0, .slice A1 en.length c1, .int .i64 root] #[.int .u8 kd, .int .i64 rf, .int .i64 ls] #[.int .u64 v.f0, .slice A2 v.f1.length c2, .slice A3 v.f2.length c3, .bool h3] d hgs hgt hgv hgd
  have HB0 := four_below w #[.slice A0 st.length c0, .slice A1 en.length c1, .int .i64 root] #[.int .u8 kd, .int .i64 rf, .int .i64 ls] #[.int .u64 v.f0, .slice A2 v.f1.length c2, .slice A3 v.f2.length c3, .bool h3] d
  obtain ⟨w1, hw1⟩ : ∃ w1, ((((w.alloc (.cells #[.slice A0 st.length c0, .slice A1 en.length c1, .int .i64 root] 34)).alloc (.cells #[.int .u8 kd, .int .i64 rf, .int .i64 ls] 45)).alloc (.cells #[.int .u64 v.f0, .slice A2 v.f1.length c2, .slice A3 v.f2.length c3, .bool h3] 29)).alloc (.cells #[.int .i64 d] 3)) = w1 := ⟨_, rfl⟩
  rw [hw1] at H0 HB0
  have H4 := Aside0.mk H0
  have HB1 := Aside0.mk HB0
  have HEQ := Aside0.mk (And.intro hw1 (And.intro hgs (And.intro hgt (And.intro hgv hgd))))
  clear H0 HB0 hw1 hgs hgt hgv hgd
  have ways : (decide (0 < v.f2.length) = true ∧ decide ((0 : Int) < (v.f2.length : Int)) = true ∧ r = false) ∨
      (decide (0 < v.f2.length) = false ∧ decide ((0 : Int) < (v.f2.length : Int)) = false ∧ h3 = true ∧ r = false) ∨
      (decide (0 < v.f2.length) = false ∧ decide ((0 : Int) < (v.f2.length : Int)) = false ∧ h3 = false ∧ decide (0 < s) = true ∧ (v.f1.length == 0) = false ∧ ((v.f1.length : Int) == 0) = false ∧ r = false) ∨
      (decide (0 < v.f2.length) = false ∧ decide ((0 : Int) < (v.f2.length : Int)) = false ∧ h3 = false ∧ decide (0 < s) = true ∧ (v.f1.length == 0) = true ∧ ((v.f1.length : Int) == 0) = true ∧ r = m) ∨
      (decide (0 < v.f2.length) = false ∧ decide ((0 : Int) < (v.f2.length : Int)) = false ∧ h3 = false ∧ decide (0 < s) = false ∧ (v.f0 == 0) = false ∧ r = false) ∨
      (decide (0 < v.f2.length) = false ∧ decide ((0 : Int) < (v.f2.length : Int)) = false ∧ h3 = false ∧ decide (0 < s) = false ∧ (v.f0 == 0) = true ∧ (kd == 12) = true ∧ r = true) ∨
      (decide (0 < v.f2.length) = false ∧ decide ((0 : Int) < (v.f2.length : Int)) = false ∧ h3 = false ∧ decide (0 < s) = false ∧ (v.f0 == 0) = true ∧ (kd == 12) = false ∧ r = decide (x < 0)) := by
    by_cases p : 0 < v.f2.length
    · left; rw [if_pos (.inl p)] at hlf; exact ⟨decide_eq_true p, decide_eq_true (by omega), hlf⟩
    have p1 := decide_eq_false p
    have p2 : decide ((0 : Int) < (v.f2.length : Int)) = false := decide_eq_false (by omega)
    right
    cases h3 with
    | true => left; rw [if_pos (.inr rfl)] at hlf; exact ⟨p1, p2, rfl, hlf⟩
    | false =>
      right
      rw [if_neg (by rintro (e | e); exact p e; cases e)] at hlf
      by_cases q : 0 < s
      · rw [if_pos q] at hlf
        by_cases b : v.f1.length = 0
        · right; left; rw [b] at hlf ⊢; exact ⟨p1, p2, rfl, decide_eq_true q, rfl, rfl, by simpa using hlf⟩
        · left
          have e : (v.f1.length == 0) = false := by simpa using b
          rw [e] at hlf; exact ⟨p1, p2, rfl, decide_eq_true q, e, by simp only [beq_eq_false_iff_ne]; omega, by simpa using hlf⟩
      · rw [if_neg q] at hlf
        right; right
        cases e : (v.f0 == 0) with
        | false => left; rw [e] at hlf; exact ⟨p1, p2, rfl, decide_eq_false q, rfl, by simpa using hlf⟩
        | true =>
          right; rw [e] at hlf
          cases k : (kd == 12) with
          | true => left; rw [k] at hlf; exact ⟨p1, p2, rfl, decide_eq_false q, rfl, rfl, by simpa using hlf⟩
          | false => right; rw [k] at hlf; exact ⟨p1, p2, rfl, decide_eq_false q, rfl, rfl, by simpa using hlf⟩
  clear hS1 hS2 hS3 hS4 hV1 hV2 hV3 hV4 hr hlf hs hm hx htb hls hkd
  rcases ways with ⟨a1, a2, rfl⟩ | ⟨a1, a2, rfl, rfl⟩ | ⟨a1, a2, rfl, a3, a4, a5, rfl⟩ | ⟨a1, a2, rfl, a3, a4, a5, rfl⟩ | ⟨a1, a2, rfl, a3, a4, rfl⟩ | ⟨a1, a2, rfl, a3, a4, a5, rfl⟩ | ⟨a1, a2, rfl, a3, a4, a5, rfl⟩
  all_goals
    go_enter Tryd.func17, Tryd.ntmps17
    go_upto_region 1 with (fail)
    rw [HEQ.out.1, HEQ.out.2.1, HEQ.out.2.2.1, HEQ.out.2.2.2.1, HEQ.out.2.2.2.2]
    have t0 := H4.out.ct 0 rfl
    have t2 := H4.out.ct 2 rfl
    have v0 := H4.out.cv 0 rfl
    have v1 := H4.out.cv 1 rfl
    have v2 := H4.out.cv 2 rfl
    have v3 := H4.out.cv 3 rfl
    go_wp2_with (first
      | (go_at_call 25; (with_reducible refine (wire_Size.calls 6 kd _ _ HSZ.out).mono ?_); rintro e w2 ⟨rfl, hd⟩; have H5 := Aside0.mk (H4.out.below hd.below); have HB2 := Aside0.mk (below_then HB1.out HB1.out.size hd.below); clear hd t0 t2 v0 v1 v2 v3
         have s0 := H5.out.cs 0 rfl; have s1 := H5.out.cs 1 rfl; have s2 := H5.out.cs 2 rfl; have t0 := H5.out.ct 0 rfl; have t1 := H5.out.ct 1 rfl; have t2 := H5.out.ct 2 rfl; have v0 := H5.out.cv 0 rfl; have v1 := H5.out.cv 1 rfl)
      | (go_at_call 26; have hx := schema_Fits.calls 10 A0 c0 st A1 c1 en root kd rf ls v.f0 _ w2 (Kd.C_below S1.out HB2.out) S2.out (Kd.C_below S3.out HB2.out) S4.out HNUM.out; (with_reducible refine hx.mono ?_); clear hx; rintro e w3 ⟨rfl, hd⟩; have HB3 := Aside0.mk (below_then HB2.out HB2.out.size hd); clear hd)
      | (go_at_call 27; have hx := wire_Utf8.calls _ A2 c2 v.f1 _ w2 (Kd.C_below V1.out HB2.out) V2.out HTX.out; (with_reducible refine hx.mono ?_); clear hx; rintro e w3 ⟨rfl, hd⟩; have HB3 := Aside0.mk (below_then HB2.out HB2.out.size hd.below); clear hd))
    go_ret
    first
      | exact ⟨rfl, HB3.out⟩
      | exact ⟨rfl, HB2.out⟩
      | exact ⟨rfl, HB1.out⟩
end Go.Proofs.YthilhndejhnlnaaDoor.Hand
end

section
/- Layer 7, view: the walk of fits, of lists and structs. -/
namespace Go.Proofs.YthilhndejhnlnaaDoor.Hand
open Go.RowKit Go.Proofs.YthilhndejhnlnaaDoor.QAll Go.Proofs.YthilhndejhnlnaaDoorW.PrintWords Go.Proofs.YthilhndejhnlnaaDoorW.PrintLast Go.Proofs.YthilhndejhnlnaaDoorW.PrintMore Go.Proofs.YthilhndejhnlnaaDoor.Runes
set_option linter.unusedVariables false
set_option linter.unusedSimpArgs false

/-- The type's lists set anew. -/
theorem Four.sett {w : World} {gs gt gv gd : Nat} {us ts vs : Array Value} {d : Int} (h : Four w gs gt gv gd us ts vs d) (hn : gs < gt ∧ gt < gv ∧ gv < gd) (i : Nat) (u : Value) :
    Four (w.setCell ⟨gt, i, none⟩ u) gs gt gv gd us (ts.setIfInBounds i u) vs d :=
  ⟨(Below.heap_setCell w ⟨gt, i, none⟩ u gs (by show gs ≠ gt; omega)).trans h.s, blk_set h.t i u, (Below.heap_setCell w ⟨gt, i, none⟩ u gv (by show gv ≠ gt; omega)).trans h.v, (Below.heap_setCell w ⟨gt, i, none⟩ u gd (by show gd ≠ gt; omega)).trans h.d⟩
theorem Four.boxes {w : World} {gs gt gv gd : Nat} {a b c : Value} {kd rf ls : Int} {vs : Array Value} {d : Int} (h : Four w gs gt gv gd #[a, b, c] #[.int .u8 kd, .int .i64 rf, .int .i64 ls] vs d) : Boxes w gs gt gd (.agg #[a, b, c]) kd rf ls d :=
  ⟨⟨a, b, c, rfl, h.s⟩, h.t, h.d⟩

set_option maxHeartbeats 6400000 in
theorem fits_list_no {st : List S50} {en : List S58} {root : Int} (d : Nat) (kd rf ls : Int) (v : S29) (us u : Value) (w : World) (hls : 0 < ls) (hs : IsS w st en root us) (hv : IsV w v u)
    (hno : (d = 0 ∧ 0 < v.f2.length) ∨ v.f0 ≠ 0 ∨ 0 < v.f1.length ∨ v.f3 = true) :
    Calls Tryd.prog 17 #[us, tyV kd rf ls, u, .int .i64 d] w fun e w' => e = .returned (.bool false) ∧ Below w.heap.size w w' := by
  obtain ⟨A0, c0, A1, c1, rfl, hS1, hS2, hS3, hS4⟩ := hs
  obtain ⟨A2, c2, A3, c3, rfl, hV1, hV2, hV3, hV4⟩ := hv
  have l0 : decide (0 < ls) = true := decide_eq_true hls
  obtain ⟨h3, hh3⟩ : ∃ h3, v.f3 = h3 := ⟨_, rfl⟩
  rw [hh3] at hno ⊢
  obtain ⟨gs, hgs⟩ : ∃ gs, w.heap.size = gs := ⟨_, rfl⟩
  obtain ⟨gt, hgt⟩ : ∃ gt, gs + 1 = gt := ⟨_, rfl⟩
  obtain ⟨gv, hgv⟩ : ∃ gv, gt + 1 = gv := ⟨_, rfl⟩
  obtain ⟨gd, hgd⟩ : ∃ gd, gv + 1 = gd := ⟨_, rfl⟩
  have H0 := four_new w #[.slice A0 st.length c0, .slice A1 en.length c1, .int .i64 root] #[.int .u8 kd, .int .i64 rf, .int .i64 ls] #[.int .u64 v.f0, .slice A2 v.f1.length c2, .slice A3 v.f2.length c3, .bool h3] d hgs hgt hgv hgd
  have HB0 := four_below w #[.slice A0 st.length c0, .slice A1 en.length c1, .int .i64 root] #[.int .u8 kd, .int .i64 rf, .int .i64 ls] #[.int .u64 v.f0, .slice A2 v.f1.length c2, .slice A3 v.f2.length c3, .bool h3] d
  obtain ⟨w1, hw1⟩ : ∃ w1, ((((w.alloc (.cells #[.slice A0 st.length c0, .slice A1 en.length c1, .int .i64 root] 34)).alloc (.cells #[.int .u8 kd, .int .i64 rf, .int .i64 ls] 45)).alloc (.cells #[.int .u64 v.f0, .slice A2 v.f1.length c2, .slice A3 v.f2.length c3, .bool h3] 29)).alloc (.cells #[.int .i64 d] 3)) = w1 := ⟨_, rfl⟩
  rw [hw1] at H0 HB0
  have H4 := Aside0.mk H0
  have HB1 := Aside0.mk HB0
  have HNE : Aside0 (w.heap.size ≤ gs ∧ gs < gt ∧ gt < gv ∧ gv < gd) := ⟨by omega⟩
  have HEQ := Aside0.mk (And.intro hw1 (And.intro hgs (And.intro hgt (And.intro hgv hgd))))
  clear H0 HB0 hw1 hgs hgt hgv hgd
  have one : ∀ {a b : Prop} [Decidable a] [Decidable b], True := trivial
  have ways : (d = 0 ∧ 0 < v.f2.length) ∨ ((0 < d) ∧ v.f0 ≠ 0) ∨ (d = 0 ∧ v.f2.length = 0 ∧ v.f0 ≠ 0) ∨ ((0 < d) ∧ v.f0 = 0 ∧ 0 < v.f1.length) ∨ (d = 0 ∧ v.f2.length = 0 ∧ v.f0 = 0 ∧ 0 < v.f1.length) ∨
      ((0 < d) ∧ v.f0 = 0 ∧ v.f1.length = 0 ∧ h3 = true) ∨ (d = 0 ∧ v.f2.length = 0 ∧ v.f0 = 0 ∧ v.f1.length = 0 ∧ h3 = true) := by
    rcases Nat.eq_zero_or_pos d with e | e
    · rcases Nat.eq_zero_or_pos v.f2.length with f | f
      · by_cases g : v.f0 = 0
        · rcases Nat.eq_zero_or_pos v.f1.length with i | i
          · rcases hno with ⟨_, x⟩ | x | x | x
            · omega
            · exact absurd g x
            · omega
            · exact .inr (.inr (.inr (.inr (.inr (.inr ⟨e, f, g, i, x⟩)))))
          · exact .inr (.inr (.inr (.inr (.inl ⟨e, f, g, i⟩))))
        · exact .inr (.inr (.inl ⟨e, f, g⟩))
      · exact .inl ⟨e, f⟩
    · by_cases g : v.f0 = 0
      · rcases Nat.eq_zero_or_pos v.f1.length with i | i
        · rcases hno with ⟨x, _⟩ | x | x | x
          · omega
          · exact absurd g x
          · omega
          · exact .inr (.inr (.inr (.inr (.inr (.inl ⟨e, g, i, x⟩)))))
        · exact .inr (.inr (.inr (.inl ⟨e, g, i⟩)))
      · exact .inr (.inl ⟨e, g⟩)
  have dz : ∀ {k : Nat}, k = 0 → decide ((k : Int) < 1) = true ∧ decide (k < 1) = true := fun h => ⟨decide_eq_true (by omega), decide_eq_true (by omega)⟩
  have dp : ∀ {k : Nat}, 0 < k → decide ((k : Int) < 1) = false ∧ decide (k < 1) = false := fun h => ⟨decide_eq_false (by omega), decide_eq_false (by omega)⟩
  have nz : ∀ {k : Nat}, k = 0 → decide ((0 : Int) < (k : Int)) = false ∧ decide (0 < k) = false := fun h => ⟨decide_eq_false (by omega), decide_eq_false (by omega)⟩
  have np : ∀ {k : Nat}, 0 < k → decide ((0 : Int) < (k : Int)) = true ∧ decide (0 < k) = true := fun h => ⟨decide_eq_true (by omega), decide_eq_true (by omega)⟩
  have xz : v.f0 = 0 → (v.f0 != 0) = false := fun h => by simp [h]
  have xp : v.f0 ≠ 0 → (v.f0 != 0) = true := fun h => by simp [h]
  have facts : (decide ((d : Int) < 1) = true ∧ decide (d < 1) = true ∧ decide ((0 : Int) < (v.f2.length : Int)) = true ∧ decide (0 < v.f2.length) = true) ∨
      ((decide ((d : Int) < 1) = false ∧ decide (d < 1) = false) ∧ (v.f0 != 0) = true) ∨
      ((decide ((d : Int) < 1) = true ∧ decide (d < 1) = true ∧ decide ((0 : Int) < (v.f2.length : Int)) = false ∧ decide (0 < v.f2.length) = false) ∧ (v.f0 != 0) = true) ∨
      ((decide ((d : Int) < 1) = false ∧ decide (d < 1) = false) ∧ (v.f0 != 0) = false ∧ decide ((0 : Int) < (v.f1.length : Int)) = true ∧ decide (0 < v.f1.length) = true) ∨
      ((decide ((d : Int) < 1) = true ∧ decide (d < 1) = true ∧ decide ((0 : Int) < (v.f2.length : Int)) = false ∧ decide (0 < v.f2.length) = false) ∧ (v.f0 != 0) = false ∧ decide ((0 : Int) < (v.f1.length : Int)) = true ∧ decide (0 < v.f1.length) = true) ∨
      ((decide ((d : Int) < 1) = false ∧ decide (d < 1) = false) ∧ (v.f0 != 0) = false ∧ (decide ((0 : Int) < (v.f1.length : Int)) = false ∧ decide (0 < v.f1.length) = false) ∧ h3 = true) ∨
      ((decide ((d : Int) < 1) = true ∧ decide (d < 1) = true ∧ decide ((0 : Int) < (v.f2.length : Int)) = false ∧ decide (0 < v.f2.length) = false) ∧ (v.f0 != 0) = false ∧ (decide ((0 : Int) < (v.f1.length : Int)) = false ∧ decide (0 < v.f1.length) = false) ∧ h3 = true) := by
    rcases ways with ⟨e, f⟩ | ⟨e, f⟩ | ⟨e, f, g⟩ | ⟨e, f, g⟩ | ⟨e, f, g, i⟩ | ⟨e, f, g, i⟩ | ⟨e, f, g, i, j⟩
    · exact .inl ⟨(dz e).1, (dz e).2, (np f).1, (np f).2⟩
    · exact .inr (.inl ⟨dp e, xp f⟩)
    · exact .inr (.inr (.inl ⟨⟨(dz e).1, (dz e).2, (nz f).1, (nz f).2⟩, xp g⟩))
    · exact .inr (.inr (.inr (.inl ⟨dp e, xz f, (np g).1, (np g).2⟩)))
    · exact .inr (.inr (.inr (.inr (.inl ⟨⟨(dz e).1, (dz e).2, (nz f).1, (nz f).2⟩, xz g, (np i).1, (np i).2⟩))))
    · exact .inr (.inr (.inr (.inr (.inr (.inl ⟨dp e, xz f, nz g, i⟩)))))
    · exact .inr (.inr (.inr (.inr (.inr (.inr ⟨⟨(dz e).1, (dz e).2, (nz f).1, (nz f).2⟩, xz g, nz i, j⟩)))))
  clear dz dp nz np xz xp ways hno hls hh3 hS1 hS2 hS3 hS4 hV1 hV2 hV3 hV4 one
  rcases facts with ⟨a1, a2, a3, a4⟩ | ⟨⟨a1, a2⟩, a3⟩ | ⟨⟨a1, a2, a3, a4⟩, a5⟩ | ⟨⟨a1, a2⟩, a3, a4, a5⟩ | ⟨⟨a1, a2, a3, a4⟩, a5, a6, a7⟩ | ⟨⟨a1, a2⟩, a3, ⟨a4, a5⟩, rfl⟩ | ⟨⟨a1, a2, a3, a4⟩, a5, ⟨a6, a7⟩, rfl⟩
  all_goals
    go_enter Tryd.func17, Tryd.ntmps17
    go_upto_region 1 with (fail)
    rw [HEQ.out.1, HEQ.out.2.1, HEQ.out.2.2.1, HEQ.out.2.2.2.1, HEQ.out.2.2.2.2]
    have t2 := H4.out.ct 2 rfl
    have d0 := H4.out.cd
    have v0 := H4.out.cv 0 rfl
    have v1 := H4.out.cv 1 rfl
    have v2 := H4.out.cv 2 rfl
    have v3 := H4.out.cv 3 rfl
    go_wp2_with (fail)
    go_ret
    exact ⟨rfl, HB1.out⟩

set_option maxHeartbeats 6400000 in
theorem fits_list_yes {st : List S50} {en : List S58} {root : Int} (d : Nat) (hd : d ≤ 1000) (kd rf ls : Int) (v : S29) (us u : Value) (w : World) (hls : 0 < ls) (hl2 : ls ≤ 9223372036854775807) (hs : IsS w st en root us) (hv : IsV w v u) (b : Bool)
    (hyes : v.f0 = 0 ∧ v.f1.length = 0 ∧ v.f3 = false)
    (hin : (v.f2.length = 0 ∧ b = true) ∨ ∃ (d' : Nat) (Q : S29 → Bool), d = d' + 1 ∧ (v.f2.any fun x => !Q x || lackB kd (ls - 1) x) = !b ∧ ∀ x ∈ v.f2, ∀ W uk, Below w.heap.size w W → IsV W x uk → Calls Tryd.prog 17 #[us, tyV kd rf (ls - 1), uk, .int .i64 d'] W fun e W' => e = .returned (.bool (Q x)) ∧ Below W.heap.size W W') :
    Calls Tryd.prog 17 #[us, tyV kd rf ls, u, .int .i64 d] w fun e w' => e = .returned (.bool b) ∧ Below w.heap.size w w' := by
  obtain ⟨A0, c0, A1, c1, rfl, hS1, hS2, hS3, hS4⟩ := hs
  obtain ⟨A2, c2, A3, c3, rfl, hV1, hV2, hV3, hV4⟩ := hv
  have V3 := Aside0.mk hV3
  have V4 := Aside0.mk hV4
  have l0 : decide (0 < ls) = true := decide_eq_true hls
  have wl : IntKind.i64.wrap (ls - 1) = ls - 1 := by rw [IntKind.wrap_i64]; omega
  obtain ⟨y0, y1, y3⟩ := hyes
  obtain ⟨h3, hh3⟩ : ∃ h3, v.f3 = h3 := ⟨_, rfl⟩
  rw [hh3] at y3 ⊢
  obtain ⟨gs, hgs⟩ : ∃ gs, w.heap.size = gs := ⟨_, rfl⟩
  obtain ⟨gt, hgt⟩ : ∃ gt, gs + 1 = gt := ⟨_, rfl⟩
  obtain ⟨gv, hgv⟩ : ∃ gv, gt + 1 = gv := ⟨_, rfl⟩
  obtain ⟨gd, hgd⟩ : ∃ gd, gv + 1 = gd := ⟨_, rfl⟩
  have H0 := four_new w #[.slice A0 st.length c0, .slice A1 en.length c1, .int .i64 root] #[.int .u8 kd, .int .i64 rf, .int .i64 ls] #[.int .u64 v.f0, .slice A2 v.f1.length c2, .slice A3 v.f2.length c3, .bool h3] d hgs hgt hgv hgd
  have HB0 := four_below w #[.slice A0 st.length c0, .slice A1 en.length c1, .int .i64 root] #[.int .u8 kd, .int .i64 rf, .int .i64 ls] #[.int .u64 v.f0, .slice A2 v.f1.length c2, .slice A3 v.f2.length c3, .bool h3] d
  obtain ⟨w1, hw1⟩ : ∃ w1, ((((w.alloc (.cells #[.slice A0 st.length c0, .slice A1 en.length c1, .int .i64 root] 34)).alloc (.cells #[.int .u8 kd, .int .i64 rf, .int .i64 ls] 45)).alloc (.cells #[.int .u64 v.f0, .slice A2 v.f1.length c2, .slice A3 v.f2.length c3, .bool h3] 29)).alloc (.cells #[.int .i64 d] 3)) = w1 := ⟨_, rfl⟩
  rw [hw1] at H0 HB0
  have H4 := Aside0.mk H0
  have HB1 := Aside0.mk HB0
  have HNE : Aside0 (w.heap.size ≤ gs ∧ gs < gt ∧ gt < gv ∧ gv < gd) := ⟨by omega⟩
  have HEQ := Aside0.mk (And.intro hw1 (And.intro hgs (And.intro hgt (And.intro hgv hgd))))
  clear H0 HB0 hw1 hgs hgt hgv hgd
  have HCALL : Aside0 (∀ w2, Below w.heap.size w w2 → Four w2 gs gt gv gd #[.slice A0 st.length c0, .slice A1 en.length c1, .int .i64 root] #[.int .u8 kd, .int .i64 rf, .int .i64 (ls - 1)] #[.int .u64 v.f0, .slice A2 v.f1.length c2, .slice A3 v.f2.length c3, .bool h3] d →
      Calls Tryd.prog 23 #[.slice A3 v.f2.length c3, .func (.func 24) #[] #[.pointer (some ⟨gs, 0, none⟩), .pointer (some ⟨gt, 0, none⟩), .pointer (some ⟨gd, 0, none⟩)]] w2 fun e w' => e = .returned (.bool (!b)) ∧ Below w2.heap.size w2 w') := ⟨fun w2 hb hf => by
    rcases hin with ⟨h0, hb1⟩ | ⟨d', Q, hdd, hany, hin⟩
    · have hnil : v.f2 = [] := List.eq_nil_of_length_eq_zero h0
      exact contains_any A3 c3 v.f2 _ _ _ (fun _ => false) (!b) (by rw [hnil, hb1]; rfl) w2 (Kd.C_below V3.out hb) V4.out (fun x hx => by rw [hnil] at hx; cases hx)
    · refine contains_any A3 c3 v.f2 _ _ _ (fun x => !Q x || lackB kd (ls - 1) x) (!b) hany w2 (Kd.C_below V3.out hb) V4.out (fun x hx W uk hW hu => ?_)
      have hbx := (hf.boxes).below hW
      have e1 : ((d : Nat) : Int) = (d' : Int) + 1 := by omega
      rw [e1] at hbx
      exact closure_any (st := st) (en := en) (root := root) kd rf (ls - 1) d' (by omega) _ x (Q x) uk W gs gt gd hbx hu (fun W2 hW2 => hin x hx W2 uk (below_then (below_then hb hb.size hW) (Nat.le_trans hb.size hW.size) hW2) (hu.below hW2))⟩
  have xz : (v.f0 != 0) = false := by simp [y0]
  have b1 : decide ((0 : Int) < (v.f1.length : Int)) = false := decide_eq_false (by omega)
  have b2 : decide (0 < v.f1.length) = false := decide_eq_false (by omega)
  have two : (decide ((d : Int) < 1) = true ∧ decide (d < 1) = true ∧ decide ((0 : Int) < (v.f2.length : Int)) = false ∧ decide (0 < v.f2.length) = false) ∨ (decide ((d : Int) < 1) = false ∧ decide (d < 1) = false) := by
    by_cases e : d = 0
    · left
      have hz : v.f2.length = 0 := by
        rcases hin with ⟨h0, _⟩ | ⟨d', Q, hdd, _⟩
        · exact h0
        · omega
      exact ⟨decide_eq_true (by omega), decide_eq_true (by omega), decide_eq_false (by omega), decide_eq_false (by omega)⟩
    · right; exact ⟨decide_eq_false (by omega), decide_eq_false (by omega)⟩
  have hmf : ∀ (fn : Fn) (first cap : Array Value) (w : World), (Instr.makeFunc fn first cap).run Tryd.prog w = .ok (.func fn first cap) w := fun _ _ _ _ => rfl
  subst y3
  clear hin hls hl2 hh3 hS1 hS2 hS3 hS4 hV1 hV2 hV3 hV4 y0 y1 hd
  rcases two with ⟨a1, a2, a3, a4⟩ | ⟨a1, a2⟩
  all_goals
    go_enter Tryd.func17, Tryd.ntmps17
    go_upto_region 1 with (fail)
    rw [HEQ.out.1, HEQ.out.2.1, HEQ.out.2.2.1, HEQ.out.2.2.2.1, HEQ.out.2.2.2.2]
    have t2 := H4.out.ct 2 rfl
    have t2f := blk_frozen H4.out.t 2
    have d0 := H4.out.cd
    have v0 := H4.out.cv 0 rfl
    have v1 := H4.out.cv 1 rfl
    have v2 := H4.out.cv 2 rfl
    have v3 := H4.out.cv 3 rfl
    go_upto_region 5 with (fail)
    obtain ⟨w2, hw2⟩ : ∃ w2, w1.setCell ⟨gt, 2, none⟩ (.int .i64 (ls - 1)) = w2 := ⟨_, rfl⟩
    have H5 : Aside0 (Four w2 gs gt gv gd #[.slice A0 st.length c0, .slice A1 en.length c1, .int .i64 root] #[.int .u8 kd, .int .i64 rf, .int .i64 (ls - 1)] #[.int .u64 v.f0, .slice A2 v.f1.length c2, .slice A3 v.f2.length c3, .bool false] d) := ⟨by rw [← hw2]; exact H4.out.sett HNE.out.2 2 _⟩
    have HB2 : Aside0 (Below w.heap.size w w2) := ⟨by rw [← hw2]; exact Below.setCell HB1.out (p := ⟨gt, 2, none⟩) (by have := HNE.out; show w.heap.size ≤ gt; omega) _⟩
    rw [hw2]
    clear hw2 t2 t2f v0 v1 v2 v3 d0
    have v2 := H5.out.cv 2 rfl
    go_wp2_with (go_at_call 23; (with_reducible refine (HCALL.out w2 HB2.out H5.out).mono ?_); rintro e w3 ⟨rfl, hb⟩; have HB3 := Aside0.mk (below_then HB2.out HB2.out.size hb); clear hb)
    go_ret
    exact ⟨by simp, HB3.out⟩
end Go.Proofs.YthilhndejhnlnaaDoor.Hand
end

section
/- Layer 7, view: the walk of fits, of structs; and what fits comes to, whatever the type. -/
namespace Go.Proofs.YthilhndejhnlnaaDoor.Hand
open Go.RowKit Go.Proofs.YthilhndejhnlnaaDoor.QAll Go.Proofs.YthilhndejhnlnaaDoorW.PrintWords Go.Proofs.YthilhndejhnlnaaDoorW.PrintLast Go.Proofs.YthilhndejhnlnaaDoorW.PrintMore Go.Proofs.YthilhndejhnlnaaDoor.Runes
set_option linter.unusedVariables false
set_option linter.unusedSimpArgs false

set_option maxHeartbeats 6400000 in
theorem fits_struct_gone {st : List S50} {en : List S58} {root : Int} (d : Nat) (q : Nat) (hq : q < st.length) (ls : Int) (v : S29) (us u : Value) (w : World) (hls : ¬ 0 < ls) (hs : IsS w st en root us) (hv : IsV w v u)
    (hno : v.f0 ≠ 0 ∨ 0 < v.f1.length ∨ v.f3 = false) :
    Calls Tryd.prog 17 #[us, tyV 13 q ls, u, .int .i64 d] w fun e w' => e = .returned (.bool (goneB v)) ∧ Below w.heap.size w w' := by
  obtain ⟨A0, c0, A1, c1, rfl, hS1, hS2, hS3, hS4⟩ := hs
  obtain ⟨A2, c2, A3, c3, rfl, hV1, hV2, hV3, hV4⟩ := hv
  have V3 := Aside0.mk hV3
  have V4 := Aside0.mk hV4
  have l0 : decide (0 < ls) = false := decide_eq_false hls
  have hq0 : (0 : Int) ≤ (q : Int) := Int.natCast_nonneg _
  have hq1 : (q : Int) < (st.length : Int) := by omega
  obtain ⟨h3, hh3⟩ : ∃ h3, v.f3 = h3 := ⟨_, rfl⟩
  rw [hh3] at hno ⊢
  obtain ⟨gs, hgs⟩ : ∃ gs, w.heap.size = gs := ⟨_, rfl⟩
  obtain ⟨gt, hgt⟩ : ∃ gt, gs + 1 = gt := ⟨_, rfl⟩
  obtain ⟨gv, hgv⟩ : ∃ gv, gt + 1 = gv := ⟨_, rfl⟩
  obtain ⟨gd, hgd⟩ : ∃ gd, gv + 1 = gd := ⟨_, rfl⟩
  have H0 := four_new w #[.slice A0 st.length c0, .slice A1 en.length c1, .int .i64 root] #[.int .u8 13, .int .i64 (q : Int), .int .i64 ls] #[.int .u64 v.f0, .slice A2 v.f1.length c2, .slice A3 v.f2.length c3, .bool h3] d hgs hgt hgv hgd
  have HB0 := four_below w #[.slice A0 st.length c0, .slice A1 en.length c1, .int .i64 root] #[.int .u8 13, .int .i64 (q : Int), .int .i64 ls] #[.int .u64 v.f0, .slice A2 v.f1.length c2, .slice A3 v.f2.length c3, .bool h3] d
  obtain ⟨w1, hw1⟩ : ∃ w1, ((((w.alloc (.cells #[.slice A0 st.length c0, .slice A1 en.length c1, .int .i64 root] 34)).alloc (.cells #[.int .u8 13, .int .i64 (q : Int), .int .i64 ls] 45)).alloc (.cells #[.int .u64 v.f0, .slice A2 v.f1.length c2, .slice A3 v.f2.length c3, .bool h3] 29)).alloc (.cells #[.int .i64 d] 3)) = w1 := ⟨_, rfl⟩
  rw [hw1] at H0 HB0
  have H4 := Aside0.mk H0
  have HB1 := Aside0.mk HB0
  have HNE : Aside0 (w.heap.size ≤ gs ∧ gs < gt ∧ gt < gv ∧ gv < gd) := ⟨by omega⟩
  have HEQ := Aside0.mk (And.intro hw1 (And.intro hgs (And.intro hgt (And.intro hgv hgd))))
  clear H0 HB0 hw1 hgs hgt hgv hgd
  obtain ⟨ad, A4, c4, rfl, x0, x1, hF1, hF2⟩ := at_T50 hS1 (q : Int) hq0 hq1
  obtain ⟨R, hRR⟩ : ∃ R, rd_T50 st (q : Int) = R := ⟨_, rfl⟩
  rw [hRR] at x0 x1 hF1 hF2
  rw [show ((q : Int)).toNat = q from rfl] at x0 x1
  replace x0 := pw_cell_below HB1.out x0
  replace x1 := pw_cell_below HB1.out x1
  obtain ⟨w2, hw2⟩ : ∃ w2, w1.alloc (.cells #[.string R.f0, .slice A4 R.f1.length c4] 50) = w2 := ⟨_, rfl⟩
  obtain ⟨gr, hgr⟩ : ∃ gr, w1.heap.size = gr := ⟨_, rfl⟩
  have H12 := below_alloc (Below.refl w1.heap.size w1) (.cells #[.string R.f0, .slice A4 R.f1.length c4] 50)
  rw [hw2] at H12
  have H5 := Aside0.mk (H4.out.below H12)
  have HB2 := Aside0.mk (below_then HB1.out HB1.out.size H12)
  have HR2 : Aside0 (w2.heap[gr]? = some (.cells #[.string R.f0, .slice A4 R.f1.length c4] 50 (0, 0))) := ⟨by rw [← hw2, ← hgr]; exact heap_alloc_new w1 _⟩
  have HEQ2 := Aside0.mk (And.intro hw2 hgr)
  have HF1 := Aside0.mk hF1
  have HF2 := Aside0.mk hF2
  clear hw2 hgr H12
  obtain ⟨r, hr⟩ : ∃ r, goneB v = r := ⟨_, rfl⟩
  rw [hr]
  have ways : ((v.f0 != 0) = true ∧ (v.f0 == 0) = false ∧ r = false) ∨
      ((v.f0 != 0) = false ∧ (v.f0 == 0) = true ∧ decide ((0 : Int) < (v.f1.length : Int)) = true ∧ decide (0 < v.f1.length) = true ∧ ((v.f1.length : Int) == 0) = false ∧ (v.f1.length == 0) = false ∧ r = false) ∨
      ((v.f0 != 0) = false ∧ (v.f0 == 0) = true ∧ decide ((0 : Int) < (v.f1.length : Int)) = false ∧ decide (0 < v.f1.length) = false ∧ ((v.f1.length : Int) == 0) = true ∧ (v.f1.length == 0) = true ∧ h3 = false ∧ ((v.f2.length : Int) == 0) = r ∧ (v.f2.length == 0) = r) := by
    unfold goneB at hr
    by_cases e : v.f0 = 0
    · right
      have e1 : (v.f0 == 0) = true := by simp [e]
      have e2 : (v.f0 != 0) = false := by simp [e]
      rw [e1] at hr
      rcases Nat.eq_zero_or_pos v.f1.length with f | f
      · right
        have f1 : (v.f1.length == 0) = true := by rw [f]; rfl
        rw [f1] at hr
        have h30 : h3 = false := by
          rcases hno with x | x | x
          · exact absurd e x
          · omega
          · exact x
        have g : (v.f2.length == 0) = r := by simpa using hr
        refine ⟨e2, e1, decide_eq_false (by omega), decide_eq_false (by omega), by rw [f]; rfl, f1, h30, ?_, g⟩
        rw [← g, Bool.eq_iff_iff]; simp only [beq_iff_eq]; omega
      · left
        have f1 : (v.f1.length == 0) = false := by simp only [beq_eq_false_iff_ne]; omega
        rw [f1] at hr
        exact ⟨e2, e1, decide_eq_true (by omega), decide_eq_true f, by simp only [beq_eq_false_iff_ne]; omega, f1, by simpa using hr.symm⟩
    · left
      have e1 : (v.f0 == 0) = false := by simp [e]
      rw [e1] at hr
      exact ⟨by simp [e], e1, by simpa using hr.symm⟩
  clear hno hls hh3 hS1 hS2 hS3 hS4 hV1 hV2 hV3 hV4 hr hF1 hF2 hRR
  rcases ways with ⟨a1, a2, rfl⟩ | ⟨a1, a2, a3, a4, a5, a6, rfl⟩ | ⟨a1, a2, a3, a4, a5, a6, rfl, a7, a8⟩
  all_goals
    go_enter Tryd.func17, Tryd.ntmps17
    go_upto_region 1 with (fail)
    rw [HEQ.out.1, HEQ.out.2.1, HEQ.out.2.2.1, HEQ.out.2.2.2.1, HEQ.out.2.2.2.2]
    have s0 := H4.out.cs 0 rfl
    have t0 := H4.out.ct 0 rfl
    have t1 := H4.out.ct 1 rfl
    have t2 := H4.out.ct 2 rfl
    go_upto_region 8 with (fail)
    rw [HEQ2.out.1, HEQ2.out.2]
    clear s0 t0 t1 t2 x0 x1
    have v0 := H5.out.cv 0 rfl
    have v1 := H5.out.cv 1 rfl
    have v2 := H5.out.cv 2 rfl
    have v3 := H5.out.cv 3 rfl
    go_wp2_with (fail)
    go_ret
    exact ⟨by first | rfl | simp [*], HB2.out⟩

set_option maxHeartbeats 6400000 in
theorem fits_struct_no {st : List S50} {en : List S58} {root : Int} (d : Nat) (q : Nat) (hq : q < st.length) (ls : Int) (v : S29) (us u : Value) (w : World) (hls : ¬ 0 < ls) (hs : IsS w st en root us) (hv : IsV w v u)
    (hyes : v.f0 = 0 ∧ v.f1.length = 0 ∧ v.f3 = true) (hno : d = 0 ∨ v.f2.length ≠ (rd_T50 st (q : Int)).f1.length) :
    Calls Tryd.prog 17 #[us, tyV 13 q ls, u, .int .i64 d] w fun e w' => e = .returned (.bool false) ∧ Below w.heap.size w w' := by
  obtain ⟨A0, c0, A1, c1, rfl, hS1, hS2, hS3, hS4⟩ := hs
  obtain ⟨A2, c2, A3, c3, rfl, hV1, hV2, hV3, hV4⟩ := hv
  have V3 := Aside0.mk hV3
  have V4 := Aside0.mk hV4
  have l0 : decide (0 < ls) = false := decide_eq_false hls
  have hq0 : (0 : Int) ≤ (q : Int) := Int.natCast_nonneg _
  have hq1 : (q : Int) < (st.length : Int) := by omega
  obtain ⟨h3, hh3⟩ : ∃ h3, v.f3 = h3 := ⟨_, rfl⟩
  obtain ⟨y0, y1, y3⟩ := hyes
  rw [hh3] at y3 ⊢
  obtain ⟨gs, hgs⟩ : ∃ gs, w.heap.size = gs := ⟨_, rfl⟩
  obtain ⟨gt, hgt⟩ : ∃ gt, gs + 1 = gt := ⟨_, rfl⟩
  obtain ⟨gv, hgv⟩ : ∃ gv, gt + 1 = gv := ⟨_, rfl⟩
  obtain ⟨gd, hgd⟩ : ∃ gd, gv + 1 = gd := ⟨_, rfl⟩
  have H0 := four_new w #[.slice A0 st.length c0, .slice A1 en.length c1, .int .i64 root] #[.int .u8 13, .int .i64 (q : Int), .int .i64 ls] #[.int .u64 v.f0, .slice A2 v.f1.length c2, .slice A3 v.f2.length c3, .bool h3] d hgs hgt hgv hgd
  have HB0 := four_below w #[.slice A0 st.length c0, .slice A1 en.length c1, .int .i64 root] #[.int .u8 13, .int .i64 (q : Int), .int .i64 ls] #[.int .u64 v.f0, .slice A2 v.f1.length c2, .slice A3 v.f2.length c3, .bool h3] d
  obtain ⟨w1, hw1⟩ : ∃ w1, ((((w.alloc (.cells #[.slice A0 st.length c0, .slice A1 en.length c1, .int .i64 root] 34)).alloc (.cells #[.int .u8 13, .int .i64 (q : Int), .int .i64 ls] 45)).alloc (.cells #[.int .u64 v.f0, .slice A2 v.f1.length c2, .slice A3 v.f2.length c3, .bool h3] 29)).alloc (.cells #[.int .i64 d] 3)) = w1 := ⟨_, rfl⟩
  rw [hw1] at H0 HB0
  have H4 := Aside0.mk H0
  have HB1 := Aside0.mk HB0
  have HNE : Aside0 (w.heap.size ≤ gs ∧ gs < gt ∧ gt < gv ∧ gv < gd) := ⟨by omega⟩
  have HEQ := Aside0.mk (And.intro hw1 (And.intro hgs (And.intro hgt (And.intro hgv hgd))))
  clear H0 HB0 hw1 hgs hgt hgv hgd
  obtain ⟨ad, A4, c4, rfl, x0, x1, hF1, hF2⟩ := at_T50 hS1 (q : Int) hq0 hq1
  obtain ⟨R, hRR⟩ : ∃ R, rd_T50 st (q : Int) = R := ⟨_, rfl⟩
  rw [hRR] at x0 x1 hF1 hF2
  rw [show ((q : Int)).toNat = q from rfl] at x0 x1
  replace x0 := pw_cell_below HB1.out x0
  replace x1 := pw_cell_below HB1.out x1
  obtain ⟨w2, hw2⟩ : ∃ w2, w1.alloc (.cells #[.string R.f0, .slice A4 R.f1.length c4] 50) = w2 := ⟨_, rfl⟩
  obtain ⟨gr, hgr⟩ : ∃ gr, w1.heap.size = gr := ⟨_, rfl⟩
  have H12 := below_alloc (Below.refl w1.heap.size w1) (.cells #[.string R.f0, .slice A4 R.f1.length c4] 50)
  rw [hw2] at H12
  have H5 := Aside0.mk (H4.out.below H12)
  have HB2 := Aside0.mk (below_then HB1.out HB1.out.size H12)
  have HR2 : Aside0 (w2.heap[gr]? = some (.cells #[.string R.f0, .slice A4 R.f1.length c4] 50 (0, 0))) := ⟨by rw [← hw2, ← hgr]; exact heap_alloc_new w1 _⟩
  have HEQ2 := Aside0.mk (And.intro hw2 hgr)
  have HF1 := Aside0.mk hF1
  have HF2 := Aside0.mk hF2
  clear hw2 hgr H12
  rw [hRR] at hno
  have xz : (v.f0 != 0) = false := by simp [y0]
  have b1 : decide ((0 : Int) < (v.f1.length : Int)) = false := decide_eq_false (by omega)
  have b2 : decide (0 < v.f1.length) = false := decide_eq_false (by omega)
  have two : (decide ((d : Int) < 1) = true ∧ decide (d < 1) = true) ∨ (decide ((d : Int) < 1) = false ∧ decide (d < 1) = false ∧ ((v.f2.length : Int) != (R.f1.length : Int)) = true ∧ (v.f2.length != R.f1.length) = true) := by
    by_cases e : d = 0
    · left; exact ⟨decide_eq_true (by omega), decide_eq_true (by omega)⟩
    · right
      have n : v.f2.length ≠ R.f1.length := hno.resolve_left e
      exact ⟨decide_eq_false (by omega), decide_eq_false (by omega), by simp only [bne_iff_ne]; omega, by simp only [bne_iff_ne]; omega⟩
  subst y3
  clear hno hls hh3 hS1 hS2 hS3 hS4 hV1 hV2 hV3 hV4 hF1 hF2 hRR y0 y1
  rcases two with ⟨a1, a2⟩ | ⟨a1, a2, a3, a4⟩
  all_goals
    go_enter Tryd.func17, Tryd.ntmps17
    go_upto_region 1 with (fail)
    rw [HEQ.out.1, HEQ.out.2.1, HEQ.out.2.2.1, HEQ.out.2.2.2.1, HEQ.out.2.2.2.2]
    have s0 := H4.out.cs 0 rfl
    have t0 := H4.out.ct 0 rfl
    have t1 := H4.out.ct 1 rfl
    have t2 := H4.out.ct 2 rfl
    go_upto_region 8 with (fail)
    rw [HEQ2.out.1, HEQ2.out.2]
    clear s0 t0 t1 t2 x0 x1
    have v0 := H5.out.cv 0 rfl
    have v1 := H5.out.cv 1 rfl
    have v2 := H5.out.cv 2 rfl
    have v3 := H5.out.cv 3 rfl
    have d0 := H5.out.cd
    have r1 : w2.cell? ⟨gr, 1, none⟩ = some (.slice A4 R.f1.length c4) := (blk_cell HR2.out 1).trans rfl
    go_wp2_with (fail)
    go_ret
    exact ⟨rfl, HB2.out⟩

/-- What stands at the head of a round over a struct's fields. -/
def KRound (w5 : World) (fs : List S47) (vs : List S29) (p : S47 × S29 → Bool) (v101 : Value) (wr : World) : Prop :=
  ∃ k : Nat, v101 = .int .i64 k ∧ k ≤ fs.length ∧ ((fs.zip vs).take k).all p = true ∧ Below w5.heap.size w5 wr
theorem take_zip {fs : List S47} {vs : List S29} (p : S47 × S29 → Bool) {k : Nat} (hk : k < fs.length) (hk2 : k < vs.length) : ((fs.zip vs).take (k + 1)).all p = (((fs.zip vs).take k).all p && p (fs[k], vs[k])) := by
  rw [List.take_succ_eq_append_getElem (by rw [List.length_zip]; omega), List.all_append, List.getElem_zip]; simp
theorem all_not {fs : List S47} {vs : List S29} (p : S47 × S29 → Bool) {k : Nat} (hk : k < fs.length) (hk2 : k < vs.length) (h : p (fs[k], vs[k]) = false) : (fs.zip vs).all p = false := by
  cases e : (fs.zip vs).all p with
  | false => rfl
  | true =>
    have hl : k < (fs.zip vs).length := by rw [List.length_zip]; omega
    have := List.all_eq_true.1 e _ (List.getElem_mem hl)
    rw [List.getElem_zip, h] at this; cases this
set_option maxHeartbeats 6400000 in
set_option maxRecDepth 100000 in
theorem fits_struct_yes {st : List S50} {en : List S58} {root : Int} (d : Nat) (hd : d < 1000) (q : Nat) (hq : q < st.length) (ls : Int) (v : S29) (us u : Value) (w : World) (hls : ¬ 0 < ls) (hs : IsS w st en root us) (hv : IsV w v u)
    (hyes : v.f0 = 0 ∧ v.f1.length = 0 ∧ v.f3 = true) (hlen : v.f2.length = (rd_T50 st (q : Int)).f1.length) (p : S47 × S29 → Bool)
    (hin : ∀ (k : Nat) (hk : k < (rd_T50 st (q : Int)).f1.length) (hk2 : k < v.f2.length) (W : World) (uk : Value), Below w.heap.size w W → IsV W v.f2[k] uk →
      Calls Tryd.prog 17 #[us, tyV ((rd_T50 st (q : Int)).f1[k]).f1.f0 ((rd_T50 st (q : Int)).f1[k]).f1.f1 ((rd_T50 st (q : Int)).f1[k]).f1.f2, uk, .int .i64 d] W fun e W' => e = .returned (.bool (p ((rd_T50 st (q : Int)).f1[k], v.f2[k]))) ∧ Below W.heap.size W W') :
    Calls Tryd.prog 17 #[us, tyV 13 q ls, u, .int .i64 ((d : Int) + 1)] w fun e w' => e = .returned (.bool (((rd_T50 st (q : Int)).f1.zip v.f2).all p)) ∧ Below w.heap.size w w' := by
  obtain ⟨A0, c0, A1, c1, rfl, hS1, hS2, hS3, hS4⟩ := hs
  obtain ⟨A2, c2, A3, c3, rfl, hV1, hV2, hV3, hV4⟩ := hv
  have V3 := Aside0.mk hV3
  have V4 := Aside0.mk hV4
  have l0 : decide (0 < ls) = false := decide_eq_false hls
  have hq0 : (0 : Int) ≤ (q : Int) := Int.natCast_nonneg _
  have hq1 : (q : Int) < (st.length : Int) := by omega
  obtain ⟨h3, hh3⟩ : ∃ h3, v.f3 = h3 := ⟨_, rfl⟩
  obtain ⟨y0, y1, y3⟩ := hyes
  rw [hh3] at y3 ⊢
  obtain ⟨gs, hgs⟩ : ∃ gs, w.heap.size = gs := ⟨_, rfl⟩
  obtain ⟨gt, hgt⟩ : ∃ gt, gs + 1 = gt := ⟨_, rfl⟩
  obtain ⟨gv, hgv⟩ : ∃ gv, gt + 1 = gv := ⟨_, rfl⟩
  obtain ⟨gd, hgd⟩ : ∃ gd, gv + 1 = gd := ⟨_, rfl⟩
  have H0 := four_new w #[.slice A0 st.length c0, .slice A1 en.length c1, .int .i64 root] #[.int .u8 13, .int .i64 (q : Int), .int .i64 ls] #[.int .u64 v.f0, .slice A2 v.f1.length c2, .slice A3 v.f2.length c3, .bool h3] ((d : Int) + 1) hgs hgt hgv hgd
  have HB0 := four_below w #[.slice A0 st.length c0, .slice A1 en.length c1, .int .i64 root] #[.int .u8 13, .int .i64 (q : Int), .int .i64 ls] #[.int .u64 v.f0, .slice A2 v.f1.length c2, .slice A3 v.f2.length c3, .bool h3] ((d : Int) + 1)
  obtain ⟨w1, hw1⟩ : ∃ w1, ((((w.alloc (.cells #[.slice A0 st.length c0, .slice A1 en.length c1, .int .i64 root] 34)).alloc (.cells #[.int .u8 13, .int .i64 (q : Int), .int .i64 ls] 45)).alloc (.cells #[.int .u64 v.f0, .slice A2 v.f1.length c2, .slice A3 v.f2.length c3, .bool h3] 29)).alloc (.cells #[.int .i64 ((d : Int) + 1)] 3)) = w1 := ⟨_, rfl⟩
  rw [hw1] at H0 HB0
  have H4 := Aside0.mk H0
  have HB1 := Aside0.mk HB0
  have HNE : Aside0 (w.heap.size ≤ gs ∧ gs < gt ∧ gt < gv ∧ gv < gd) := ⟨by omega⟩
  have HEQ := Aside0.mk (And.intro hw1 (And.intro hgs (And.intro hgt (And.intro hgv hgd))))
  clear H0 HB0 hw1 hgs hgt hgv hgd
  obtain ⟨ad, A4, c4, rfl, x0, x1, hF1, hF2⟩ := at_T50 hS1 (q : Int) hq0 hq1
  obtain ⟨R, hRR⟩ : ∃ R, rd_T50 st (q : Int) = R := ⟨_, rfl⟩
  rw [hRR] at x0 x1 hF1 hF2
  rw [show ((q : Int)).toNat = q from rfl] at x0 x1
  replace x0 := pw_cell_below HB1.out x0
  replace x1 := pw_cell_below HB1.out x1
  obtain ⟨w2, hw2⟩ : ∃ w2, w1.alloc (.cells #[.string R.f0, .slice A4 R.f1.length c4] 50) = w2 := ⟨_, rfl⟩
  obtain ⟨gr, hgr⟩ : ∃ gr, w1.heap.size = gr := ⟨_, rfl⟩
  have H12 := below_alloc (Below.refl w1.heap.size w1) (.cells #[.string R.f0, .slice A4 R.f1.length c4] 50)
  rw [hw2] at H12
  have H5 := Aside0.mk (H4.out.below H12)
  have HB2 := Aside0.mk (below_then HB1.out HB1.out.size H12)
  have HR2 : Aside0 (w2.heap[gr]? = some (.cells #[.string R.f0, .slice A4 R.f1.length c4] 50 (0, 0))) := ⟨by rw [← hw2, ← hgr]; exact heap_alloc_new w1 _⟩
  have HEQ2 := Aside0.mk (And.intro hw2 hgr)
  have HF1 := Aside0.mk hF1
  have HF2 := Aside0.mk hF2
  clear hw2 hgr H12
  rw [hRR] at hin hlen ⊢
  have HIN := Aside0.mk hin
  have HLEN := Aside0.mk hlen
  obtain ⟨res, hres⟩ : ∃ res, (R.f1.zip v.f2).all p = res := ⟨_, rfl⟩
  rw [hres]
  have HRES := Aside0.mk hres
  have HMX := Aside0.mk (Kd.C_max hF2)
  have xz : (v.f0 != 0) = false := by simp [y0]
  have b1 : decide ((0 : Int) < (v.f1.length : Int)) = false := decide_eq_false (by omega)
  have b2 : decide (0 < v.f1.length) = false := decide_eq_false (by omega)
  have a1 : decide ((d : Int) + 1 < 1) = false := decide_eq_false (by omega)
  have a3 : ((v.f2.length : Int) != (R.f1.length : Int)) = false := by rw [hlen]; exact bne_self_eq_false _
  have a4 : (v.f2.length != R.f1.length) = false := by rw [hlen]; exact bne_self_eq_false _
  have wd : IntKind.i64.wrap ((d : Int) + 1 - 1) = (d : Int) := by rw [IntKind.wrap_i64]; omega
  have wd2 : IntKind.i64.wrap (d : Int) = (d : Int) := by rw [IntKind.wrap_i64]; omega
  subst y3
  clear hin hlen hres hls hh3 hS1 hS2 hS3 hS4 hV1 hV2 hV3 hV4 hF1 hF2 hRR y0 y1 hd
  · 
    go_enter Tryd.func17, Tryd.ntmps17
    go_upto_region 1 with (fail)
    rw [HEQ.out.1, HEQ.out.2.1, HEQ.out.2.2.1, HEQ.out.2.2.2.1, HEQ.out.2.2.2.2]
    have s0 := H4.out.cs 0 rfl
    have t0 := H4.out.ct 0 rfl
    have t1 := H4.out.ct 1 rfl
    have t2 := H4.out.ct 2 rfl
    go_upto_region 8 with (fail)
    rw [HEQ2.out.1, HEQ2.out.2]
    clear s0 t0 t1 t2 x0 x1
    have v0 := H5.out.cv 0 rfl
    have v1 := H5.out.cv 1 rfl
    have v2 := H5.out.cv 2 rfl
    have v3 := H5.out.cv 3 rfl
    have d0 := H5.out.cd
    have r1 : w2.cell? ⟨gr, 1, none⟩ = some (.slice A4 R.f1.length c4) := (blk_cell HR2.out 1).trans rfl
    go_upto_region 13 with (fail)
    clear v0 v1 v2 v3 d0 r1 xz b1 b2 a1 a3 a4
    go_loopw [101] (fun v101 wr => KRound w2 R.f1 v.f2 p v101 wr) (fun v101 _ => R.f1.length - (intOf v101).toNat)
    case atStart => exact ⟨0, rfl, Nat.zero_le _, by simp, Below.refl _ _⟩
    case round =>
      obtain ⟨k, rfl, hk, hall, hB⟩ := hrel
      have HK := Aside0.mk hk
      have HALL := Aside0.mk hall
      have HB := Aside0.mk hB
      clear hk hall hB
      by_cases hlt : k < R.f1.length
      · have hlt2 : k < v.f2.length := by have := HLEN.out; omega
        obtain ⟨fd, rfl, z0, z1, z2, z3, z4⟩ := at_T47 HF2.out (k : Int) (by omega) (by omega)
        have hfx : rd_T47 R.f1 (k : Int) = R.f1[k] := by unfold rd_T47; rw [show ((k : Int)).toNat = k from rfl, List.getD_eq_getElem?_getD, List.getElem?_eq_getElem hlt]; rfl
        obtain ⟨kdd, E1, e1, E2, e2, rfl, m0, m1, m2, m3, hkv⟩ := kid_at V3.out k hlt2
        have HX := Aside0.mk (HIN.out k hlt hlt2)
        have HTK := Aside0.mk (take_zip p hlt hlt2)
        have HAT := Aside0.mk (all_not p hlt hlt2)
        obtain ⟨F, hF⟩ : ∃ F, R.f1[k] = F := ⟨_, rfl⟩
        obtain ⟨K, hK⟩ : ∃ K, v.f2[k] = K := ⟨_, rfl⟩
        rw [hfx, hF] at z0 z1 z2 z3 z4
        rw [show ((k : Int)).toNat = k from rfl] at z0 z1 z2 z3 z4
        rw [hF, hK] at HX HTK HAT
        rw [hK] at m0 m1 m2 m3 hkv
        obtain ⟨b, hb⟩ : ∃ b, p (F, K) = b := ⟨_, rfl⟩
        rw [hb] at HX HTK HAT
        have hBw := below_then HB2.out HB2.out.size HB.out
        have HBW := Aside0.mk hBw
        replace z0 := pw_cell_below hBw (show w.cell? _ = _ from by first | exact z0)
        replace z1 := pw_cell_below hBw z1
        replace z2 := pw_cell_below hBw z2
        replace z3 := pw_cell_below hBw z3
        replace z4 := pw_cell_below hBw z4
        obtain ⟨w6, hw6⟩ : ∃ w6, wr.alloc (.cells #[.string F.f0, .int .u8 F.f1.f0, .int .i64 F.f1.f1, .int .i64 F.f1.f2, .int .u64 F.f2] 47) = w6 := ⟨_, rfl⟩
        obtain ⟨gf, hgf⟩ : ∃ gf, wr.heap.size = gf := ⟨_, rfl⟩
        have h16 := below_alloc (Below.refl wr.heap.size wr) (.cells #[.string F.f0, .int .u8 F.f1.f0, .int .i64 F.f1.f1, .int .i64 F.f1.f2, .int .u64 F.f2] 47)
        rw [hw6] at h16
        have HB6 := Aside0.mk (below_then HB.out HB.out.size h16)
        have hBw6 := below_then hBw hBw.size h16
        have HBW6 := Aside0.mk hBw6
        have H6 := Aside0.mk (H5.out.below HB6.out)
        have HF6 : Aside0 (w6.heap[gf]? = some (.cells #[.string F.f0, .int .u8 F.f1.f0, .int .i64 F.f1.f1, .int .i64 F.f1.f2, .int .u64 F.f2] 47 (0, 0))) := ⟨by rw [← hw6, ← hgf]; exact heap_alloc_new wr _⟩
        replace m0 := pw_cell_below hBw6 m0
        replace m1 := pw_cell_below hBw6 m1
        replace m2 := pw_cell_below hBw6 m2
        replace m3 := pw_cell_below hBw6 m3
        have HY := Aside0.mk (HX.out w6.drew _ (below_then hBw6 hBw6.size (below_drew (Below.refl w6.heap.size w6))) (hkv.below (below_then hBw6 hBw6.size (below_drew (Below.refl w6.heap.size w6)))))
        have d0 : decide (k < R.f1.length) = true := decide_eq_true hlt
        have d0' : decide ((k : Int) < (R.f1.length : Int)) = true := decide_eq_true (by omega)
        have wk : IntKind.i64.wrap ((k : Int) + 1) = (k : Int) + 1 := by rw [IntKind.wrap_i64]; have := HMX.out; omega
        have HW6 := Aside0.mk (And.intro hw6 hgf)
        clear hfx hF hK hb hBw hBw6 h16 hkv HX hw6 hgf
        go_upto_region 15 with (fail)
        rw [HW6.out.1, HW6.out.2]
        clear z0 z1 z2 z3 z4
        have f1 : w6.cell? ⟨gf, 1, none⟩ = some (.int .u8 F.f1.f0) := (blk_cell HF6.out 1).trans rfl
        have f2 : w6.cell? ⟨gf, 2, none⟩ = some (.int .i64 F.f1.f1) := (blk_cell HF6.out 2).trans rfl
        have f3 : w6.cell? ⟨gf, 3, none⟩ = some (.int .i64 F.f1.f2) := (blk_cell HF6.out 3).trans rfl
        have s0 := H6.out.cs 0 rfl
        have s1 := H6.out.cs 1 rfl
        have s2 := H6.out.cs 2 rfl
        have v2 := H6.out.cv 2 rfl
        have dd := H6.out.cd
        have k0 : (0 : Int) ≤ (k : Int) := Int.natCast_nonneg _
        have k1 : (k : Int) < (v.f2.length : Int) := by omega
        go_still_tail 10, (by kernel_rfl)
        change wpList _ _ _ _ _ w6.drew
        clear f1 f2 f3 s0 s1 s2 v2 dd m0 m1 m2 m3
        cases b with
        | false =>
          replace HAT := Aside0.mk (HAT.out rfl)
          go_wp2_with (go_at_call 17; (with_reducible refine HY.out.mono ?_); rintro e w7 ⟨rfl, hb⟩; have HB7 := Aside0.mk (below_then (below_then HBW6.out HBW6.out.size (below_drew (Below.refl w6.heap.size w6))) (Nat.le_trans HBW6.out.size (Nat.le_refl _)) hb); clear hb)
          go_ret
          exact ⟨by rw [← HRES.out, HAT.out]; rfl, HB7.out⟩
        | true =>
          go_wp2_with (go_at_call 17; (with_reducible refine HY.out.mono ?_); rintro e w7 ⟨rfl, hb⟩; have HB7 := Aside0.mk (below_then (below_then HB6.out HB6.out.size (below_drew (Below.refl w6.heap.size w6))) (Nat.le_trans HB6.out.size (Nat.le_refl _)) hb); clear hb)
          go_roundw
          case rel => exact ⟨k + 1, by go_num, by omega, by rw [HTK.out, HALL.out]; rfl, HB7.out⟩
          case measure => simp [intOf]; omega
      · have d0 : decide (k < R.f1.length) = false := decide_eq_false hlt
        have d0' : decide ((k : Int) < (R.f1.length : Int)) = false := decide_eq_false (by omega)
        go_wp2_with (fail)
        go_ret
        exact ⟨by
          have h := HALL.out
          rw [List.take_of_length_le (by rw [List.length_zip]; omega), HRES.out] at h
          rw [h]; rfl, below_then HB2.out HB2.out.size HB.out⟩
end Go.Proofs.YthilhndejhnlnaaDoor.Hand
end

section
/- Layer 7, view: what fits and Fits come to. -/
namespace Go.Proofs.YthilhndejhnlnaaDoor.Hand
open Go.RowKit Go.Proofs.YthilhndejhnlnaaDoor.QAll Go.Proofs.YthilhndejhnlnaaDoorW.PrintWords Go.Proofs.YthilhndejhnlnaaDoorW.PrintLast Go.Proofs.YthilhndejhnlnaaDoorW.PrintMore Go.Proofs.YthilhndejhnlnaaDoor.Runes
set_option linter.unusedVariables false
set_option linter.unusedSimpArgs false

theorem any_all (xs : List S29) (Q L : S29 → Bool) : (xs.any fun x => !Q x || L x) = !(xs.all fun x => Q x && !L x) := by
  induction xs with
  | nil => rfl
  | cons a t ih => simp only [List.any_cons, List.all_cons, ih]; cases Q a <;> cases L a <;> simp
theorem rd_mem31 {st : List S50} {q : Nat} (h : q < st.length) : rd_T50 st (q : Int) ∈ st := by
  unfold rd_T50; rw [show ((q : Int)).toNat = q from rfl, List.getD_eq_getElem?_getD, List.getElem?_eq_getElem h]; exact List.getElem_mem h
theorem fits_any {st : List S50} {en : List S58} {root : Int} (hG : Good st) : ∀ (d : Nat), d ≤ 1000 → ∀ (kd rf ls : Int) (v : S29) (us u : Value) (w : World), TyOk st kd rf → ls ≤ 9223372036854775807 → IsS w st en root us → IsV w v u →
    Calls Tryd.prog 17 #[us, tyV kd rf ls, u, .int .i64 d] w fun e w' => e = .returned (.bool (fitsB st en root d kd rf ls v)) ∧ Below w.heap.size w w' := by
  intro d
  induction d with
  | zero =>
    intro _ kd rf ls v us u w hty hl2 hs hv
    unfold fitsB
    by_cases hls : 0 < ls
    · rw [if_pos hls]
      by_cases c : 0 < v.f2.length ∨ v.f0 ≠ 0 ∨ 0 < v.f1.length ∨ v.f3 = true
      · rw [if_pos c]
        exact fits_list_no 0 kd rf ls v us u w hls hs hv (c.elim (fun h => .inl ⟨rfl, h⟩) .inr)
      · rw [if_neg c]
        simp only [not_or] at c
        exact fits_list_yes 0 (by decide) kd rf ls v us u w hls hl2 hs hv true ⟨by simpa using c.2.1, by omega, by simpa using c.2.2.2⟩ (.inl ⟨by omega, rfl⟩)
    · rw [if_neg hls]
      by_cases hk : kd = 13
      · subst hk
        rw [if_pos rfl]
        obtain ⟨h0, h1⟩ := hty rfl
        obtain ⟨q, rfl⟩ := Int.eq_ofNat_of_zero_le h0
        by_cases c : v.f0 ≠ 0 ∨ 0 < v.f1.length ∨ v.f3 = false
        · rw [if_pos c]; exact fits_struct_gone 0 q (by omega) ls v us u w hls hs hv c
        · rw [if_neg c]
          simp only [not_or] at c
          exact fits_struct_no 0 q (by omega) ls v us u w hls hs hv ⟨by simpa using c.1, by omega, by simpa using c.2.2⟩ (.inl rfl)
      · rw [if_neg hk]
        exact fits_leaf 0 kd rf ls v us u w hls hk hs hv
  | succ d ih =>
    intro hd kd rf ls v us u w hty hl2 hs hv
    unfold fitsB
    by_cases hls : 0 < ls
    · rw [if_pos hls]
      by_cases c : v.f0 ≠ 0 ∨ 0 < v.f1.length ∨ v.f3 = true
      · rw [if_pos c]
        exact fits_list_no (d + 1) kd rf ls v us u w hls hs hv (.inr c)
      · rw [if_neg c]
        simp only [not_or] at c
        exact fits_list_yes (d + 1) hd kd rf ls v us u w hls hl2 hs hv _ ⟨by simpa using c.1, by omega, by simpa using c.2.2⟩
          (.inr ⟨d, fun x => fitsB st en root d kd rf (ls - 1) x, rfl, any_all v.f2 _ _, fun x hx W uk hW hu => ih (by omega) kd rf (ls - 1) x us uk W hty (by omega) (hs.below hW) hu⟩)
    · rw [if_neg hls]
      by_cases hk : kd = 13
      · subst hk
        rw [if_pos rfl]
        obtain ⟨h0, h1⟩ := hty rfl
        obtain ⟨q, rfl⟩ := Int.eq_ofNat_of_zero_le h0
        have hq : q < st.length := by omega
        by_cases c : v.f0 ≠ 0 ∨ 0 < v.f1.length ∨ v.f3 = false
        · rw [if_pos c]; exact fits_struct_gone (d + 1) q hq ls v us u w hls hs hv c
        · rw [if_neg c]
          simp only [not_or] at c
          have c' : v.f0 = 0 ∧ v.f1.length = 0 ∧ v.f3 = true := ⟨by simpa using c.1, by omega, by simpa using c.2.2⟩
          by_cases e : v.f2.length ≠ (rd_T50 st (q : Int)).f1.length
          · rw [if_pos e]; exact fits_struct_no (d + 1) q hq ls v us u w hls hs hv c' (.inr e)
          · rw [if_neg e]
            have e' : v.f2.length = (rd_T50 st (q : Int)).f1.length := by simpa using e
            exact fits_struct_yes d (by omega) q hq ls v us u w hls hs hv c' e' (fun p => fitsB st en root d p.1.f1.f0 p.1.f1.f1 p.1.f1.f2 p.2) (fun k hk hk2 W uk hW hu => by
              have hg := hG _ (rd_mem31 hq) _ (List.getElem_mem hk)
              exact ih (by omega) _ _ _ _ us uk W hg.1 hg.2 (hs.below hW) hu)
      · rw [if_neg hk]
        exact fits_leaf (d + 1) kd rf ls v us u w hls hk hs hv

/-- What Fits tells. -/
def fitsTop (st : List S50) (en : List S58) (root rec : Int) (v : S29) : Bool := if 0 ≤ rec ∧ rec < st.length then fitsB st en root 12 13 rec 0 v && v.f3 else false
set_option maxHeartbeats 3200000 in
theorem fitstop_any {st : List S50} {en : List S58} {root : Int} (hG : Good st) (rec : Int) (v : S29) (us u : Value) (w : World) (hs : IsS w st en root us) (hv : IsV w v u) :
    Calls Tryd.prog 8 #[us, .int .i64 rec, u] w fun e w' => e = .returned (.bool (fitsTop st en root rec v)) ∧ Below w.heap.size w w' := by
  obtain ⟨r, hr⟩ : ∃ r, fitsTop st en root rec v = r := ⟨_, rfl⟩
  rw [hr]
  obtain ⟨A0, c0, A1, c1, hus, hS⟩ := hs
  obtain ⟨A2, c2, A3, c3, hu, hV⟩ := hv
  have hs : IsS w st en root us := ⟨A0, c0, A1, c1, hus, hS⟩
  have hv : IsV w v u := ⟨A2, c2, A3, c3, hu, hV⟩
  subst hus hu
  have HS := Aside0.mk hs
  have HV := Aside0.mk hv
  obtain ⟨h3, hh3⟩ : ∃ h3, v.f3 = h3 := ⟨_, rfl⟩
  obtain ⟨f, hf⟩ : ∃ f, fitsB st en root 12 13 rec 0 v = f := ⟨_, rfl⟩
  have hrr : r = if 0 ≤ rec ∧ rec < st.length then f && h3 else false := by rw [← hr]; unfold fitsTop; rw [hf, hh3]
  have HF : Aside0 (0 ≤ rec ∧ rec < st.length → ∀ W, Below w.heap.size w W → Calls Tryd.prog 17 #[.agg #[.slice A0 st.length c0, .slice A1 en.length c1, .int .i64 root], tyV 13 rec 0, .agg #[.int .u64 v.f0, .slice A2 v.f1.length c2, .slice A3 v.f2.length c3, .bool h3], .int .i64 12] W fun e w' => e = .returned (.bool f) ∧ Below W.heap.size W w') := ⟨fun hin W hW => by
    have := fits_any (en := en) (root := root) hG 12 (by decide) 13 rec 0 v _ _ W (fun _ => hin) (by decide) (hs.below hW) (hv.below hW)
    rw [hf] at this; rw [← hh3]; exact this⟩
  rw [hh3] at HV ⊢
  obtain ⟨gs, hgs⟩ : ∃ gs, w.heap.size = gs := ⟨_, rfl⟩
  obtain ⟨gv, hgv⟩ : ∃ gv, gs + 1 = gv := ⟨_, rfl⟩
  obtain ⟨w1, hw1⟩ : ∃ w1, (w.alloc (.cells #[.slice A0 st.length c0, .slice A1 en.length c1, .int .i64 root] 34)).alloc (.cells #[.int .u64 v.f0, .slice A2 v.f1.length c2, .slice A3 v.f2.length c3, .bool h3] 29) = w1 := ⟨_, rfl⟩
  have a1 := heap_alloc_new w (.cells #[.slice A0 st.length c0, .slice A1 en.length c1, .int .i64 root] 34)
  have e1 : (w.alloc (.cells #[.slice A0 st.length c0, .slice A1 en.length c1, .int .i64 root] 34)).heap.size = w.heap.size + 1 := by simp
  have b1 := below_alloc (Below.refl (w.alloc (.cells #[.slice A0 st.length c0, .slice A1 en.length c1, .int .i64 root] 34)).heap.size (w.alloc (.cells #[.slice A0 st.length c0, .slice A1 en.length c1, .int .i64 root] 34))) (.cells #[.int .u64 v.f0, .slice A2 v.f1.length c2, .slice A3 v.f2.length c3, .bool h3] 29)
  have a2 := heap_alloc_new (w.alloc (.cells #[.slice A0 st.length c0, .slice A1 en.length c1, .int .i64 root] 34)) (.cells #[.int .u64 v.f0, .slice A2 v.f1.length c2, .slice A3 v.f2.length c3, .bool h3] 29)
  have x1 := (b1.block w.heap.size (by omega)).trans a1
  rw [e1] at a2
  rw [hw1] at a2 x1
  rw [hgs] at a2 x1
  rw [hgv] at a2
  have HX1 := Aside0.mk x1
  have HX2 := Aside0.mk a2
  have HB1 : Aside0 (Below w.heap.size w w1) := ⟨by rw [← hw1]; exact below_alloc (below_alloc (Below.refl _ _) _) _⟩
  have HEQ := Aside0.mk (And.intro hw1 (And.intro hgs hgv))
  have ways : (decide (0 ≤ rec) = false ∧ r = false) ∨ (decide (0 ≤ rec) = true ∧ decide (rec < (st.length : Int)) = false ∧ r = false) ∨
      (decide (0 ≤ rec) = true ∧ decide (rec < (st.length : Int)) = true ∧ (0 ≤ rec ∧ rec < st.length) ∧ f = false ∧ r = false) ∨ (decide (0 ≤ rec) = true ∧ decide (rec < (st.length : Int)) = true ∧ (0 ≤ rec ∧ rec < st.length) ∧ f = true ∧ r = h3) := by
    by_cases p : 0 ≤ rec
    · by_cases p2 : rec < (st.length : Int)
      · rw [if_pos ⟨p, p2⟩] at hrr
        cases f with
        | false => exact .inr (.inr (.inl ⟨decide_eq_true p, decide_eq_true p2, ⟨p, p2⟩, rfl, by simpa using hrr⟩))
        | true => exact .inr (.inr (.inr ⟨decide_eq_true p, decide_eq_true p2, ⟨p, p2⟩, rfl, by simpa using hrr⟩))
      · rw [if_neg (fun h => p2 h.2)] at hrr
        exact .inr (.inl ⟨decide_eq_true p, decide_eq_false p2, hrr⟩)
    · rw [if_neg (fun h => p h.1)] at hrr
      exact .inl ⟨decide_eq_false p, hrr⟩
  clear hs hv hS hV hr hh3 hf hrr hgs hgv hw1 a1 a2 b1 e1 x1
  rcases ways with ⟨q1, rfl⟩ | ⟨q1, q2, rfl⟩ | ⟨q1, q2, q3, rfl, rfl⟩ | ⟨q1, q2, q3, rfl, rfl⟩
  all_goals
    try (have HF2 := Aside0.mk (HF.out q3 w1 HB1.out); clear q3)
    clear HF
    go_enter Tryd.func8, Tryd.ntmps8
    go_upto_region 1 with (fail)
    rw [HEQ.out.1, HEQ.out.2.1, HEQ.out.2.2]
    have s0 : w1.cell? ⟨gs, 0, none⟩ = some (.slice A0 st.length c0) := (blk_cell HX1.out 0).trans rfl
    have s1 : w1.cell? ⟨gs, 1, none⟩ = some (.slice A1 en.length c1) := (blk_cell HX1.out 1).trans rfl
    have s2 : w1.cell? ⟨gs, 2, none⟩ = some (.int .i64 root) := (blk_cell HX1.out 2).trans rfl
    have v0 : w1.cell? ⟨gv, 0, none⟩ = some (.int .u64 v.f0) := (blk_cell HX2.out 0).trans rfl
    have v1 : w1.cell? ⟨gv, 1, none⟩ = some (.slice A2 v.f1.length c2) := (blk_cell HX2.out 1).trans rfl
    have v2 : w1.cell? ⟨gv, 2, none⟩ = some (.slice A3 v.f2.length c3) := (blk_cell HX2.out 2).trans rfl
    have v3 : w1.cell? ⟨gv, 3, none⟩ = some (.bool _) := (blk_cell HX2.out 3).trans rfl
    go_wp2_with (go_at_call 17; (with_reducible refine HF2.out.mono ?_); rintro e w2 ⟨rfl, hb⟩; have y3 := pw_cell_below hb v3; have HB2 := Aside0.mk (below_then HB1.out HB1.out.size hb); clear hb v0 v1 v2 v3)
    go_ret
    first
      | exact ⟨rfl, HB2.out⟩
      | exact ⟨rfl, HB1.out⟩
end Go.Proofs.YthilhndejhnlnaaDoor.Hand
end
