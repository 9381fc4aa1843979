/- Layer 7, view: the walk of fits. -/
import Derived.Test.YthilhndejhnlnaaV1
namespace Go.Proofs.Ythilhndejhnlnaa.Hand
open Go.RowKit Go.Proofs.Ythilhndejhnlnaa.QAll Go.Proofs.YthilhndejhnlnaaW.PrintWords Go.Proofs.YthilhndejhnlnaaW.PrintLast Go.Proofs.YthilhndejhnlnaaW.PrintMore Go.Proofs.Ythilhndejhnlnaa.Runes
set_option linter.unusedVariables false
set_option linter.unusedSimpArgs false

/-- The four boxes of a call. -/
structure Four (w : World) (gs gt gv gd : Nat) (us ts vs : Array Value) (d : Int) : Prop where
  s : w.heap[gs]? = some (.cells us 35 (0, 0))
  t : w.heap[gt]? = some (.cells ts 25 (0, 0))
  v : w.heap[gv]? = some (.cells vs 39 (0, 0))
  d : w.heap[gd]? = some (.cells #[.int .i64 d] 3 (0, 0))
section four
variable {w W : World} {gs gt gv gd : Nat} {us ts vs : Array Value} {d : Int}
theorem Four.below (h : Four w gs gt gv gd us ts vs d) (hb : Below w.heap.size w W) : Four W gs gt gv gd us ts vs d :=
  ⟨(hb.block _ (blk_lt h.s)).trans h.s, (hb.block _ (blk_lt h.t)).trans h.t, (hb.block _ (blk_lt h.v)).trans h.v, (hb.block _ (blk_lt h.d)).trans h.d⟩
theorem Four.cs (h : Four w gs gt gv gd us ts vs d) (i : Nat) {u : Value} (hu : us[i]? = some u) : w.cell? ⟨gs, i, none⟩ = some u := (blk_cell h.s i).trans hu
theorem Four.ct (h : Four w gs gt gv gd us ts vs d) (i : Nat) {u : Value} (hu : ts[i]? = some u) : w.cell? ⟨gt, i, none⟩ = some u := (blk_cell h.t i).trans hu
theorem Four.cv (h : Four w gs gt gv gd us ts vs d) (i : Nat) {u : Value} (hu : vs[i]? = some u) : w.cell? ⟨gv, i, none⟩ = some u := (blk_cell h.v i).trans hu
theorem Four.cd (h : Four w gs gt gv gd us ts vs d) : w.cell? ⟨gd, 0, none⟩ = some (.int .i64 d) := (blk_cell h.d 0).trans rfl
end four
theorem four_new (w : World) (us ts vs : Array Value) (d : Int) {gs gt gv gd : Nat} (h : w.heap.size = gs) (h1 : gs + 1 = gt) (h2 : gt + 1 = gv) (h3 : gv + 1 = gd) :
    Four ((((w.alloc (.cells us 35)).alloc (.cells ts 25)).alloc (.cells vs 39)).alloc (.cells #[.int .i64 d] 3)) gs gt gv gd us ts vs d := by
  subst h h1 h2 h3
  have a1 := heap_alloc_new w (.cells us 35)
  have b1 := below_alloc (Below.refl (w.alloc (.cells us 35)).heap.size (w.alloc (.cells us 35))) (.cells ts 25)
  have a2 := heap_alloc_new (w.alloc (.cells us 35)) (.cells ts 25)
  have b2 := below_alloc (Below.refl ((w.alloc (.cells us 35)).alloc (.cells ts 25)).heap.size ((w.alloc (.cells us 35)).alloc (.cells ts 25))) (.cells vs 39)
  have a3 := heap_alloc_new ((w.alloc (.cells us 35)).alloc (.cells ts 25)) (.cells vs 39)
  have b3 := below_alloc (Below.refl (((w.alloc (.cells us 35)).alloc (.cells ts 25)).alloc (.cells vs 39)).heap.size (((w.alloc (.cells us 35)).alloc (.cells ts 25)).alloc (.cells vs 39))) (.cells #[.int .i64 d] 3)
  have a4 := heap_alloc_new (((w.alloc (.cells us 35)).alloc (.cells ts 25)).alloc (.cells vs 39)) (.cells #[.int .i64 d] 3)
  have e1 : (w.alloc (.cells us 35)).heap.size = w.heap.size + 1 := by simp
  have e2 : ((w.alloc (.cells us 35)).alloc (.cells ts 25)).heap.size = w.heap.size + 1 + 1 := by simp
  have e3 : (((w.alloc (.cells us 35)).alloc (.cells ts 25)).alloc (.cells vs 39)).heap.size = w.heap.size + 1 + 1 + 1 := by simp
  rw [e1] at a2
  rw [e2] at a3
  rw [e3] at a4
  exact ⟨(b3.block _ (by omega)).trans ((b2.block _ (by omega)).trans ((b1.block _ (by omega)).trans a1)), (b3.block _ (by omega)).trans ((b2.block _ (by omega)).trans a2), (b3.block _ (by omega)).trans a3, a4⟩
theorem four_below (w : World) (us ts vs : Array Value) (d : Int) : Below w.heap.size w ((((w.alloc (.cells us 35)).alloc (.cells ts 25)).alloc (.cells vs 39)).alloc (.cells #[.int .i64 d] 3)) :=
  below_alloc (below_alloc (below_alloc (below_alloc (Below.refl _ _) _) _) _) _

set_option maxHeartbeats 3200000 in
theorem fits_leaf {st : List S31} {en : List S61} {root : Int} (d : Nat) (kd rf ls : Int) (v : S39) (us u : Value) (w : World) (hls : ¬ 0 < ls) (hkd : kd ≠ 13) (hs : IsS w st en root us) (hv : IsV w v u) :
    Calls Try.prog 17 #[us, tyV kd rf ls, u, .int .i64 d] w fun e w' => e = .returned (.bool (leafB st en root kd rf ls v)) ∧ Below w.heap.size w w' := by
  obtain ⟨A0, c0, A1, c1, rfl, hS1, hS2, hS3, hS4⟩ := hs
  obtain ⟨A2, c2, A3, c3, rfl, hV1, hV2, hV3, hV4⟩ := hv
  have S1 := Aside0.mk hS1
  have S2 := Aside0.mk hS2
  have S3 := Aside0.mk hS3
  have S4 := Aside0.mk hS4
  have V1 := Aside0.mk hV1
  have V2 := Aside0.mk hV2
  have HMX := Aside0.mk (Kd.C_max hV1)
  have HSZ := Aside0.mk (size_f kd)
  have HNUM := Aside0.mk (num_f st en root kd rf ls v.f0)
  have HTX := Aside0.mk (text_f v.f1 (Kd.C_max hV1))
  have l0 : decide (0 < ls) = false := decide_eq_false hls
  have k13 : (kd == 13) = false := by simpa using hkd
  obtain ⟨r, hr⟩ : ∃ r, leafB st en root kd rf ls v = r := ⟨_, rfl⟩
  rw [hr]
  have hlf : r = if 0 < v.f2.length ∨ v.f3 = true then false else if 0 < szB kd then (v.f1.length == 0 && numB st en root kd rf ls v.f0) else (v.f0 == 0 && (kd == 12 || textB v.f1)) := by rw [← hr]; rfl
  obtain ⟨s, hs⟩ : ∃ s, szB kd = s := ⟨_, rfl⟩
  obtain ⟨m, hm⟩ : ∃ m, numB st en root kd rf ls v.f0 = m := ⟨_, rfl⟩
  obtain ⟨x, hx⟩ : ∃ x, at_ (U v.f1.length v.f1) = x := ⟨_, rfl⟩
  have htb : textB v.f1 = decide (x < 0) := by rw [← hx]; rfl
  rw [hs] at HSZ hlf
  rw [hm] at HNUM hlf
  rw [hx] at HTX
  rw [htb] at hlf
  obtain ⟨h3, hh3⟩ : ∃ h3, v.f3 = h3 := ⟨_, rfl⟩
  rw [hh3] at hlf ⊢
  obtain ⟨gs, hgs⟩ : ∃ gs, w.heap.size = gs := ⟨_, rfl⟩
  obtain ⟨gt, hgt⟩ : ∃ gt, gs + 1 = gt := ⟨_, rfl⟩
  obtain ⟨gv, hgv⟩ : ∃ gv, gt + 1 = gv := ⟨_, rfl⟩
  obtain ⟨gd, hgd⟩ : ∃ gd, gv + 1 = gd := ⟨_, rfl⟩
  have H0 := four_new w #[.slice A0 st.length c0, .slice A1 en.length c1, .int .i64 root] #[.int .u8 kd, .int .i64 rf, .int .i64 ls] #[.int .u64 v.f0, .slice A2 v.f1.length c2, .slice A3 v.f2.length c3, .bool h3] d hgs hgt hgv hgd
  have HB0 := four_below w #[.slice A0 st.length c0, .slice A1 en.length c1, .int .i64 root] #[.int .u8 kd, .int .i64 rf, .int .i64 ls] #[.int .u64 v.f0, .slice A2 v.f1.length c2, .slice A3 v.f2.length c3, .bool h3] d
  obtain ⟨w1, hw1⟩ : ∃ w1, ((((w.alloc (.cells #[.slice A0 st.length c0, .slice A1 en.length c1, .int .i64 root] 35)).alloc (.cells #[.int .u8 kd, .int .i64 rf, .int .i64 ls] 25)).alloc (.cells #[.int .u64 v.f0, .slice A2 v.f1.length c2, .slice A3 v.f2.length c3, .bool h3] 39)).alloc (.cells #[.int .i64 d] 3)) = w1 := ⟨_, rfl⟩
  rw [hw1] at H0 HB0
  have H4 := Aside0.mk H0
  have HB1 := Aside0.mk HB0
  have HEQ := Aside0.mk (And.intro hw1 (And.intro hgs (And.intro hgt (And.intro hgv hgd))))
  clear H0 HB0 hw1 hgs hgt hgv hgd
  have ways : (decide (0 < v.f2.length) = true ∧ decide ((0 : Int) < (v.f2.length : Int)) = true ∧ r = false) ∨
      (decide (0 < v.f2.length) = false ∧ decide ((0 : Int) < (v.f2.length : Int)) = false ∧ h3 = true ∧ r = false) ∨
      (decide (0 < v.f2.length) = false ∧ decide ((0 : Int) < (v.f2.length : Int)) = false ∧ h3 = false ∧ decide (0 < s) = true ∧ (v.f1.length == 0) = false ∧ ((v.f1.length : Int) == 0) = false ∧ r = false) ∨
      (decide (0 < v.f2.length) = false ∧ decide ((0 : Int) < (v.f2.length : Int)) = false ∧ h3 = false ∧ decide (0 < s) = true ∧ (v.f1.length == 0) = true ∧ ((v.f1.length : Int) == 0) = true ∧ r = m) ∨
      (decide (0 < v.f2.length) = false ∧ decide ((0 : Int) < (v.f2.length : Int)) = false ∧ h3 = false ∧ decide (0 < s) = false ∧ (v.f0 == 0) = false ∧ r = false) ∨
      (decide (0 < v.f2.length) = false ∧ decide ((0 : Int) < (v.f2.length : Int)) = false ∧ h3 = false ∧ decide (0 < s) = false ∧ (v.f0 == 0) = true ∧ (kd == 12) = true ∧ r = true) ∨
      (decide (0 < v.f2.length) = false ∧ decide ((0 : Int) < (v.f2.length : Int)) = false ∧ h3 = false ∧ decide (0 < s) = false ∧ (v.f0 == 0) = true ∧ (kd == 12) = false ∧ r = decide (x < 0)) := by
    by_cases p : 0 < v.f2.length
    · left; rw [if_pos (.inl p)] at hlf; exact ⟨decide_eq_true p, decide_eq_true (by omega), hlf⟩
    have p1 := decide_eq_false p
    have p2 : decide ((0 : Int) < (v.f2.length : Int)) = false := decide_eq_false (by omega)
    right
    cases h3 with
    | true => left; rw [if_pos (.inr rfl)] at hlf; exact ⟨p1, p2, rfl, hlf⟩
    | false =>
      right
      rw [if_neg (by rintro (e | e); exact p e; cases e)] at hlf
      by_cases q : 0 < s
      · rw [if_pos q] at hlf
        by_cases b : v.f1.length = 0
        · right; left; rw [b] at hlf ⊢; exact ⟨p1, p2, rfl, decide_eq_true q, rfl, rfl, by simpa using hlf⟩
        · left
          have e : (v.f1.length == 0) = false := by simpa using b
          rw [e] at hlf; exact ⟨p1, p2, rfl, decide_eq_true q, e, by simp only [beq_eq_false_iff_ne]; omega, by simpa using hlf⟩
      · rw [if_neg q] at hlf
        right; right
        cases e : (v.f0 == 0) with
        | false => left; rw [e] at hlf; exact ⟨p1, p2, rfl, decide_eq_false q, rfl, by simpa using hlf⟩
        | true =>
          right; rw [e] at hlf
          cases k : (kd == 12) with
          | true => left; rw [k] at hlf; exact ⟨p1, p2, rfl, decide_eq_false q, rfl, rfl, by simpa using hlf⟩
          | false => right; rw [k] at hlf; exact ⟨p1, p2, rfl, decide_eq_false q, rfl, rfl, by simpa using hlf⟩
  clear hS1 hS2 hS3 hS4 hV1 hV2 hV3 hV4 hr hlf hs hm hx htb hls hkd
  rcases ways with ⟨a1, a2, rfl⟩ | ⟨a1, a2, rfl, rfl⟩ | ⟨a1, a2, rfl, a3, a4, a5, rfl⟩ | ⟨a1, a2, rfl, a3, a4, a5, rfl⟩ | ⟨a1, a2, rfl, a3, a4, rfl⟩ | ⟨a1, a2, rfl, a3, a4, a5, rfl⟩ | ⟨a1, a2, rfl, a3, a4, a5, rfl⟩
  all_goals
    go_enter Try.func17, Try.ntmps17
    go_upto_region 1 with (fail)
    rw [HEQ.out.1, HEQ.out.2.1, HEQ.out.2.2.1, HEQ.out.2.2.2.1, HEQ.out.2.2.2.2]
    have t0 := H4.out.ct 0 rfl
    have t2 := H4.out.ct 2 rfl
    have v0 := H4.out.cv 0 rfl
    have v1 := H4.out.cv 1 rfl
    have v2 := H4.out.cv 2 rfl
    have v3 := H4.out.cv 3 rfl
    go_wp2_with (first
      | (go_at_call 22; (with_reducible refine (wire_Size.calls 6 kd _ _ HSZ.out).mono ?_); rintro e w2 ⟨rfl, hd⟩; have H5 := Aside0.mk (H4.out.below hd.below); have HB2 := Aside0.mk (below_then HB1.out HB1.out.size hd.below); clear hd t0 t2 v0 v1 v2 v3
         have s0 := H5.out.cs 0 rfl; have s1 := H5.out.cs 1 rfl; have s2 := H5.out.cs 2 rfl; have t0 := H5.out.ct 0 rfl; have t1 := H5.out.ct 1 rfl; have t2 := H5.out.ct 2 rfl; have v0 := H5.out.cv 0 rfl; have v1 := H5.out.cv 1 rfl)
      | (go_at_call 27; have hx := schema_Fits.calls 10 A0 c0 st A1 c1 en root kd rf ls v.f0 _ w2 (Kd.C_below S1.out HB2.out) S2.out (Kd.C_below S3.out HB2.out) S4.out HNUM.out; (with_reducible refine hx.mono ?_); clear hx; rintro e w3 ⟨rfl, hd⟩; have HB3 := Aside0.mk (below_then HB2.out HB2.out.size hd); clear hd)
      | (go_at_call 28; have hx := wire_Utf8.calls _ A2 c2 v.f1 _ w2 (Kd.C_below V1.out HB2.out) V2.out HTX.out; (with_reducible refine hx.mono ?_); clear hx; rintro e w3 ⟨rfl, hd⟩; have HB3 := Aside0.mk (below_then HB2.out HB2.out.size hd.below); clear hd))
    go_ret
    first
      | exact ⟨rfl, HB3.out⟩
      | exact ⟨rfl, HB2.out⟩
      | exact ⟨rfl, HB1.out⟩
end Go.Proofs.Ythilhndejhnlnaa.Hand
