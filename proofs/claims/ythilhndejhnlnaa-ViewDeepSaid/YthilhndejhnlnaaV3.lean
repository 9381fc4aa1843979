/- Layer 7, view: the walk of fits, of lists and structs. -/
import Derived.Test.YthilhndejhnlnaaV2
namespace Go.Proofs.Ythilhndejhnlnaa.Hand
open Go.RowKit Go.Proofs.Ythilhndejhnlnaa.QAll Go.Proofs.YthilhndejhnlnaaW.PrintWords Go.Proofs.YthilhndejhnlnaaW.PrintLast Go.Proofs.YthilhndejhnlnaaW.PrintMore Go.Proofs.Ythilhndejhnlnaa.Runes
set_option linter.unusedVariables false
set_option linter.unusedSimpArgs false

/-- The type's lists set anew. -/
theorem Four.sett {w : World} {gs gt gv gd : Nat} {us ts vs : Array Value} {d : Int} (h : Four w gs gt gv gd us ts vs d) (hn : gs < gt ∧ gt < gv ∧ gv < gd) (i : Nat) (u : Value) :
    Four (w.setCell ⟨gt, i, none⟩ u) gs gt gv gd us (ts.setIfInBounds i u) vs d :=
  ⟨(Below.heap_setCell w ⟨gt, i, none⟩ u gs (by show gs ≠ gt; omega)).trans h.s, blk_set h.t i u, (Below.heap_setCell w ⟨gt, i, none⟩ u gv (by show gv ≠ gt; omega)).trans h.v, (Below.heap_setCell w ⟨gt, i, none⟩ u gd (by show gd ≠ gt; omega)).trans h.d⟩
theorem Four.boxes {w : World} {gs gt gv gd : Nat} {a b c : Value} {kd rf ls : Int} {vs : Array Value} {d : Int} (h : Four w gs gt gv gd #[a, b, c] #[.int .u8 kd, .int .i64 rf, .int .i64 ls] vs d) : Boxes w gs gt gd (.agg #[a, b, c]) kd rf ls d :=
  ⟨⟨a, b, c, rfl, h.s⟩, h.t, h.d⟩

set_option maxHeartbeats 6400000 in
theorem fits_list_no {st : List S31} {en : List S61} {root : Int} (d : Nat) (kd rf ls : Int) (v : S39) (us u : Value) (w : World) (hls : 0 < ls) (hs : IsS w st en root us) (hv : IsV w v u)
    (hno : (d = 0 ∧ 0 < v.f2.length) ∨ v.f0 ≠ 0 ∨ 0 < v.f1.length ∨ v.f3 = true) :
    Calls Try.prog 17 #[us, tyV kd rf ls, u, .int .i64 d] w fun e w' => e = .returned (.bool false) ∧ Below w.heap.size w w' := by
  obtain ⟨A0, c0, A1, c1, rfl, hS1, hS2, hS3, hS4⟩ := hs
  obtain ⟨A2, c2, A3, c3, rfl, hV1, hV2, hV3, hV4⟩ := hv
  have l0 : decide (0 < ls) = true := decide_eq_true hls
  obtain ⟨h3, hh3⟩ : ∃ h3, v.f3 = h3 := ⟨_, rfl⟩
  rw [hh3] at hno ⊢
  obtain ⟨gs, hgs⟩ : ∃ gs, w.heap.size = gs := ⟨_, rfl⟩
  obtain ⟨gt, hgt⟩ : ∃ gt, gs + 1 = gt := ⟨_, rfl⟩
  obtain ⟨gv, hgv⟩ : ∃ gv, gt + 1 = gv := ⟨_, rfl⟩
  obtain ⟨gd, hgd⟩ : ∃ gd, gv + 1 = gd := ⟨_, rfl⟩
  have H0 := four_new w #[.slice A0 st.length c0, .slice A1 en.length c1, .int .i64 root] #[.int .u8 kd, .int .i64 rf, .int .i64 ls] #[.int .u64 v.f0, .slice A2 v.f1.length c2, .slice A3 v.f2.length c3, .bool h3] d hgs hgt hgv hgd
  have HB0 := four_below w #[.slice A0 st.length c0, .slice A1 en.length c1, .int .i64 root] #[.int .u8 kd, .int .i64 rf, .int .i64 ls] #[.int .u64 v.f0, .slice A2 v.f1.length c2, .slice A3 v.f2.length c3, .bool h3] d
  obtain ⟨w1, hw1⟩ : ∃ w1, ((((w.alloc (.cells #[.slice A0 st.length c0, .slice A1 en.length c1, .int .i64 root] 35)).alloc (.cells #[.int .u8 kd, .int .i64 rf, .int .i64 ls] 25)).alloc (.cells #[.int .u64 v.f0, .slice A2 v.f1.length c2, .slice A3 v.f2.length c3, .bool h3] 39)).alloc (.cells #[.int .i64 d] 3)) = w1 := ⟨_, rfl⟩
  rw [hw1] at H0 HB0
  have H4 := Aside0.mk H0
  have HB1 := Aside0.mk HB0
  have HNE : Aside0 (w.heap.size ≤ gs ∧ gs < gt ∧ gt < gv ∧ gv < gd) := ⟨by omega⟩
  have HEQ := Aside0.mk (And.intro hw1 (And.intro hgs (And.intro hgt (And.intro hgv hgd))))
  clear H0 HB0 hw1 hgs hgt hgv hgd
  have one : ∀ {a b : Prop} [Decidable a] [Decidable b], True := trivial
  have ways : (d = 0 ∧ 0 < v.f2.length) ∨ ((0 < d) ∧ v.f0 ≠ 0) ∨ (d = 0 ∧ v.f2.length = 0 ∧ v.f0 ≠ 0) ∨ ((0 < d) ∧ v.f0 = 0 ∧ 0 < v.f1.length) ∨ (d = 0 ∧ v.f2.length = 0 ∧ v.f0 = 0 ∧ 0 < v.f1.length) ∨
      ((0 < d) ∧ v.f0 = 0 ∧ v.f1.length = 0 ∧ h3 = true) ∨ (d = 0 ∧ v.f2.length = 0 ∧ v.f0 = 0 ∧ v.f1.length = 0 ∧ h3 = true) := by
    rcases Nat.eq_zero_or_pos d with e | e
    · rcases Nat.eq_zero_or_pos v.f2.length with f | f
      · by_cases g : v.f0 = 0
        · rcases Nat.eq_zero_or_pos v.f1.length with i | i
          · rcases hno with ⟨_, x⟩ | x | x | x
            · omega
            · exact absurd g x
            · omega
            · exact .inr (.inr (.inr (.inr (.inr (.inr ⟨e, f, g, i, x⟩)))))
          · exact .inr (.inr (.inr (.inr (.inl ⟨e, f, g, i⟩))))
        · exact .inr (.inr (.inl ⟨e, f, g⟩))
      · exact .inl ⟨e, f⟩
    · by_cases g : v.f0 = 0
      · rcases Nat.eq_zero_or_pos v.f1.length with i | i
        · rcases hno with ⟨x, _⟩ | x | x | x
          · omega
          · exact absurd g x
          · omega
          · exact .inr (.inr (.inr (.inr (.inr (.inl ⟨e, g, i, x⟩)))))
        · exact .inr (.inr (.inr (.inl ⟨e, g, i⟩)))
      · exact .inr (.inl ⟨e, g⟩)
  have dz : ∀ {k : Nat}, k = 0 → decide ((k : Int) < 1) = true ∧ decide (k < 1) = true := fun h => ⟨decide_eq_true (by omega), decide_eq_true (by omega)⟩
  have dp : ∀ {k : Nat}, 0 < k → decide ((k : Int) < 1) = false ∧ decide (k < 1) = false := fun h => ⟨decide_eq_false (by omega), decide_eq_false (by omega)⟩
  have nz : ∀ {k : Nat}, k = 0 → decide ((0 : Int) < (k : Int)) = false ∧ decide (0 < k) = false := fun h => ⟨decide_eq_false (by omega), decide_eq_false (by omega)⟩
  have np : ∀ {k : Nat}, 0 < k → decide ((0 : Int) < (k : Int)) = true ∧ decide (0 < k) = true := fun h => ⟨decide_eq_true (by omega), decide_eq_true (by omega)⟩
  have xz : v.f0 = 0 → (v.f0 != 0) = false := fun h => by simp [h]
  have xp : v.f0 ≠ 0 → (v.f0 != 0) = true := fun h => by simp [h]
  have facts : (decide ((d : Int) < 1) = true ∧ decide (d < 1) = true ∧ decide ((0 : Int) < (v.f2.length : Int)) = true ∧ decide (0 < v.f2.length) = true) ∨
      ((decide ((d : Int) < 1) = false ∧ decide (d < 1) = false) ∧ (v.f0 != 0) = true) ∨
      ((decide ((d : Int) < 1) = true ∧ decide (d < 1) = true ∧ decide ((0 : Int) < (v.f2.length : Int)) = false ∧ decide (0 < v.f2.length) = false) ∧ (v.f0 != 0) = true) ∨
      ((decide ((d : Int) < 1) = false ∧ decide (d < 1) = false) ∧ (v.f0 != 0) = false ∧ decide ((0 : Int) < (v.f1.length : Int)) = true ∧ decide (0 < v.f1.length) = true) ∨
      ((decide ((d : Int) < 1) = true ∧ decide (d < 1) = true ∧ decide ((0 : Int) < (v.f2.length : Int)) = false ∧ decide (0 < v.f2.length) = false) ∧ (v.f0 != 0) = false ∧ decide ((0 : Int) < (v.f1.length : Int)) = true ∧ decide (0 < v.f1.length) = true) ∨
      ((decide ((d : Int) < 1) = false ∧ decide (d < 1) = false) ∧ (v.f0 != 0) = false ∧ (decide ((0 : Int) < (v.f1.length : Int)) = false ∧ decide (0 < v.f1.length) = false) ∧ h3 = true) ∨
      ((decide ((d : Int) < 1) = true ∧ decide (d < 1) = true ∧ decide ((0 : Int) < (v.f2.length : Int)) = false ∧ decide (0 < v.f2.length) = false) ∧ (v.f0 != 0) = false ∧ (decide ((0 : Int) < (v.f1.length : Int)) = false ∧ decide (0 < v.f1.length) = false) ∧ h3 = true) := by
    rcases ways with ⟨e, f⟩ | ⟨e, f⟩ | ⟨e, f, g⟩ | ⟨e, f, g⟩ | ⟨e, f, g, i⟩ | ⟨e, f, g, i⟩ | ⟨e, f, g, i, j⟩
    · exact .inl ⟨(dz e).1, (dz e).2, (np f).1, (np f).2⟩
    · exact .inr (.inl ⟨dp e, xp f⟩)
    · exact .inr (.inr (.inl ⟨⟨(dz e).1, (dz e).2, (nz f).1, (nz f).2⟩, xp g⟩))
    · exact .inr (.inr (.inr (.inl ⟨dp e, xz f, (np g).1, (np g).2⟩)))
    · exact .inr (.inr (.inr (.inr (.inl ⟨⟨(dz e).1, (dz e).2, (nz f).1, (nz f).2⟩, xz g, (np i).1, (np i).2⟩))))
    · exact .inr (.inr (.inr (.inr (.inr (.inl ⟨dp e, xz f, nz g, i⟩)))))
    · exact .inr (.inr (.inr (.inr (.inr (.inr ⟨⟨(dz e).1, (dz e).2, (nz f).1, (nz f).2⟩, xz g, nz i, j⟩)))))
  clear dz dp nz np xz xp ways hno hls hh3 hS1 hS2 hS3 hS4 hV1 hV2 hV3 hV4 one
  rcases facts with ⟨a1, a2, a3, a4⟩ | ⟨⟨a1, a2⟩, a3⟩ | ⟨⟨a1, a2, a3, a4⟩, a5⟩ | ⟨⟨a1, a2⟩, a3, a4, a5⟩ | ⟨⟨a1, a2, a3, a4⟩, a5, a6, a7⟩ | ⟨⟨a1, a2⟩, a3, ⟨a4, a5⟩, rfl⟩ | ⟨⟨a1, a2, a3, a4⟩, a5, ⟨a6, a7⟩, rfl⟩
  all_goals
    go_enter Try.func17, Try.ntmps17
    go_upto_region 1 with (fail)
    rw [HEQ.out.1, HEQ.out.2.1, HEQ.out.2.2.1, HEQ.out.2.2.2.1, HEQ.out.2.2.2.2]
    have t2 := H4.out.ct 2 rfl
    have d0 := H4.out.cd
    have v0 := H4.out.cv 0 rfl
    have v1 := H4.out.cv 1 rfl
    have v2 := H4.out.cv 2 rfl
    have v3 := H4.out.cv 3 rfl
    go_wp2_with (fail)
    go_ret
    exact ⟨rfl, HB1.out⟩

set_option maxHeartbeats 6400000 in
theorem fits_list_yes {st : List S31} {en : List S61} {root : Int} (d : Nat) (hd : d ≤ 1000) (kd rf ls : Int) (v : S39) (us u : Value) (w : World) (hls : 0 < ls) (hl2 : ls ≤ 9223372036854775807) (hs : IsS w st en root us) (hv : IsV w v u) (b : Bool)
    (hyes : v.f0 = 0 ∧ v.f1.length = 0 ∧ v.f3 = false)
    (hin : (v.f2.length = 0 ∧ b = true) ∨ ∃ (d' : Nat) (Q : S39 → Bool), d = d' + 1 ∧ (v.f2.any fun x => !Q x || lackB kd (ls - 1) x) = !b ∧ ∀ x ∈ v.f2, ∀ W uk, Below w.heap.size w W → IsV W x uk → Calls Try.prog 17 #[us, tyV kd rf (ls - 1), uk, .int .i64 d'] W fun e W' => e = .returned (.bool (Q x)) ∧ Below W.heap.size W W') :
    Calls Try.prog 17 #[us, tyV kd rf ls, u, .int .i64 d] w fun e w' => e = .returned (.bool b) ∧ Below w.heap.size w w' := by
  obtain ⟨A0, c0, A1, c1, rfl, hS1, hS2, hS3, hS4⟩ := hs
  obtain ⟨A2, c2, A3, c3, rfl, hV1, hV2, hV3, hV4⟩ := hv
  have V3 := Aside0.mk hV3
  have V4 := Aside0.mk hV4
  have l0 : decide (0 < ls) = true := decide_eq_true hls
  have wl : IntKind.i64.wrap (ls - 1) = ls - 1 := by rw [IntKind.wrap_i64]; omega
  obtain ⟨y0, y1, y3⟩ := hyes
  obtain ⟨h3, hh3⟩ : ∃ h3, v.f3 = h3 := ⟨_, rfl⟩
  rw [hh3] at y3 ⊢
  obtain ⟨gs, hgs⟩ : ∃ gs, w.heap.size = gs := ⟨_, rfl⟩
  obtain ⟨gt, hgt⟩ : ∃ gt, gs + 1 = gt := ⟨_, rfl⟩
  obtain ⟨gv, hgv⟩ : ∃ gv, gt + 1 = gv := ⟨_, rfl⟩
  obtain ⟨gd, hgd⟩ : ∃ gd, gv + 1 = gd := ⟨_, rfl⟩
  have H0 := four_new w #[.slice A0 st.length c0, .slice A1 en.length c1, .int .i64 root] #[.int .u8 kd, .int .i64 rf, .int .i64 ls] #[.int .u64 v.f0, .slice A2 v.f1.length c2, .slice A3 v.f2.length c3, .bool h3] d hgs hgt hgv hgd
  have HB0 := four_below w #[.slice A0 st.length c0, .slice A1 en.length c1, .int .i64 root] #[.int .u8 kd, .int .i64 rf, .int .i64 ls] #[.int .u64 v.f0, .slice A2 v.f1.length c2, .slice A3 v.f2.length c3, .bool h3] d
  obtain ⟨w1, hw1⟩ : ∃ w1, ((((w.alloc (.cells #[.slice A0 st.length c0, .slice A1 en.length c1, .int .i64 root] 35)).alloc (.cells #[.int .u8 kd, .int .i64 rf, .int .i64 ls] 25)).alloc (.cells #[.int .u64 v.f0, .slice A2 v.f1.length c2, .slice A3 v.f2.length c3, .bool h3] 39)).alloc (.cells #[.int .i64 d] 3)) = w1 := ⟨_, rfl⟩
  rw [hw1] at H0 HB0
  have H4 := Aside0.mk H0
  have HB1 := Aside0.mk HB0
  have HNE : Aside0 (w.heap.size ≤ gs ∧ gs < gt ∧ gt < gv ∧ gv < gd) := ⟨by omega⟩
  have HEQ := Aside0.mk (And.intro hw1 (And.intro hgs (And.intro hgt (And.intro hgv hgd))))
  clear H0 HB0 hw1 hgs hgt hgv hgd
  have HCALL : Aside0 (∀ w2, Below w.heap.size w w2 → Four w2 gs gt gv gd #[.slice A0 st.length c0, .slice A1 en.length c1, .int .i64 root] #[.int .u8 kd, .int .i64 rf, .int .i64 (ls - 1)] #[.int .u64 v.f0, .slice A2 v.f1.length c2, .slice A3 v.f2.length c3, .bool h3] d →
      Calls Try.prog 25 #[.slice A3 v.f2.length c3, .func (.func 26) #[] #[.pointer (some ⟨gs, 0, none⟩), .pointer (some ⟨gt, 0, none⟩), .pointer (some ⟨gd, 0, none⟩)]] w2 fun e w' => e = .returned (.bool (!b)) ∧ Below w2.heap.size w2 w') := ⟨fun w2 hb hf => by
    rcases hin with ⟨h0, hb1⟩ | ⟨d', Q, hdd, hany, hin⟩
    · have hnil : v.f2 = [] := List.eq_nil_of_length_eq_zero h0
      exact contains_any A3 c3 v.f2 _ _ _ (fun _ => false) (!b) (by rw [hnil, hb1]; rfl) w2 (Kd.C_below V3.out hb) V4.out (fun x hx => by rw [hnil] at hx; cases hx)
    · refine contains_any A3 c3 v.f2 _ _ _ (fun x => !Q x || lackB kd (ls - 1) x) (!b) hany w2 (Kd.C_below V3.out hb) V4.out (fun x hx W uk hW hu => ?_)
      have hbx := (hf.boxes).below hW
      have e1 : ((d : Nat) : Int) = (d' : Int) + 1 := by omega
      rw [e1] at hbx
      exact closure_any (st := st) (en := en) (root := root) kd rf (ls - 1) d' (by omega) _ x (Q x) uk W gs gt gd hbx hu (fun W2 hW2 => hin x hx W2 uk (below_then (below_then hb hb.size hW) (Nat.le_trans hb.size hW.size) hW2) (hu.below hW2))⟩
  have xz : (v.f0 != 0) = false := by simp [y0]
  have b1 : decide ((0 : Int) < (v.f1.length : Int)) = false := decide_eq_false (by omega)
  have b2 : decide (0 < v.f1.length) = false := decide_eq_false (by omega)
  have two : (decide ((d : Int) < 1) = true ∧ decide (d < 1) = true ∧ decide ((0 : Int) < (v.f2.length : Int)) = false ∧ decide (0 < v.f2.length) = false) ∨ (decide ((d : Int) < 1) = false ∧ decide (d < 1) = false) := by
    by_cases e : d = 0
    · left
      have hz : v.f2.length = 0 := by
        rcases hin with ⟨h0, _⟩ | ⟨d', Q, hdd, _⟩
        · exact h0
        · omega
      exact ⟨decide_eq_true (by omega), decide_eq_true (by omega), decide_eq_false (by omega), decide_eq_false (by omega)⟩
    · right; exact ⟨decide_eq_false (by omega), decide_eq_false (by omega)⟩
  have hmf : ∀ (fn : Fn) (first cap : Array Value) (w : World), (Instr.makeFunc fn first cap).run Try.prog w = .ok (.func fn first cap) w := fun _ _ _ _ => rfl
  subst y3
  clear hin hls hl2 hh3 hS1 hS2 hS3 hS4 hV1 hV2 hV3 hV4 y0 y1 hd
  rcases two with ⟨a1, a2, a3, a4⟩ | ⟨a1, a2⟩
  all_goals
    go_enter Try.func17, Try.ntmps17
    go_upto_region 1 with (fail)
    rw [HEQ.out.1, HEQ.out.2.1, HEQ.out.2.2.1, HEQ.out.2.2.2.1, HEQ.out.2.2.2.2]
    have t2 := H4.out.ct 2 rfl
    have t2f := blk_frozen H4.out.t 2
    have d0 := H4.out.cd
    have v0 := H4.out.cv 0 rfl
    have v1 := H4.out.cv 1 rfl
    have v2 := H4.out.cv 2 rfl
    have v3 := H4.out.cv 3 rfl
    go_upto_region 5 with (fail)
    obtain ⟨w2, hw2⟩ : ∃ w2, w1.setCell ⟨gt, 2, none⟩ (.int .i64 (ls - 1)) = w2 := ⟨_, rfl⟩
    have H5 : Aside0 (Four w2 gs gt gv gd #[.slice A0 st.length c0, .slice A1 en.length c1, .int .i64 root] #[.int .u8 kd, .int .i64 rf, .int .i64 (ls - 1)] #[.int .u64 v.f0, .slice A2 v.f1.length c2, .slice A3 v.f2.length c3, .bool false] d) := ⟨by rw [← hw2]; exact H4.out.sett HNE.out.2 2 _⟩
    have HB2 : Aside0 (Below w.heap.size w w2) := ⟨by rw [← hw2]; exact Below.setCell HB1.out (p := ⟨gt, 2, none⟩) (by have := HNE.out; show w.heap.size ≤ gt; omega) _⟩
    rw [hw2]
    clear hw2 t2 t2f v0 v1 v2 v3 d0
    have v2 := H5.out.cv 2 rfl
    go_wp2_with (go_at_call 25; (with_reducible refine (HCALL.out w2 HB2.out H5.out).mono ?_); rintro e w3 ⟨rfl, hb⟩; have HB3 := Aside0.mk (below_then HB2.out HB2.out.size hb); clear hb)
    go_ret
    exact ⟨by simp, HB3.out⟩
end Go.Proofs.Ythilhndejhnlnaa.Hand
