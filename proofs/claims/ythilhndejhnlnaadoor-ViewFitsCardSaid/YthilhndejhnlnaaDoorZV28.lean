/- Texts joined: W3. -/
import Derived.Test.YthilhndejhnlnaaDoorZV26
import Derived.Test.YthilhndejhnlnaaDoorZV27
section
/- The document's Value: of lists: the walk. -/
namespace Go.Proofs.YthilhndejhnlnaaDoor.Hand
open Go.RowKit Go.Proofs.YthilhndejhnlnaaDoor.QAll Go.Proofs.YthilhndejhnlnaaDoorW.PrintWords Go.Proofs.YthilhndejhnlnaaDoorW.PrintLast Go.Proofs.YthilhndejhnlnaaDoorW.PrintMore Go.Proofs.YthilhndejhnlnaaDoor.Runes Go.Proofs.YthilhndejhnlnaaDoor.Mk
set_option linter.unusedVariables false
set_option linter.unusedSimpArgs false
theorem all_take {α : Type} {xs : List α} {P : α → Bool} {i : Nat} (hi : i < xs.length) : (xs.take (i + 1)).all P = ((xs.take i).all P && P xs[i]) := by
  rw [List.take_succ_eq_append_getElem hi, List.all_append]; simp
theorem all_at {α : Type} {xs : List α} {P : α → Bool} {i : Nat} (hi : i < xs.length) (h : P xs[i] = false) : xs.all P = false := by
  rw [List.all_eq_false]; exact ⟨xs[i], List.getElem_mem hi, by rw [h]; decide⟩
set_option maxHeartbeats 6400000 in
set_option maxRecDepth 100000 in
theorem refval_list_no {st : List S50} {en : List S58} {root : Int} (d kd rf ls : Int) (v : S29) (us u : Value) (w : World) (hl : 0 < ls) (hs : IsS w st en root us) (hv : IsV w v u)
    (hno : v.f0 ≠ 0 ∨ 0 < v.f1.length ∨ v.f3 = true ∨ (0 < v.f2.length ∧ d < 1)) :
    Calls Tryd.prog 18 #[us, tyV kd rf ls, u, .int .i64 d] w fun e w' => e = .returned (.bool false) ∧ Below w.heap.size w w' := by
  obtain ⟨A0, c0, A1, c1, rfl, -⟩ := hs
  obtain ⟨A2, c2, A3, c3, rfl, -⟩ := hv
  obtain ⟨w1, gs, gt, gv, hw1, hgs, hgt, hgv, H, HB⟩ := thr_new w #[.slice A0 st.length c0, .slice A1 en.length c1, .int .i64 root] #[.int .u8 kd, .int .i64 rf, .int .i64 ls] #[.int .u64 v.f0, .slice A2 v.f1.length c2, .slice A3 v.f2.length c3, .bool v.f3]
  have HEQ := Aside0.mk (And.intro hw1 (And.intro hgs (And.intro hgt hgv)))
  have HB1 := Aside0.mk HB
  have H4 := Aside0.mk H
  have l0 : decide (0 < ls) = true := decide_eq_true hl
  obtain ⟨h3, hh3⟩ : ∃ h3, v.f3 = h3 := ⟨_, rfl⟩
  rw [hh3] at hno H4 HEQ ⊢
  have ways : ((v.f0 != 0) = true) ∨ ((v.f0 != 0) = false ∧ (decide ((0 : Int) < (v.f1.length : Int)) = true ∧ decide (0 < v.f1.length) = true)) ∨
      ((v.f0 != 0) = false ∧ (decide ((0 : Int) < (v.f1.length : Int)) = false ∧ decide (0 < v.f1.length) = false) ∧ h3 = true) ∨
      ((v.f0 != 0) = false ∧ (decide ((0 : Int) < (v.f1.length : Int)) = false ∧ decide (0 < v.f1.length) = false) ∧ h3 = false ∧ (decide ((0 : Int) < (v.f2.length : Int)) = true ∧ decide (0 < v.f2.length) = true) ∧ decide (d < 1) = true) := by
    by_cases a : v.f0 = 0
    · right
      have a1 : (v.f0 != 0) = false := by simp [a]
      rcases Nat.eq_zero_or_pos v.f1.length with f | f
      · right
        have f1 : (decide ((0 : Int) < (v.f1.length : Int)) = false ∧ decide (0 < v.f1.length) = false) := ⟨decide_eq_false (by omega), decide_eq_false (by omega)⟩
        cases h3 with
        | true => left; exact ⟨a1, f1, rfl⟩
        | false =>
          right
          rcases hno with x | x | x | x
          · exact absurd a x
          · omega
          · cases x
          · exact ⟨a1, f1, rfl, ⟨decide_eq_true (by omega), decide_eq_true x.1⟩, decide_eq_true x.2⟩
      · left; exact ⟨a1, decide_eq_true (by omega), decide_eq_true f⟩
    · left; simp [a]
  clear hno hh3 hl H HB hw1 hgs hgt hgv
  rcases ways with a1 | ⟨a1, a2, a3⟩ | ⟨a1, ⟨a2, a3⟩, rfl⟩ | ⟨a1, ⟨a2, a3⟩, rfl, ⟨a4, a5⟩, a6⟩
  all_goals
    go_enter Tryd.func18, Tryd.ntmps18
    go_upto_region 1 with (fail)
    rw [HEQ.out.1, HEQ.out.2.1, HEQ.out.2.2.1, HEQ.out.2.2.2]
    have t2 := H4.out.ct 2 rfl
    have v0 := H4.out.cv 0 rfl
    have v1 := H4.out.cv 1 rfl
    have v2 := H4.out.cv 2 rfl
    have v3 := H4.out.cv 3 rfl
    go_wp2_with (fail)
    go_ret
    exact ⟨rfl, HB1.out⟩
set_option maxHeartbeats 6400000 in
set_option maxRecDepth 100000 in
theorem refval_list {st : List S50} {en : List S58} {root : Int} (d kd rf ls : Int) (v : S29) (us u : Value) (w : World) (hl : 0 < ls) (hl3 : ls ≤ 3) (hlen : v.f2.length ≤ 100000) (hd9 : 0 ≤ d ∧ d ≤ 1000) (hs : IsS w st en root us) (hv : IsV w v u)
    (hyes : v.f0 = 0 ∧ v.f1.length = 0 ∧ v.f3 = false) (hd : v.f2.length = 0 ∨ 0 < d) (Q : S29 → Bool)
    (hin : ∀ x ∈ v.f2, ∀ W uk, Below w.heap.size w W → IsV W x uk → Calls Tryd.prog 18 #[us, tyV kd rf (ls - 1), uk, .int .i64 (d - 1)] W fun e W' => e = .returned (.bool (Q x)) ∧ Below W.heap.size W W') :
    Calls Tryd.prog 18 #[us, tyV kd rf ls, u, .int .i64 d] w fun e w' => e = .returned (.bool (v.f2.all fun x => Q x && !lackB kd (ls - 1) x)) ∧ Below w.heap.size w w' := by
  obtain ⟨A0, c0, A1, c1, rfl, -⟩ := hs
  obtain ⟨A2, c2, A3, c3, rfl, hV1, hV2, hV3, hV4⟩ := hv
  obtain ⟨w1, gs, gt, gv, hw1, hgs, hgt, hgv, H, HB⟩ := thr_new w #[.slice A0 st.length c0, .slice A1 en.length c1, .int .i64 root] #[.int .u8 kd, .int .i64 rf, .int .i64 ls] #[.int .u64 v.f0, .slice A2 v.f1.length c2, .slice A3 v.f2.length c3, .bool v.f3]
  obtain ⟨ge, hge⟩ : ∃ ge, w1.heap.size = ge := ⟨_, rfl⟩
  obtain ⟨w2, hw2⟩ : ∃ w2, w1.alloc (.cells #[.int .u8 kd, .int .i64 rf, .int .i64 ls] 45) = w2 := ⟨_, rfl⟩
  obtain ⟨w3, hw3⟩ : ∃ w3, w2.setCell ⟨ge, 2, none⟩ (.int .i64 (ls - 1)) = w3 := ⟨_, rfl⟩
  have b2 : Below w1.heap.size w1 w2 := by rw [← hw2]; exact below_alloc (Below.refl _ _) _
  have b3 : Below w1.heap.size w1 w3 := by rw [← hw3]; exact Below.setCell b2 (by show w1.heap.size ≤ ge; omega) _
  have a2 : w2.heap[ge]? = some (.cells #[.int .u8 kd, .int .i64 rf, .int .i64 ls] 45 (0, 0)) := by rw [← hw2, ← hge]; exact heap_alloc_new w1 _
  have a3 : w3.heap[ge]? = some (.cells #[.int .u8 kd, .int .i64 rf, .int .i64 (ls - 1)] 45 (0, 0)) := by rw [← hw3]; exact blk_set a2 2 _
  have HEQ := Aside0.mk (And.intro hw1 (And.intro hgs (And.intro hgt hgv)))
  have HEQ2 := Aside0.mk (And.intro hge (And.intro hw2 hw3))
  have HB1 := Aside0.mk (below_then HB HB.size b3)
  have H4 := Aside0.mk H
  have E2 := Aside0.mk a2
  have l0 : decide (0 < ls) = true := decide_eq_true hl
  have wl : IntKind.i64.wrap (ls - 1) = ls - 1 := by rw [IntKind.wrap_i64]; omega
  have wd : IntKind.i64.wrap (d - 1) = d - 1 := by rw [IntKind.wrap_i64]; omega
  obtain ⟨y0, y1, y3⟩ := hyes
  have a1 : (v.f0 != 0) = false := by simp [y0]
  have a4 : decide ((0 : Int) < (v.f1.length : Int)) = false := decide_eq_false (by omega)
  have a5 : decide (0 < v.f1.length) = false := decide_eq_false (by omega)
  rw [y3] at H H4 HEQ ⊢
  have HCELL : Aside0 (∀ W, Below w3.heap.size w3 W → W.cell? ⟨gs, 0, none⟩ = some (.slice A0 st.length c0) ∧ W.cell? ⟨gs, 1, none⟩ = some (.slice A1 en.length c1) ∧ W.cell? ⟨gs, 2, none⟩ = some (.int .i64 root) ∧ W.cell? ⟨ge, 0, none⟩ = some (.int .u8 kd) ∧ W.cell? ⟨ge, 1, none⟩ = some (.int .i64 rf) ∧ W.cell? ⟨ge, 2, none⟩ = some (.int .i64 (ls - 1)) ∧ W.cell? ⟨gv, 2, none⟩ = some (.slice A3 v.f2.length c3)) := ⟨fun W hW => by
    have h := (H.below b3).below hW
    have e := (hW.block _ (blk_lt a3)).trans a3
    exact ⟨h.cs 0 rfl, h.cs 1 rfl, h.cs 2 rfl, (blk_cell e 0).trans rfl, (blk_cell e 1).trans rfl, (blk_cell e 2).trans rfl, h.cv 2 rfl⟩⟩
  have V3 := Aside0.mk hV3
  have HIN := Aside0.mk hin
  have HLEN := Aside0.mk hlen
  have HD := Aside0.mk hd
  obtain ⟨P, hP⟩ : ∃ P : S29 → Bool, (fun x => Q x && !lackB kd (ls - 1) x) = P := ⟨_, rfl⟩
  have HP : Aside0 (∀ x, P x = (Q x && !(ls - 1 == 0 && kd == 13 && !x.f3))) := ⟨fun x => by rw [← hP]; rfl⟩
  rw [hP]
  have two : (decide ((0 : Int) < (v.f2.length : Int)) = false ∧ decide (0 < v.f2.length) = false) ∨ ((decide ((0 : Int) < (v.f2.length : Int)) = true ∧ decide (0 < v.f2.length) = true) ∧ decide (d < 1) = false) := by
    rcases Nat.eq_zero_or_pos v.f2.length with f | f
    · left; exact ⟨decide_eq_false (by omega), decide_eq_false (by omega)⟩
    · right; exact ⟨⟨decide_eq_true (by omega), decide_eq_true f⟩, decide_eq_false (by omega)⟩
  clear hP hV1 hV2 hV3 hV4 hin hlen hd H HB b2 b3 a2 a3 hw1 hgs hgt hgv hge hw2 hw3 y0 y1 y3 hl
  rcases two with ⟨k1, k2⟩ | ⟨⟨k1, k2⟩, k3⟩
  all_goals
    have HZ := Aside0.mk k2
    go_enter Tryd.func18, Tryd.ntmps18
    go_upto_region 1 with (fail)
    rw [HEQ.out.1, HEQ.out.2.1, HEQ.out.2.2.1, HEQ.out.2.2.2]
    have t0 := H4.out.ct 0 rfl
    have t1 := H4.out.ct 1 rfl
    have t2 := H4.out.ct 2 rfl
    have v0 := H4.out.cv 0 rfl
    have v1 := H4.out.cv 1 rfl
    have v2 := H4.out.cv 2 rfl
    have v3 := H4.out.cv 3 rfl
    go_upto_region 5 with (fail)
    rw [HEQ2.out.1, HEQ2.out.2.1]
    clear t0 t1 t2 v0 v1 v2 v3 k1 k2
    have e2 : w2.cell? ⟨ge, 2, none⟩ = some (.int .i64 ls) := (blk_cell E2.out 2).trans rfl
    have e2f := blk_frozen E2.out 2
    go_upto_region 6 with (fail)
    rw [HEQ2.out.2.2]
    clear e2 e2f
    go_wp2_with (fail)
    go_loopg [10] (v.f2.length + 1) (fun kq v10 wr => ∃ (k : Nat), v10 = .int .i64 k ∧ Aside0 (k ≤ v.f2.length) ∧ Aside0 (v.f2.length < kq + k) ∧ Aside0 (Below w3.heap.size w3 wr) ∧ Aside0 ((v.f2.take k).all P = true))
    case atStart => exact ⟨0, rfl, ⟨Nat.zero_le _⟩, ⟨by omega⟩, ⟨Below.refl _ _⟩, ⟨by simp⟩⟩
    case round =>
      obtain ⟨k, rfl, HK, HKQ, HWR, HALL⟩ := hrel
      obtain ⟨m, rfl⟩ : ∃ m, gk = m + 1 := ⟨gk - 1, by have := HKQ.out; have := HK.out; omega⟩
      by_cases q : k < v.f2.length
      · first
          | (exact absurd (decide_eq_true (show 0 < v.f2.length by omega)) (by rw [HZ.out]; decide))
          | (have d1 : decide (k < v.f2.length) = true := decide_eq_true q
             have d2 : decide ((k : Int) < (v.f2.length : Int)) = true := decide_eq_true (by omega)
             have kb9 : k ≤ 100000 := by have := HLEN.out; omega
             obtain ⟨av, A10, c10, A11, c11, rfl, x0, x1, x2, x3, hvk⟩ := kid_at V3.out k q
             have HPK : Aside0 (∃ h : k < v.f2.length, v.f2[k] = v.f2[k]) := ⟨⟨q, rfl⟩⟩
             have HX := Aside0.mk (fun (W : World) (hW : Below w.heap.size w W) => HIN.out _ (List.getElem_mem q) W _ hW (hvk.below hW))
             have HTK := Aside0.mk (all_take (P := P) q)
             have HAT := Aside0.mk (all_at (P := P) q)
             have HPX := Aside0.mk (HP.out v.f2[k])
             obtain ⟨x, hx⟩ : ∃ x, v.f2[k] = x := ⟨_, rfl⟩
             obtain ⟨b, hb⟩ : ∃ b, Q x = b := ⟨_, rfl⟩
             obtain ⟨z, hz⟩ : ∃ z, (ls - 1 == 0) = z := ⟨_, rfl⟩
             obtain ⟨y, hy⟩ : ∃ y, (kd == 13) = y := ⟨_, rfl⟩
             obtain ⟨h, hh⟩ : ∃ h, x.f3 = h := ⟨_, rfl⟩
             rw [hx] at x0 x1 x2 x3 HX HTK HAT HPX
             rw [hb] at HX HPX
             rw [hz, hy, hh] at HPX
             rw [hh] at x3 HX
             have HN := Aside0.mk (And.intro x0 (And.intro x1 (And.intro x2 x3)))
             have HW9 : Aside0 (Below w.heap.size w wr) := ⟨below_then HB1.out HB1.out.size HWR.out⟩
             have HCEL : Aside0 (∀ W, Below wr.heap.size wr W → W.cell? ⟨gs, 0, none⟩ = some (.slice A0 st.length c0) ∧ W.cell? ⟨gs, 1, none⟩ = some (.slice A1 en.length c1) ∧ W.cell? ⟨gs, 2, none⟩ = some (.int .i64 root) ∧ W.cell? ⟨ge, 0, none⟩ = some (.int .u8 kd) ∧ W.cell? ⟨ge, 1, none⟩ = some (.int .i64 rf) ∧ W.cell? ⟨ge, 2, none⟩ = some (.int .i64 (ls - 1)) ∧ W.cell? ⟨gv, 2, none⟩ = some (.slice (some av) v.f2.length c3) ∧ W.cell? (av.add (k * 4)) = some (.int .u64 x.f0) ∧ W.cell? ⟨(av.add (k * 4)).block, (av.add (k * 4)).off + 1, none⟩ = some (.slice A10 x.f1.length c10) ∧ W.cell? ⟨(av.add (k * 4)).block, (av.add (k * 4)).off + 2, none⟩ = some (.slice A11 x.f2.length c11) ∧ W.cell? ⟨(av.add (k * 4)).block, (av.add (k * 4)).off + 3, none⟩ = some (.bool h)) := ⟨fun W hW => by
               have h1 := below_then HWR.out HWR.out.size hW
               have h2 := below_then HW9.out HW9.out.size hW
               obtain ⟨s0, s1, s2, e0, e1, e2, v2⟩ := HCELL.out W h1
               exact ⟨s0, s1, s2, e0, e1, e2, v2, pw_cell_below h2 HN.out.1, pw_cell_below h2 HN.out.2.1, pw_cell_below h2 HN.out.2.2.1, pw_cell_below h2 HN.out.2.2.2⟩⟩
             have HXW : Aside0 (∀ W, Below wr.heap.size wr W → Calls Tryd.prog 18 #[.agg #[.slice A0 st.length c0, .slice A1 en.length c1, .int .i64 root], tyV kd rf (ls - 1), .agg #[.int .u64 x.f0, .slice A10 x.f1.length c10, .slice A11 x.f2.length c11, .bool h], .int .i64 (d - 1)] W fun e W' => e = .returned (.bool b) ∧ Below W.heap.size W W') := ⟨fun W hW => HX.out W (below_then HW9.out HW9.out.size hW)⟩
             obtain ⟨s0, s1, s2, e0, e1, e2, v2, n0, n1, n2, n3⟩ := HCEL.out wr (Below.refl _ _)
             have ways : (b = false) ∨ (b = true ∧ z = false) ∨ (b = true ∧ z = true ∧ y = false) ∨ (b = true ∧ z = true ∧ y = true ∧ (!h) = false) ∨ (b = true ∧ z = true ∧ y = true ∧ (!h) = true) := by
               cases b <;> cases z <;> cases y <;> cases h <;> simp
             clear hvk x0 x1 x2 x3 hx hb hh HN HX HPK
             rcases ways with rfl | ⟨rfl, rfl⟩ | ⟨rfl, rfl, rfl⟩ | ⟨rfl, rfl, rfl, hnh⟩ | ⟨rfl, rfl, rfl, hnh⟩
             · go_upto_region 9 with (fail)
               refine wp_region_held_drew (S := (fun W => W.cell? ⟨gs, 0, none⟩ = some (.slice A0 st.length c0) ∧ W.cell? ⟨gs, 1, none⟩ = some (.slice A1 en.length c1) ∧ W.cell? ⟨gs, 2, none⟩ = some (.int .i64 root) ∧ W.cell? ⟨ge, 0, none⟩ = some (.int .u8 kd) ∧ W.cell? ⟨ge, 1, none⟩ = some (.int .i64 rf) ∧ W.cell? ⟨ge, 2, none⟩ = some (.int .i64 (ls - 1)) ∧ W.cell? ⟨gv, 2, none⟩ = some (.slice (some av) v.f2.length c3) ∧ W.cell? (av.add (k * 4)) = some (.int .u64 x.f0) ∧ W.cell? ⟨(av.add (k * 4)).block, (av.add (k * 4)).off + 1, none⟩ = some (.slice A10 x.f1.length c10) ∧ W.cell? ⟨(av.add (k * 4)).block, (av.add (k * 4)).off + 2, none⟩ = some (.slice A11 x.f2.length c11) ∧ W.cell? ⟨(av.add (k * 4)).block, (av.add (k * 4)).off + 3, none⟩ = some (.bool h))) (by kernel_rfl) (HCEL.out wr.drew (below_drew (Below.refl _ _))) (fun hHeld => ?_)
               refine wpAnyH_take (i := 0) (v := ?vA0) rfl (by kernel_rfl) (by kernel_rfl) (by kernel_rfl) (fun _ _ _ h => h) (Or.inl ⟨by kernel_rfl, ?hyA0⟩) (by assumption) ?restA0
               case hyA0 => (intro w hSw; (try dsimp only at hSw); go_simp; (try with_reducible rfl))
               try simp only [Act.put, List.getElem_toArray, List.getElem_cons_zero, List.getElem_cons_succ, List.setIfInBounds_toArray, List.set_cons_zero, List.set_cons_succ]
               refine wpAnyH_take (i := 1) (v := ?vA1) rfl (by kernel_rfl) (by kernel_rfl) (by kernel_rfl) (fun _ _ _ h => h) (Or.inl ⟨by kernel_rfl, ?hyA1⟩) (by assumption) ?restA1
               case hyA1 => (intro w hSw; (try dsimp only at hSw); go_simp; (try with_reducible rfl))
               try simp only [Act.put, List.getElem_toArray, List.getElem_cons_zero, List.getElem_cons_succ, List.setIfInBounds_toArray, List.set_cons_zero, List.set_cons_succ]
               refine wpAnyH_take (i := 2) (v := ?vA2) rfl (by kernel_rfl) (by kernel_rfl) (by kernel_rfl) (fun _ _ _ h => h) (Or.inl ⟨by kernel_rfl, ?hyA2⟩) (by assumption) ?restA2
               case hyA2 => (intro w hSw; (try dsimp only at hSw); go_simp; (try with_reducible rfl))
               try simp only [Act.put, List.getElem_toArray, List.getElem_cons_zero, List.getElem_cons_succ, List.setIfInBounds_toArray, List.set_cons_zero, List.set_cons_succ]
               refine wpAnyH_take (i := 3) (v := ?vA3) rfl (by kernel_rfl) (by kernel_rfl) (by kernel_rfl) (fun _ _ _ h => h) (Or.inl ⟨by kernel_rfl, ?hyA3⟩) (by assumption) ?restA3
               case hyA3 => (intro w hSw; (try dsimp only at hSw); go_simp; (try with_reducible rfl))
               try simp only [Act.put, List.getElem_toArray, List.getElem_cons_zero, List.getElem_cons_succ, List.setIfInBounds_toArray, List.set_cons_zero, List.set_cons_succ]
               refine wpAnyH_take (i := 4) (v := ?vA4) rfl (by kernel_rfl) (by kernel_rfl) (by kernel_rfl) (fun _ _ _ h => h) (Or.inl ⟨by kernel_rfl, ?hyA4⟩) (by assumption) ?restA4
               case hyA4 => (intro w hSw; (try dsimp only at hSw); go_simp; (try with_reducible rfl))
               try simp only [Act.put, List.getElem_toArray, List.getElem_cons_zero, List.getElem_cons_succ, List.setIfInBounds_toArray, List.set_cons_zero, List.set_cons_succ]
               refine wpAnyH_take (i := 5) (v := ?vA5) rfl (by kernel_rfl) (by kernel_rfl) (by kernel_rfl) (fun _ _ _ h => h) (Or.inl ⟨by kernel_rfl, ?hyA5⟩) (by assumption) ?restA5
               case hyA5 => (intro w hSw; (try dsimp only at hSw); go_simp; (try with_reducible rfl))
               try simp only [Act.put, List.getElem_toArray, List.getElem_cons_zero, List.getElem_cons_succ, List.setIfInBounds_toArray, List.set_cons_zero, List.set_cons_succ]
               refine wpAnyH_take (i := 6) (v := ?vA6) rfl (by kernel_rfl) (by kernel_rfl) (by kernel_rfl) (fun _ _ _ h => h) (Or.inl ⟨by kernel_rfl, ?hyA6⟩) (by assumption) ?restA6
               case hyA6 => (intro w hSw; (try dsimp only at hSw); go_simp; (try with_reducible rfl))
               try simp only [Act.put, List.getElem_toArray, List.getElem_cons_zero, List.getElem_cons_succ, List.setIfInBounds_toArray, List.set_cons_zero, List.set_cons_succ]
               refine wpAnyH_take (i := 7) (v := ?vA7) rfl (by kernel_rfl) (by kernel_rfl) (by kernel_rfl) (fun _ _ _ h => h) (Or.inl ⟨by kernel_rfl, ?hyA7⟩) (by assumption) ?restA7
               case hyA7 => (intro w hSw; (try dsimp only at hSw); go_simp; (try with_reducible rfl))
               try simp only [Act.put, List.getElem_toArray, List.getElem_cons_zero, List.getElem_cons_succ, List.setIfInBounds_toArray, List.set_cons_zero, List.set_cons_succ]
               refine wpAnyH_take (i := 8) (v := ?vA8) rfl (by kernel_rfl) (by kernel_rfl) (by kernel_rfl) (fun _ _ _ h => h) (Or.inl ⟨by kernel_rfl, ?hyA8⟩) (by assumption) ?restA8
               case hyA8 => (intro w hSw; (try dsimp only at hSw); go_simp; (try with_reducible rfl))
               try simp only [Act.put, List.getElem_toArray, List.getElem_cons_zero, List.getElem_cons_succ, List.setIfInBounds_toArray, List.set_cons_zero, List.set_cons_succ]
               refine wpAnyH_ready (rs := [9]) (by kernel_rfl) (by simp) ?_
               refine AllReadyH.cons rfl (fun K hK => ?_) AllReadyH.nil
               go_simp
               go_at_call 18; (with_reducible refine (HXW.out wr.drew (below_drew (Below.refl _ _))).mono ?_); rintro e wa ⟨rfl, hb⟩; have HBA := Aside0.mk (below_then (below_drew (Below.refl wr.heap.size wr)) (Nat.le_refl _) hb); clear hb
               refine hK.out _ _ (HCEL.out wa HBA.out) (fun hHeld2 => ?_)
               clear hK K hHeld
               try simp only [Act.put, List.getElem_toArray, List.getElem_cons_zero, List.getElem_cons_succ, List.setIfInBounds_toArray, List.set_cons_zero, List.set_cons_succ]
               refine wpAnyH_take (i := 10) (v := ?vA10) rfl (by kernel_rfl) (by kernel_rfl) (by kernel_rfl) (fun _ _ _ h => h) (Or.inl ⟨by kernel_rfl, ?hyA10⟩) (by assumption) ?restA10
               case hyA10 => (intro w hSw; (try dsimp only at hSw); go_simp; (try with_reducible rfl))
               try simp only [Act.put, List.getElem_toArray, List.getElem_cons_zero, List.getElem_cons_succ, List.setIfInBounds_toArray, List.set_cons_zero, List.set_cons_succ]
               refine wpAnyH_take (i := 11) (v := ?vA11) rfl (by kernel_rfl) (by kernel_rfl) (by kernel_rfl) (fun _ _ _ h => h) (Or.inl ⟨by kernel_rfl, ?hyA11⟩) (by assumption) ?restA11
               case hyA11 => (intro w hSw; (try dsimp only at hSw); go_simp; (try with_reducible rfl))
               try simp only [Act.put, List.getElem_toArray, List.getElem_cons_zero, List.getElem_cons_succ, List.setIfInBounds_toArray, List.set_cons_zero, List.set_cons_succ]
               refine wpAnyH_take (i := 12) (v := undef) rfl (by kernel_rfl) (by kernel_rfl) (by kernel_rfl) (fun _ _ _ h => h) (Or.inr ⟨by kernel_rfl, rfl⟩) (by assumption) ?restA12
               try simp only [Act.put, List.getElem_toArray, List.getElem_cons_zero, List.getElem_cons_succ, List.setIfInBounds_toArray, List.set_cons_zero, List.set_cons_succ]
               refine wpAnyH_take (i := 13) (v := undef) rfl (by kernel_rfl) (by kernel_rfl) (by kernel_rfl) (fun _ _ _ h => h) (Or.inr ⟨by kernel_rfl, rfl⟩) (by assumption) ?restA13
               try simp only [Act.put, List.getElem_toArray, List.getElem_cons_zero, List.getElem_cons_succ, List.setIfInBounds_toArray, List.set_cons_zero, List.set_cons_succ]
               refine wpAnyH_take (i := 14) (v := undef) rfl (by kernel_rfl) (by kernel_rfl) (by kernel_rfl) (fun _ _ _ h => h) (Or.inr ⟨by kernel_rfl, rfl⟩) (by assumption) ?restA14
               try simp only [Act.put, List.getElem_toArray, List.getElem_cons_zero, List.getElem_cons_succ, List.setIfInBounds_toArray, List.set_cons_zero, List.set_cons_succ]
               refine wpAnyH_take (i := 15) (v := undef) rfl (by kernel_rfl) (by kernel_rfl) (by kernel_rfl) (fun _ _ _ h => h) (Or.inr ⟨by kernel_rfl, rfl⟩) (by assumption) ?restA15
               try simp only [Act.put, List.getElem_toArray, List.getElem_cons_zero, List.getElem_cons_succ, List.setIfInBounds_toArray, List.set_cons_zero, List.set_cons_succ]
               refine wpAnyH_take (i := 16) (v := undef) rfl (by kernel_rfl) (by kernel_rfl) (by kernel_rfl) (fun _ _ _ h => h) (Or.inr ⟨by kernel_rfl, rfl⟩) (by assumption) ?restA16
               try simp only [Act.put, List.getElem_toArray, List.getElem_cons_zero, List.getElem_cons_succ, List.setIfInBounds_toArray, List.set_cons_zero, List.set_cons_succ]
               refine wpAnyH_take (i := 17) (v := undef) rfl (by kernel_rfl) (by kernel_rfl) (by kernel_rfl) (fun _ _ _ h => h) (Or.inr ⟨by kernel_rfl, rfl⟩) (by assumption) ?restA17
               try simp only [Act.put, List.getElem_toArray, List.getElem_cons_zero, List.getElem_cons_succ, List.setIfInBounds_toArray, List.set_cons_zero, List.set_cons_succ]
               refine wpAnyH_take (i := 18) (v := undef) rfl (by kernel_rfl) (by kernel_rfl) (by kernel_rfl) (fun _ _ _ h => h) (Or.inr ⟨by kernel_rfl, rfl⟩) (by assumption) ?restA18
               try simp only [Act.put, List.getElem_toArray, List.getElem_cons_zero, List.getElem_cons_succ, List.setIfInBounds_toArray, List.set_cons_zero, List.set_cons_succ]
               refine wpAnyH_take (i := 19) (v := undef) rfl (by kernel_rfl) (by kernel_rfl) (by kernel_rfl) (fun _ _ _ h => h) (Or.inr ⟨by kernel_rfl, rfl⟩) (by assumption) ?restA19
               try simp only [Act.put, List.getElem_toArray, List.getElem_cons_zero, List.getElem_cons_succ, List.setIfInBounds_toArray, List.set_cons_zero, List.set_cons_succ]
               refine wpAnyH_take (i := 20) (v := undef) rfl (by kernel_rfl) (by kernel_rfl) (by kernel_rfl) (fun _ _ _ h => h) (Or.inr ⟨by kernel_rfl, rfl⟩) (by assumption) ?restA20
               try simp only [Act.put, List.getElem_toArray, List.getElem_cons_zero, List.getElem_cons_succ, List.setIfInBounds_toArray, List.set_cons_zero, List.set_cons_succ]
               refine wpAnyH_take (i := 21) (v := undef) rfl (by kernel_rfl) (by kernel_rfl) (by kernel_rfl) (fun _ _ _ h => h) (Or.inr ⟨by kernel_rfl, rfl⟩) (by assumption) ?restA21
               try simp only [Act.put, List.getElem_toArray, List.getElem_cons_zero, List.getElem_cons_succ, List.setIfInBounds_toArray, List.set_cons_zero, List.set_cons_succ]
               refine wpAnyH_take (i := 22) (v := undef) rfl (by kernel_rfl) (by kernel_rfl) (by kernel_rfl) (fun _ _ _ h => h) (Or.inr ⟨by kernel_rfl, rfl⟩) (by assumption) ?restA22
               try simp only [Act.put, List.getElem_toArray, List.getElem_cons_zero, List.getElem_cons_succ, List.setIfInBounds_toArray, List.set_cons_zero, List.set_cons_succ]
               refine wpAnyH_take (i := 23) (v := undef) rfl (by kernel_rfl) (by kernel_rfl) (by kernel_rfl) (fun _ _ _ h => h) (Or.inr ⟨by kernel_rfl, rfl⟩) (by assumption) ?restA23
               try simp only [Act.put, List.getElem_toArray, List.getElem_cons_zero, List.getElem_cons_succ, List.setIfInBounds_toArray, List.set_cons_zero, List.set_cons_succ]
               refine wpAnyH_take (i := 24) (v := undef) rfl (by kernel_rfl) (by kernel_rfl) (by kernel_rfl) (fun _ _ _ h => h) (Or.inr ⟨by kernel_rfl, rfl⟩) (by assumption) ?restA24
               try simp only [Act.put, List.getElem_toArray, List.getElem_cons_zero, List.getElem_cons_succ, List.setIfInBounds_toArray, List.set_cons_zero, List.set_cons_succ]
               refine wpAnyH_take (i := 25) (v := undef) rfl (by kernel_rfl) (by kernel_rfl) (by kernel_rfl) (fun _ _ _ h => h) (Or.inr ⟨by kernel_rfl, rfl⟩) (by assumption) ?restA25
               try simp only [Act.put, List.getElem_toArray, List.getElem_cons_zero, List.getElem_cons_succ, List.setIfInBounds_toArray, List.set_cons_zero, List.set_cons_succ]
               refine wpAnyH_take (i := 26) (v := undef) rfl (by kernel_rfl) (by kernel_rfl) (by kernel_rfl) (fun _ _ _ h => h) (Or.inr ⟨by kernel_rfl, rfl⟩) (by assumption) ?restA26
               try simp only [Act.put, List.getElem_toArray, List.getElem_cons_zero, List.getElem_cons_succ, List.setIfInBounds_toArray, List.set_cons_zero, List.set_cons_succ]
               refine wpAnyH_take (i := 27) (v := undef) rfl (by kernel_rfl) (by kernel_rfl) (by kernel_rfl) (fun _ _ _ h => h) (Or.inr ⟨by kernel_rfl, rfl⟩) (by assumption) ?restA27
               try simp only [Act.put, List.getElem_toArray, List.getElem_cons_zero, List.getElem_cons_succ, List.setIfInBounds_toArray, List.set_cons_zero, List.set_cons_succ]
               refine wpAnyH_take (i := 28) (v := undef) rfl (by kernel_rfl) (by kernel_rfl) (by kernel_rfl) (fun _ _ _ h => h) (Or.inr ⟨by kernel_rfl, rfl⟩) (by assumption) ?restA28
               try simp only [Act.put, List.getElem_toArray, List.getElem_cons_zero, List.getElem_cons_succ, List.setIfInBounds_toArray, List.set_cons_zero, List.set_cons_succ]
               refine wpAnyH_take (i := 29) (v := ?vA29) rfl (by kernel_rfl) (by kernel_rfl) (by kernel_rfl) (fun _ _ _ h => h) (Or.inl ⟨by kernel_rfl, ?hyA29⟩) (by assumption) ?restA29
               case hyA29 => (intro w hSw; (try dsimp only at hSw); go_simp; (try with_reducible rfl))
               try simp only [Act.put, List.getElem_toArray, List.getElem_cons_zero, List.getElem_cons_succ, List.setIfInBounds_toArray, List.set_cons_zero, List.set_cons_succ]
               refine wpAnyH_done (by kernel_rfl) ?_ _
               go_wp2_with (fail)
               go_ret
               exact ⟨by rw [HAT.out (by rw [HPX.out]; first | rfl | (rw [hnh]; rfl))]; rfl, below_then HW9.out HW9.out.size HBA.out⟩
             · go_upto_region 9 with (fail)
               refine wp_region_held_drew (S := (fun W => W.cell? ⟨gs, 0, none⟩ = some (.slice A0 st.length c0) ∧ W.cell? ⟨gs, 1, none⟩ = some (.slice A1 en.length c1) ∧ W.cell? ⟨gs, 2, none⟩ = some (.int .i64 root) ∧ W.cell? ⟨ge, 0, none⟩ = some (.int .u8 kd) ∧ W.cell? ⟨ge, 1, none⟩ = some (.int .i64 rf) ∧ W.cell? ⟨ge, 2, none⟩ = some (.int .i64 (ls - 1)) ∧ W.cell? ⟨gv, 2, none⟩ = some (.slice (some av) v.f2.length c3) ∧ W.cell? (av.add (k * 4)) = some (.int .u64 x.f0) ∧ W.cell? ⟨(av.add (k * 4)).block, (av.add (k * 4)).off + 1, none⟩ = some (.slice A10 x.f1.length c10) ∧ W.cell? ⟨(av.add (k * 4)).block, (av.add (k * 4)).off + 2, none⟩ = some (.slice A11 x.f2.length c11) ∧ W.cell? ⟨(av.add (k * 4)).block, (av.add (k * 4)).off + 3, none⟩ = some (.bool h))) (by kernel_rfl) (HCEL.out wr.drew (below_drew (Below.refl _ _))) (fun hHeld => ?_)
               refine wpAnyH_take (i := 0) (v := ?vB0) rfl (by kernel_rfl) (by kernel_rfl) (by kernel_rfl) (fun _ _ _ h => h) (Or.inl ⟨by kernel_rfl, ?hyB0⟩) (by assumption) ?restB0
               case hyB0 => (intro w hSw; (try dsimp only at hSw); go_simp; (try with_reducible rfl))
               try simp only [Act.put, List.getElem_toArray, List.getElem_cons_zero, List.getElem_cons_succ, List.setIfInBounds_toArray, List.set_cons_zero, List.set_cons_succ]
               refine wpAnyH_take (i := 1) (v := ?vB1) rfl (by kernel_rfl) (by kernel_rfl) (by kernel_rfl) (fun _ _ _ h => h) (Or.inl ⟨by kernel_rfl, ?hyB1⟩) (by assumption) ?restB1
               case hyB1 => (intro w hSw; (try dsimp only at hSw); go_simp; (try with_reducible rfl))
               try simp only [Act.put, List.getElem_toArray, List.getElem_cons_zero, List.getElem_cons_succ, List.setIfInBounds_toArray, List.set_cons_zero, List.set_cons_succ]
               refine wpAnyH_take (i := 2) (v := ?vB2) rfl (by kernel_rfl) (by kernel_rfl) (by kernel_rfl) (fun _ _ _ h => h) (Or.inl ⟨by kernel_rfl, ?hyB2⟩) (by assumption) ?restB2
               case hyB2 => (intro w hSw; (try dsimp only at hSw); go_simp; (try with_reducible rfl))
               try simp only [Act.put, List.getElem_toArray, List.getElem_cons_zero, List.getElem_cons_succ, List.setIfInBounds_toArray, List.set_cons_zero, List.set_cons_succ]
               refine wpAnyH_take (i := 3) (v := ?vB3) rfl (by kernel_rfl) (by kernel_rfl) (by kernel_rfl) (fun _ _ _ h => h) (Or.inl ⟨by kernel_rfl, ?hyB3⟩) (by assumption) ?restB3
               case hyB3 => (intro w hSw; (try dsimp only at hSw); go_simp; (try with_reducible rfl))
               try simp only [Act.put, List.getElem_toArray, List.getElem_cons_zero, List.getElem_cons_succ, List.setIfInBounds_toArray, List.set_cons_zero, List.set_cons_succ]
               refine wpAnyH_take (i := 4) (v := ?vB4) rfl (by kernel_rfl) (by kernel_rfl) (by kernel_rfl) (fun _ _ _ h => h) (Or.inl ⟨by kernel_rfl, ?hyB4⟩) (by assumption) ?restB4
               case hyB4 => (intro w hSw; (try dsimp only at hSw); go_simp; (try with_reducible rfl))
               try simp only [Act.put, List.getElem_toArray, List.getElem_cons_zero, List.getElem_cons_succ, List.setIfInBounds_toArray, List.set_cons_zero, List.set_cons_succ]
               refine wpAnyH_take (i := 5) (v := ?vB5) rfl (by kernel_rfl) (by kernel_rfl) (by kernel_rfl) (fun _ _ _ h => h) (Or.inl ⟨by kernel_rfl, ?hyB5⟩) (by assumption) ?restB5
               case hyB5 => (intro w hSw; (try dsimp only at hSw); go_simp; (try with_reducible rfl))
               try simp only [Act.put, List.getElem_toArray, List.getElem_cons_zero, List.getElem_cons_succ, List.setIfInBounds_toArray, List.set_cons_zero, List.set_cons_succ]
               refine wpAnyH_take (i := 6) (v := ?vB6) rfl (by kernel_rfl) (by kernel_rfl) (by kernel_rfl) (fun _ _ _ h => h) (Or.inl ⟨by kernel_rfl, ?hyB6⟩) (by assumption) ?restB6
               case hyB6 => (intro w hSw; (try dsimp only at hSw); go_simp; (try with_reducible rfl))
               try simp only [Act.put, List.getElem_toArray, List.getElem_cons_zero, List.getElem_cons_succ, List.setIfInBounds_toArray, List.set_cons_zero, List.set_cons_succ]
               refine wpAnyH_take (i := 7) (v := ?vB7) rfl (by kernel_rfl) (by kernel_rfl) (by kernel_rfl) (fun _ _ _ h => h) (Or.inl ⟨by kernel_rfl, ?hyB7⟩) (by assumption) ?restB7
               case hyB7 => (intro w hSw; (try dsimp only at hSw); go_simp; (try with_reducible rfl))
               try simp only [Act.put, List.getElem_toArray, List.getElem_cons_zero, List.getElem_cons_succ, List.setIfInBounds_toArray, List.set_cons_zero, List.set_cons_succ]
               refine wpAnyH_take (i := 8) (v := ?vB8) rfl (by kernel_rfl) (by kernel_rfl) (by kernel_rfl) (fun _ _ _ h => h) (Or.inl ⟨by kernel_rfl, ?hyB8⟩) (by assumption) ?restB8
               case hyB8 => (intro w hSw; (try dsimp only at hSw); go_simp; (try with_reducible rfl))
               try simp only [Act.put, List.getElem_toArray, List.getElem_cons_zero, List.getElem_cons_succ, List.setIfInBounds_toArray, List.set_cons_zero, List.set_cons_succ]
               refine wpAnyH_ready (rs := [9]) (by kernel_rfl) (by simp) ?_
               refine AllReadyH.cons rfl (fun K hK => ?_) AllReadyH.nil
               go_simp
               go_at_call 18; (with_reducible refine (HXW.out wr.drew (below_drew (Below.refl _ _))).mono ?_); rintro e wa ⟨rfl, hb⟩; have HBA := Aside0.mk (below_then (below_drew (Below.refl wr.heap.size wr)) (Nat.le_refl _) hb); clear hb
               refine hK.out _ _ (HCEL.out wa HBA.out) (fun hHeld2 => ?_)
               clear hK K hHeld
               try simp only [Act.put, List.getElem_toArray, List.getElem_cons_zero, List.getElem_cons_succ, List.setIfInBounds_toArray, List.set_cons_zero, List.set_cons_succ]
               refine wpAnyH_take (i := 10) (v := ?vB10) rfl (by kernel_rfl) (by kernel_rfl) (by kernel_rfl) (fun _ _ _ h => h) (Or.inl ⟨by kernel_rfl, ?hyB10⟩) (by assumption) ?restB10
               case hyB10 => (intro w hSw; (try dsimp only at hSw); go_simp; (try with_reducible rfl))
               try simp only [Act.put, List.getElem_toArray, List.getElem_cons_zero, List.getElem_cons_succ, List.setIfInBounds_toArray, List.set_cons_zero, List.set_cons_succ]
               refine wpAnyH_take (i := 11) (v := ?vB11) rfl (by kernel_rfl) (by kernel_rfl) (by kernel_rfl) (fun _ _ _ h => h) (Or.inl ⟨by kernel_rfl, ?hyB11⟩) (by assumption) ?restB11
               case hyB11 => (intro w hSw; (try dsimp only at hSw); go_simp; (try with_reducible rfl))
               try simp only [Act.put, List.getElem_toArray, List.getElem_cons_zero, List.getElem_cons_succ, List.setIfInBounds_toArray, List.set_cons_zero, List.set_cons_succ]
               refine wpAnyH_take (i := 12) (v := ?vB12) rfl (by kernel_rfl) (by kernel_rfl) (by kernel_rfl) (fun _ _ _ h => h) (Or.inl ⟨by kernel_rfl, ?hyB12⟩) (by assumption) ?restB12
               case hyB12 => (intro w hSw; (try dsimp only at hSw); go_simp; (try with_reducible rfl))
               try simp only [Act.put, List.getElem_toArray, List.getElem_cons_zero, List.getElem_cons_succ, List.setIfInBounds_toArray, List.set_cons_zero, List.set_cons_succ]
               refine wpAnyH_take (i := 13) (v := ?vB13) rfl (by kernel_rfl) (by kernel_rfl) (by kernel_rfl) (fun _ _ _ h => h) (Or.inl ⟨by kernel_rfl, ?hyB13⟩) (by assumption) ?restB13
               case hyB13 => (intro w hSw; (try dsimp only at hSw); go_simp; (try with_reducible rfl))
               try simp only [Act.put, List.getElem_toArray, List.getElem_cons_zero, List.getElem_cons_succ, List.setIfInBounds_toArray, List.set_cons_zero, List.set_cons_succ]
               refine wpAnyH_take (i := 14) (v := ?vB14) rfl (by kernel_rfl) (by kernel_rfl) (by kernel_rfl) (fun _ _ _ h => h) (Or.inl ⟨by kernel_rfl, ?hyB14⟩) (by assumption) ?restB14
               case hyB14 => (intro w hSw; (try dsimp only at hSw); go_simp; (try with_reducible rfl))
               try simp only [Act.put, List.getElem_toArray, List.getElem_cons_zero, List.getElem_cons_succ, List.setIfInBounds_toArray, List.set_cons_zero, List.set_cons_succ]
               refine wpAnyH_take (i := 15) (v := ?vB15) rfl (by kernel_rfl) (by kernel_rfl) (by kernel_rfl) (fun _ _ _ h => h) (Or.inl ⟨by kernel_rfl, ?hyB15⟩) (by assumption) ?restB15
               case hyB15 => (intro w hSw; (try dsimp only at hSw); go_simp; (try with_reducible rfl))
               try simp only [Act.put, List.getElem_toArray, List.getElem_cons_zero, List.getElem_cons_succ, List.setIfInBounds_toArray, List.set_cons_zero, List.set_cons_succ]
               refine wpAnyH_take (i := 16) (v := undef) rfl (by kernel_rfl) (by kernel_rfl) (by kernel_rfl) (fun _ _ _ h => h) (Or.inr ⟨by kernel_rfl, rfl⟩) (by assumption) ?restB16
               try simp only [Act.put, List.getElem_toArray, List.getElem_cons_zero, List.getElem_cons_succ, List.setIfInBounds_toArray, List.set_cons_zero, List.set_cons_succ]
               refine wpAnyH_take (i := 17) (v := undef) rfl (by kernel_rfl) (by kernel_rfl) (by kernel_rfl) (fun _ _ _ h => h) (Or.inr ⟨by kernel_rfl, rfl⟩) (by assumption) ?restB17
               try simp only [Act.put, List.getElem_toArray, List.getElem_cons_zero, List.getElem_cons_succ, List.setIfInBounds_toArray, List.set_cons_zero, List.set_cons_succ]
               refine wpAnyH_take (i := 18) (v := undef) rfl (by kernel_rfl) (by kernel_rfl) (by kernel_rfl) (fun _ _ _ h => h) (Or.inr ⟨by kernel_rfl, rfl⟩) (by assumption) ?restB18
               try simp only [Act.put, List.getElem_toArray, List.getElem_cons_zero, List.getElem_cons_succ, List.setIfInBounds_toArray, List.set_cons_zero, List.set_cons_succ]
               refine wpAnyH_take (i := 19) (v := ?vB19) rfl (by kernel_rfl) (by kernel_rfl) (by kernel_rfl) (fun _ _ _ h => h) (Or.inl ⟨by kernel_rfl, ?hyB19⟩) (by assumption) ?restB19
               case hyB19 => (intro w hSw; (try dsimp only at hSw); go_simp; (try with_reducible rfl))
               try simp only [Act.put, List.getElem_toArray, List.getElem_cons_zero, List.getElem_cons_succ, List.setIfInBounds_toArray, List.set_cons_zero, List.set_cons_succ]
               refine wpAnyH_take (i := 20) (v := ?vB20) rfl (by kernel_rfl) (by kernel_rfl) (by kernel_rfl) (fun _ _ _ h => h) (Or.inl ⟨by kernel_rfl, ?hyB20⟩) (by assumption) ?restB20
               case hyB20 => (intro w hSw; (try dsimp only at hSw); go_simp; (try with_reducible rfl))
               try simp only [Act.put, List.getElem_toArray, List.getElem_cons_zero, List.getElem_cons_succ, List.setIfInBounds_toArray, List.set_cons_zero, List.set_cons_succ]
               refine wpAnyH_take (i := 21) (v := undef) rfl (by kernel_rfl) (by kernel_rfl) (by kernel_rfl) (fun _ _ _ h => h) (Or.inr ⟨by kernel_rfl, rfl⟩) (by assumption) ?restB21
               try simp only [Act.put, List.getElem_toArray, List.getElem_cons_zero, List.getElem_cons_succ, List.setIfInBounds_toArray, List.set_cons_zero, List.set_cons_succ]
               refine wpAnyH_take (i := 22) (v := undef) rfl (by kernel_rfl) (by kernel_rfl) (by kernel_rfl) (fun _ _ _ h => h) (Or.inr ⟨by kernel_rfl, rfl⟩) (by assumption) ?restB22
               try simp only [Act.put, List.getElem_toArray, List.getElem_cons_zero, List.getElem_cons_succ, List.setIfInBounds_toArray, List.set_cons_zero, List.set_cons_succ]
               refine wpAnyH_take (i := 23) (v := undef) rfl (by kernel_rfl) (by kernel_rfl) (by kernel_rfl) (fun _ _ _ h => h) (Or.inr ⟨by kernel_rfl, rfl⟩) (by assumption) ?restB23
               try simp only [Act.put, List.getElem_toArray, List.getElem_cons_zero, List.getElem_cons_succ, List.setIfInBounds_toArray, List.set_cons_zero, List.set_cons_succ]
               refine wpAnyH_take (i := 24) (v := undef) rfl (by kernel_rfl) (by kernel_rfl) (by kernel_rfl) (fun _ _ _ h => h) (Or.inr ⟨by kernel_rfl, rfl⟩) (by assumption) ?restB24
               try simp only [Act.put, List.getElem_toArray, List.getElem_cons_zero, List.getElem_cons_succ, List.setIfInBounds_toArray, List.set_cons_zero, List.set_cons_succ]
               refine wpAnyH_take (i := 25) (v := undef) rfl (by kernel_rfl) (by kernel_rfl) (by kernel_rfl) (fun _ _ _ h => h) (Or.inr ⟨by kernel_rfl, rfl⟩) (by assumption) ?restB25
               try simp only [Act.put, List.getElem_toArray, List.getElem_cons_zero, List.getElem_cons_succ, List.setIfInBounds_toArray, List.set_cons_zero, List.set_cons_succ]
               refine wpAnyH_take (i := 26) (v := undef) rfl (by kernel_rfl) (by kernel_rfl) (by kernel_rfl) (fun _ _ _ h => h) (Or.inr ⟨by kernel_rfl, rfl⟩) (by assumption) ?restB26
               try simp only [Act.put, List.getElem_toArray, List.getElem_cons_zero, List.getElem_cons_succ, List.setIfInBounds_toArray, List.set_cons_zero, List.set_cons_succ]
               refine wpAnyH_take (i := 27) (v := undef) rfl (by kernel_rfl) (by kernel_rfl) (by kernel_rfl) (fun _ _ _ h => h) (Or.inr ⟨by kernel_rfl, rfl⟩) (by assumption) ?restB27
               try simp only [Act.put, List.getElem_toArray, List.getElem_cons_zero, List.getElem_cons_succ, List.setIfInBounds_toArray, List.set_cons_zero, List.set_cons_succ]
               refine wpAnyH_take (i := 28) (v := ?vB28) rfl (by kernel_rfl) (by kernel_rfl) (by kernel_rfl) (fun _ _ _ h => h) (Or.inl ⟨by kernel_rfl, ?hyB28⟩) (by assumption) ?restB28
               case hyB28 => (intro w hSw; (try dsimp only at hSw); go_simp; (try with_reducible rfl))
               try simp only [Act.put, List.getElem_toArray, List.getElem_cons_zero, List.getElem_cons_succ, List.setIfInBounds_toArray, List.set_cons_zero, List.set_cons_succ]
               refine wpAnyH_take (i := 29) (v := ?vB29) rfl (by kernel_rfl) (by kernel_rfl) (by kernel_rfl) (fun _ _ _ h => h) (Or.inl ⟨by kernel_rfl, ?hyB29⟩) (by assumption) ?restB29
               case hyB29 => (intro w hSw; (try dsimp only at hSw); go_simp; (try with_reducible rfl))
               try simp only [Act.put, List.getElem_toArray, List.getElem_cons_zero, List.getElem_cons_succ, List.setIfInBounds_toArray, List.set_cons_zero, List.set_cons_succ]
               refine wpAnyH_done (by kernel_rfl) ?_ _
               go_wp2_with (fail)
               go_roundg m
               case measure => omega
               case rel => exact ⟨k + 1, by go_num, ⟨by omega⟩, ⟨by have := HKQ.out; omega⟩, ⟨below_then HWR.out HWR.out.size HBA.out⟩, ⟨by rw [HTK.out, HALL.out, HPX.out]; first | rfl | (rw [hnh]; rfl)⟩⟩
             · go_upto_region 9 with (fail)
               refine wp_region_held_drew (S := (fun W => W.cell? ⟨gs, 0, none⟩ = some (.slice A0 st.length c0) ∧ W.cell? ⟨gs, 1, none⟩ = some (.slice A1 en.length c1) ∧ W.cell? ⟨gs, 2, none⟩ = some (.int .i64 root) ∧ W.cell? ⟨ge, 0, none⟩ = some (.int .u8 kd) ∧ W.cell? ⟨ge, 1, none⟩ = some (.int .i64 rf) ∧ W.cell? ⟨ge, 2, none⟩ = some (.int .i64 (ls - 1)) ∧ W.cell? ⟨gv, 2, none⟩ = some (.slice (some av) v.f2.length c3) ∧ W.cell? (av.add (k * 4)) = some (.int .u64 x.f0) ∧ W.cell? ⟨(av.add (k * 4)).block, (av.add (k * 4)).off + 1, none⟩ = some (.slice A10 x.f1.length c10) ∧ W.cell? ⟨(av.add (k * 4)).block, (av.add (k * 4)).off + 2, none⟩ = some (.slice A11 x.f2.length c11) ∧ W.cell? ⟨(av.add (k * 4)).block, (av.add (k * 4)).off + 3, none⟩ = some (.bool h))) (by kernel_rfl) (HCEL.out wr.drew (below_drew (Below.refl _ _))) (fun hHeld => ?_)
               refine wpAnyH_take (i := 0) (v := ?vC0) rfl (by kernel_rfl) (by kernel_rfl) (by kernel_rfl) (fun _ _ _ h => h) (Or.inl ⟨by kernel_rfl, ?hyC0⟩) (by assumption) ?restC0
               case hyC0 => (intro w hSw; (try dsimp only at hSw); go_simp; (try with_reducible rfl))
               try simp only [Act.put, List.getElem_toArray, List.getElem_cons_zero, List.getElem_cons_succ, List.setIfInBounds_toArray, List.set_cons_zero, List.set_cons_succ]
               refine wpAnyH_take (i := 1) (v := ?vC1) rfl (by kernel_rfl) (by kernel_rfl) (by kernel_rfl) (fun _ _ _ h => h) (Or.inl ⟨by kernel_rfl, ?hyC1⟩) (by assumption) ?restC1
               case hyC1 => (intro w hSw; (try dsimp only at hSw); go_simp; (try with_reducible rfl))
               try simp only [Act.put, List.getElem_toArray, List.getElem_cons_zero, List.getElem_cons_succ, List.setIfInBounds_toArray, List.set_cons_zero, List.set_cons_succ]
               refine wpAnyH_take (i := 2) (v := ?vC2) rfl (by kernel_rfl) (by kernel_rfl) (by kernel_rfl) (fun _ _ _ h => h) (Or.inl ⟨by kernel_rfl, ?hyC2⟩) (by assumption) ?restC2
               case hyC2 => (intro w hSw; (try dsimp only at hSw); go_simp; (try with_reducible rfl))
               try simp only [Act.put, List.getElem_toArray, List.getElem_cons_zero, List.getElem_cons_succ, List.setIfInBounds_toArray, List.set_cons_zero, List.set_cons_succ]
               refine wpAnyH_take (i := 3) (v := ?vC3) rfl (by kernel_rfl) (by kernel_rfl) (by kernel_rfl) (fun _ _ _ h => h) (Or.inl ⟨by kernel_rfl, ?hyC3⟩) (by assumption) ?restC3
               case hyC3 => (intro w hSw; (try dsimp only at hSw); go_simp; (try with_reducible rfl))
               try simp only [Act.put, List.getElem_toArray, List.getElem_cons_zero, List.getElem_cons_succ, List.setIfInBounds_toArray, List.set_cons_zero, List.set_cons_succ]
               refine wpAnyH_take (i := 4) (v := ?vC4) rfl (by kernel_rfl) (by kernel_rfl) (by kernel_rfl) (fun _ _ _ h => h) (Or.inl ⟨by kernel_rfl, ?hyC4⟩) (by assumption) ?restC4
               case hyC4 => (intro w hSw; (try dsimp only at hSw); go_simp; (try with_reducible rfl))
               try simp only [Act.put, List.getElem_toArray, List.getElem_cons_zero, List.getElem_cons_succ, List.setIfInBounds_toArray, List.set_cons_zero, List.set_cons_succ]
               refine wpAnyH_take (i := 5) (v := ?vC5) rfl (by kernel_rfl) (by kernel_rfl) (by kernel_rfl) (fun _ _ _ h => h) (Or.inl ⟨by kernel_rfl, ?hyC5⟩) (by assumption) ?restC5
               case hyC5 => (intro w hSw; (try dsimp only at hSw); go_simp; (try with_reducible rfl))
               try simp only [Act.put, List.getElem_toArray, List.getElem_cons_zero, List.getElem_cons_succ, List.setIfInBounds_toArray, List.set_cons_zero, List.set_cons_succ]
               refine wpAnyH_take (i := 6) (v := ?vC6) rfl (by kernel_rfl) (by kernel_rfl) (by kernel_rfl) (fun _ _ _ h => h) (Or.inl ⟨by kernel_rfl, ?hyC6⟩) (by assumption) ?restC6
               case hyC6 => (intro w hSw; (try dsimp only at hSw); go_simp; (try with_reducible rfl))
               try simp only [Act.put, List.getElem_toArray, List.getElem_cons_zero, List.getElem_cons_succ, List.setIfInBounds_toArray, List.set_cons_zero, List.set_cons_succ]
               refine wpAnyH_take (i := 7) (v := ?vC7) rfl (by kernel_rfl) (by kernel_rfl) (by kernel_rfl) (fun _ _ _ h => h) (Or.inl ⟨by kernel_rfl, ?hyC7⟩) (by assumption) ?restC7
               case hyC7 => (intro w hSw; (try dsimp only at hSw); go_simp; (try with_reducible rfl))
               try simp only [Act.put, List.getElem_toArray, List.getElem_cons_zero, List.getElem_cons_succ, List.setIfInBounds_toArray, List.set_cons_zero, List.set_cons_succ]
               refine wpAnyH_take (i := 8) (v := ?vC8) rfl (by kernel_rfl) (by kernel_rfl) (by kernel_rfl) (fun _ _ _ h => h) (Or.inl ⟨by kernel_rfl, ?hyC8⟩) (by assumption) ?restC8
               case hyC8 => (intro w hSw; (try dsimp only at hSw); go_simp; (try with_reducible rfl))
               try simp only [Act.put, List.getElem_toArray, List.getElem_cons_zero, List.getElem_cons_succ, List.setIfInBounds_toArray, List.set_cons_zero, List.set_cons_succ]
               refine wpAnyH_ready (rs := [9]) (by kernel_rfl) (by simp) ?_
               refine AllReadyH.cons rfl (fun K hK => ?_) AllReadyH.nil
               go_simp
               go_at_call 18; (with_reducible refine (HXW.out wr.drew (below_drew (Below.refl _ _))).mono ?_); rintro e wa ⟨rfl, hb⟩; have HBA := Aside0.mk (below_then (below_drew (Below.refl wr.heap.size wr)) (Nat.le_refl _) hb); clear hb
               refine hK.out _ _ (HCEL.out wa HBA.out) (fun hHeld2 => ?_)
               clear hK K hHeld
               try simp only [Act.put, List.getElem_toArray, List.getElem_cons_zero, List.getElem_cons_succ, List.setIfInBounds_toArray, List.set_cons_zero, List.set_cons_succ]
               refine wpAnyH_take (i := 10) (v := ?vC10) rfl (by kernel_rfl) (by kernel_rfl) (by kernel_rfl) (fun _ _ _ h => h) (Or.inl ⟨by kernel_rfl, ?hyC10⟩) (by assumption) ?restC10
               case hyC10 => (intro w hSw; (try dsimp only at hSw); go_simp; (try with_reducible rfl))
               try simp only [Act.put, List.getElem_toArray, List.getElem_cons_zero, List.getElem_cons_succ, List.setIfInBounds_toArray, List.set_cons_zero, List.set_cons_succ]
               refine wpAnyH_take (i := 11) (v := ?vC11) rfl (by kernel_rfl) (by kernel_rfl) (by kernel_rfl) (fun _ _ _ h => h) (Or.inl ⟨by kernel_rfl, ?hyC11⟩) (by assumption) ?restC11
               case hyC11 => (intro w hSw; (try dsimp only at hSw); go_simp; (try with_reducible rfl))
               try simp only [Act.put, List.getElem_toArray, List.getElem_cons_zero, List.getElem_cons_succ, List.setIfInBounds_toArray, List.set_cons_zero, List.set_cons_succ]
               refine wpAnyH_take (i := 12) (v := ?vC12) rfl (by kernel_rfl) (by kernel_rfl) (by kernel_rfl) (fun _ _ _ h => h) (Or.inl ⟨by kernel_rfl, ?hyC12⟩) (by assumption) ?restC12
               case hyC12 => (intro w hSw; (try dsimp only at hSw); go_simp; (try with_reducible rfl))
               try simp only [Act.put, List.getElem_toArray, List.getElem_cons_zero, List.getElem_cons_succ, List.setIfInBounds_toArray, List.set_cons_zero, List.set_cons_succ]
               refine wpAnyH_take (i := 13) (v := ?vC13) rfl (by kernel_rfl) (by kernel_rfl) (by kernel_rfl) (fun _ _ _ h => h) (Or.inl ⟨by kernel_rfl, ?hyC13⟩) (by assumption) ?restC13
               case hyC13 => (intro w hSw; (try dsimp only at hSw); go_simp; (try with_reducible rfl))
               try simp only [Act.put, List.getElem_toArray, List.getElem_cons_zero, List.getElem_cons_succ, List.setIfInBounds_toArray, List.set_cons_zero, List.set_cons_succ]
               refine wpAnyH_take (i := 14) (v := ?vC14) rfl (by kernel_rfl) (by kernel_rfl) (by kernel_rfl) (fun _ _ _ h => h) (Or.inl ⟨by kernel_rfl, ?hyC14⟩) (by assumption) ?restC14
               case hyC14 => (intro w hSw; (try dsimp only at hSw); go_simp; (try with_reducible rfl))
               try simp only [Act.put, List.getElem_toArray, List.getElem_cons_zero, List.getElem_cons_succ, List.setIfInBounds_toArray, List.set_cons_zero, List.set_cons_succ]
               refine wpAnyH_take (i := 15) (v := ?vC15) rfl (by kernel_rfl) (by kernel_rfl) (by kernel_rfl) (fun _ _ _ h => h) (Or.inl ⟨by kernel_rfl, ?hyC15⟩) (by assumption) ?restC15
               case hyC15 => (intro w hSw; (try dsimp only at hSw); go_simp; (try with_reducible rfl))
               try simp only [Act.put, List.getElem_toArray, List.getElem_cons_zero, List.getElem_cons_succ, List.setIfInBounds_toArray, List.set_cons_zero, List.set_cons_succ]
               refine wpAnyH_take (i := 16) (v := ?vC16) rfl (by kernel_rfl) (by kernel_rfl) (by kernel_rfl) (fun _ _ _ h => h) (Or.inl ⟨by kernel_rfl, ?hyC16⟩) (by assumption) ?restC16
               case hyC16 => (intro w hSw; (try dsimp only at hSw); go_simp; (try with_reducible rfl))
               try simp only [Act.put, List.getElem_toArray, List.getElem_cons_zero, List.getElem_cons_succ, List.setIfInBounds_toArray, List.set_cons_zero, List.set_cons_succ]
               refine wpAnyH_take (i := 17) (v := ?vC17) rfl (by kernel_rfl) (by kernel_rfl) (by kernel_rfl) (fun _ _ _ h => h) (Or.inl ⟨by kernel_rfl, ?hyC17⟩) (by assumption) ?restC17
               case hyC17 => (intro w hSw; (try dsimp only at hSw); go_simp; (try with_reducible rfl))
               try simp only [Act.put, List.getElem_toArray, List.getElem_cons_zero, List.getElem_cons_succ, List.setIfInBounds_toArray, List.set_cons_zero, List.set_cons_succ]
               refine wpAnyH_take (i := 18) (v := ?vC18) rfl (by kernel_rfl) (by kernel_rfl) (by kernel_rfl) (fun _ _ _ h => h) (Or.inl ⟨by kernel_rfl, ?hyC18⟩) (by assumption) ?restC18
               case hyC18 => (intro w hSw; (try dsimp only at hSw); go_simp; (try with_reducible rfl))
               try simp only [Act.put, List.getElem_toArray, List.getElem_cons_zero, List.getElem_cons_succ, List.setIfInBounds_toArray, List.set_cons_zero, List.set_cons_succ]
               refine wpAnyH_take (i := 19) (v := ?vC19) rfl (by kernel_rfl) (by kernel_rfl) (by kernel_rfl) (fun _ _ _ h => h) (Or.inl ⟨by kernel_rfl, ?hyC19⟩) (by assumption) ?restC19
               case hyC19 => (intro w hSw; (try dsimp only at hSw); go_simp; (try with_reducible rfl))
               try simp only [Act.put, List.getElem_toArray, List.getElem_cons_zero, List.getElem_cons_succ, List.setIfInBounds_toArray, List.set_cons_zero, List.set_cons_succ]
               refine wpAnyH_take (i := 20) (v := ?vC20) rfl (by kernel_rfl) (by kernel_rfl) (by kernel_rfl) (fun _ _ _ h => h) (Or.inl ⟨by kernel_rfl, ?hyC20⟩) (by assumption) ?restC20
               case hyC20 => (intro w hSw; (try dsimp only at hSw); go_simp; (try with_reducible rfl))
               try simp only [Act.put, List.getElem_toArray, List.getElem_cons_zero, List.getElem_cons_succ, List.setIfInBounds_toArray, List.set_cons_zero, List.set_cons_succ]
               refine wpAnyH_take (i := 21) (v := undef) rfl (by kernel_rfl) (by kernel_rfl) (by kernel_rfl) (fun _ _ _ h => h) (Or.inr ⟨by kernel_rfl, rfl⟩) (by assumption) ?restC21
               try simp only [Act.put, List.getElem_toArray, List.getElem_cons_zero, List.getElem_cons_succ, List.setIfInBounds_toArray, List.set_cons_zero, List.set_cons_succ]
               refine wpAnyH_take (i := 22) (v := undef) rfl (by kernel_rfl) (by kernel_rfl) (by kernel_rfl) (fun _ _ _ h => h) (Or.inr ⟨by kernel_rfl, rfl⟩) (by assumption) ?restC22
               try simp only [Act.put, List.getElem_toArray, List.getElem_cons_zero, List.getElem_cons_succ, List.setIfInBounds_toArray, List.set_cons_zero, List.set_cons_succ]
               refine wpAnyH_take (i := 23) (v := undef) rfl (by kernel_rfl) (by kernel_rfl) (by kernel_rfl) (fun _ _ _ h => h) (Or.inr ⟨by kernel_rfl, rfl⟩) (by assumption) ?restC23
               try simp only [Act.put, List.getElem_toArray, List.getElem_cons_zero, List.getElem_cons_succ, List.setIfInBounds_toArray, List.set_cons_zero, List.set_cons_succ]
               refine wpAnyH_take (i := 24) (v := undef) rfl (by kernel_rfl) (by kernel_rfl) (by kernel_rfl) (fun _ _ _ h => h) (Or.inr ⟨by kernel_rfl, rfl⟩) (by assumption) ?restC24
               try simp only [Act.put, List.getElem_toArray, List.getElem_cons_zero, List.getElem_cons_succ, List.setIfInBounds_toArray, List.set_cons_zero, List.set_cons_succ]
               refine wpAnyH_take (i := 25) (v := undef) rfl (by kernel_rfl) (by kernel_rfl) (by kernel_rfl) (fun _ _ _ h => h) (Or.inr ⟨by kernel_rfl, rfl⟩) (by assumption) ?restC25
               try simp only [Act.put, List.getElem_toArray, List.getElem_cons_zero, List.getElem_cons_succ, List.setIfInBounds_toArray, List.set_cons_zero, List.set_cons_succ]
               refine wpAnyH_take (i := 26) (v := undef) rfl (by kernel_rfl) (by kernel_rfl) (by kernel_rfl) (fun _ _ _ h => h) (Or.inr ⟨by kernel_rfl, rfl⟩) (by assumption) ?restC26
               try simp only [Act.put, List.getElem_toArray, List.getElem_cons_zero, List.getElem_cons_succ, List.setIfInBounds_toArray, List.set_cons_zero, List.set_cons_succ]
               refine wpAnyH_take (i := 27) (v := undef) rfl (by kernel_rfl) (by kernel_rfl) (by kernel_rfl) (fun _ _ _ h => h) (Or.inr ⟨by kernel_rfl, rfl⟩) (by assumption) ?restC27
               try simp only [Act.put, List.getElem_toArray, List.getElem_cons_zero, List.getElem_cons_succ, List.setIfInBounds_toArray, List.set_cons_zero, List.set_cons_succ]
               refine wpAnyH_take (i := 28) (v := ?vC28) rfl (by kernel_rfl) (by kernel_rfl) (by kernel_rfl) (fun _ _ _ h => h) (Or.inl ⟨by kernel_rfl, ?hyC28⟩) (by assumption) ?restC28
               case hyC28 => (intro w hSw; (try dsimp only at hSw); go_simp; (try with_reducible rfl))
               try simp only [Act.put, List.getElem_toArray, List.getElem_cons_zero, List.getElem_cons_succ, List.setIfInBounds_toArray, List.set_cons_zero, List.set_cons_succ]
               refine wpAnyH_take (i := 29) (v := ?vC29) rfl (by kernel_rfl) (by kernel_rfl) (by kernel_rfl) (fun _ _ _ h => h) (Or.inl ⟨by kernel_rfl, ?hyC29⟩) (by assumption) ?restC29
               case hyC29 => (intro w hSw; (try dsimp only at hSw); go_simp; (try with_reducible rfl))
               try simp only [Act.put, List.getElem_toArray, List.getElem_cons_zero, List.getElem_cons_succ, List.setIfInBounds_toArray, List.set_cons_zero, List.set_cons_succ]
               refine wpAnyH_done (by kernel_rfl) ?_ _
               go_wp2_with (fail)
               go_roundg m
               case measure => omega
               case rel => exact ⟨k + 1, by go_num, ⟨by omega⟩, ⟨by have := HKQ.out; omega⟩, ⟨below_then HWR.out HWR.out.size HBA.out⟩, ⟨by rw [HTK.out, HALL.out, HPX.out]; first | rfl | (rw [hnh]; rfl)⟩⟩
             · go_upto_region 9 with (fail)
               refine wp_region_held_drew (S := (fun W => W.cell? ⟨gs, 0, none⟩ = some (.slice A0 st.length c0) ∧ W.cell? ⟨gs, 1, none⟩ = some (.slice A1 en.length c1) ∧ W.cell? ⟨gs, 2, none⟩ = some (.int .i64 root) ∧ W.cell? ⟨ge, 0, none⟩ = some (.int .u8 kd) ∧ W.cell? ⟨ge, 1, none⟩ = some (.int .i64 rf) ∧ W.cell? ⟨ge, 2, none⟩ = some (.int .i64 (ls - 1)) ∧ W.cell? ⟨gv, 2, none⟩ = some (.slice (some av) v.f2.length c3) ∧ W.cell? (av.add (k * 4)) = some (.int .u64 x.f0) ∧ W.cell? ⟨(av.add (k * 4)).block, (av.add (k * 4)).off + 1, none⟩ = some (.slice A10 x.f1.length c10) ∧ W.cell? ⟨(av.add (k * 4)).block, (av.add (k * 4)).off + 2, none⟩ = some (.slice A11 x.f2.length c11) ∧ W.cell? ⟨(av.add (k * 4)).block, (av.add (k * 4)).off + 3, none⟩ = some (.bool h))) (by kernel_rfl) (HCEL.out wr.drew (below_drew (Below.refl _ _))) (fun hHeld => ?_)
               refine wpAnyH_take (i := 0) (v := ?vD0) rfl (by kernel_rfl) (by kernel_rfl) (by kernel_rfl) (fun _ _ _ h => h) (Or.inl ⟨by kernel_rfl, ?hyD0⟩) (by assumption) ?restD0
               case hyD0 => (intro w hSw; (try dsimp only at hSw); go_simp; (try with_reducible rfl))
               try simp only [Act.put, List.getElem_toArray, List.getElem_cons_zero, List.getElem_cons_succ, List.setIfInBounds_toArray, List.set_cons_zero, List.set_cons_succ]
               refine wpAnyH_take (i := 1) (v := ?vD1) rfl (by kernel_rfl) (by kernel_rfl) (by kernel_rfl) (fun _ _ _ h => h) (Or.inl ⟨by kernel_rfl, ?hyD1⟩) (by assumption) ?restD1
               case hyD1 => (intro w hSw; (try dsimp only at hSw); go_simp; (try with_reducible rfl))
               try simp only [Act.put, List.getElem_toArray, List.getElem_cons_zero, List.getElem_cons_succ, List.setIfInBounds_toArray, List.set_cons_zero, List.set_cons_succ]
               refine wpAnyH_take (i := 2) (v := ?vD2) rfl (by kernel_rfl) (by kernel_rfl) (by kernel_rfl) (fun _ _ _ h => h) (Or.inl ⟨by kernel_rfl, ?hyD2⟩) (by assumption) ?restD2
               case hyD2 => (intro w hSw; (try dsimp only at hSw); go_simp; (try with_reducible rfl))
               try simp only [Act.put, List.getElem_toArray, List.getElem_cons_zero, List.getElem_cons_succ, List.setIfInBounds_toArray, List.set_cons_zero, List.set_cons_succ]
               refine wpAnyH_take (i := 3) (v := ?vD3) rfl (by kernel_rfl) (by kernel_rfl) (by kernel_rfl) (fun _ _ _ h => h) (Or.inl ⟨by kernel_rfl, ?hyD3⟩) (by assumption) ?restD3
               case hyD3 => (intro w hSw; (try dsimp only at hSw); go_simp; (try with_reducible rfl))
               try simp only [Act.put, List.getElem_toArray, List.getElem_cons_zero, List.getElem_cons_succ, List.setIfInBounds_toArray, List.set_cons_zero, List.set_cons_succ]
               refine wpAnyH_take (i := 4) (v := ?vD4) rfl (by kernel_rfl) (by kernel_rfl) (by kernel_rfl) (fun _ _ _ h => h) (Or.inl ⟨by kernel_rfl, ?hyD4⟩) (by assumption) ?restD4
               case hyD4 => (intro w hSw; (try dsimp only at hSw); go_simp; (try with_reducible rfl))
               try simp only [Act.put, List.getElem_toArray, List.getElem_cons_zero, List.getElem_cons_succ, List.setIfInBounds_toArray, List.set_cons_zero, List.set_cons_succ]
               refine wpAnyH_take (i := 5) (v := ?vD5) rfl (by kernel_rfl) (by kernel_rfl) (by kernel_rfl) (fun _ _ _ h => h) (Or.inl ⟨by kernel_rfl, ?hyD5⟩) (by assumption) ?restD5
               case hyD5 => (intro w hSw; (try dsimp only at hSw); go_simp; (try with_reducible rfl))
               try simp only [Act.put, List.getElem_toArray, List.getElem_cons_zero, List.getElem_cons_succ, List.setIfInBounds_toArray, List.set_cons_zero, List.set_cons_succ]
               refine wpAnyH_take (i := 6) (v := ?vD6) rfl (by kernel_rfl) (by kernel_rfl) (by kernel_rfl) (fun _ _ _ h => h) (Or.inl ⟨by kernel_rfl, ?hyD6⟩) (by assumption) ?restD6
               case hyD6 => (intro w hSw; (try dsimp only at hSw); go_simp; (try with_reducible rfl))
               try simp only [Act.put, List.getElem_toArray, List.getElem_cons_zero, List.getElem_cons_succ, List.setIfInBounds_toArray, List.set_cons_zero, List.set_cons_succ]
               refine wpAnyH_take (i := 7) (v := ?vD7) rfl (by kernel_rfl) (by kernel_rfl) (by kernel_rfl) (fun _ _ _ h => h) (Or.inl ⟨by kernel_rfl, ?hyD7⟩) (by assumption) ?restD7
               case hyD7 => (intro w hSw; (try dsimp only at hSw); go_simp; (try with_reducible rfl))
               try simp only [Act.put, List.getElem_toArray, List.getElem_cons_zero, List.getElem_cons_succ, List.setIfInBounds_toArray, List.set_cons_zero, List.set_cons_succ]
               refine wpAnyH_take (i := 8) (v := ?vD8) rfl (by kernel_rfl) (by kernel_rfl) (by kernel_rfl) (fun _ _ _ h => h) (Or.inl ⟨by kernel_rfl, ?hyD8⟩) (by assumption) ?restD8
               case hyD8 => (intro w hSw; (try dsimp only at hSw); go_simp; (try with_reducible rfl))
               try simp only [Act.put, List.getElem_toArray, List.getElem_cons_zero, List.getElem_cons_succ, List.setIfInBounds_toArray, List.set_cons_zero, List.set_cons_succ]
               refine wpAnyH_ready (rs := [9]) (by kernel_rfl) (by simp) ?_
               refine AllReadyH.cons rfl (fun K hK => ?_) AllReadyH.nil
               go_simp
               go_at_call 18; (with_reducible refine (HXW.out wr.drew (below_drew (Below.refl _ _))).mono ?_); rintro e wa ⟨rfl, hb⟩; have HBA := Aside0.mk (below_then (below_drew (Below.refl wr.heap.size wr)) (Nat.le_refl _) hb); clear hb
               refine hK.out _ _ (HCEL.out wa HBA.out) (fun hHeld2 => ?_)
               clear hK K hHeld
               try simp only [Act.put, List.getElem_toArray, List.getElem_cons_zero, List.getElem_cons_succ, List.setIfInBounds_toArray, List.set_cons_zero, List.set_cons_succ]
               refine wpAnyH_take (i := 10) (v := ?vD10) rfl (by kernel_rfl) (by kernel_rfl) (by kernel_rfl) (fun _ _ _ h => h) (Or.inl ⟨by kernel_rfl, ?hyD10⟩) (by assumption) ?restD10
               case hyD10 => (intro w hSw; (try dsimp only at hSw); go_simp; (try with_reducible rfl))
               try simp only [Act.put, List.getElem_toArray, List.getElem_cons_zero, List.getElem_cons_succ, List.setIfInBounds_toArray, List.set_cons_zero, List.set_cons_succ]
               refine wpAnyH_take (i := 11) (v := ?vD11) rfl (by kernel_rfl) (by kernel_rfl) (by kernel_rfl) (fun _ _ _ h => h) (Or.inl ⟨by kernel_rfl, ?hyD11⟩) (by assumption) ?restD11
               case hyD11 => (intro w hSw; (try dsimp only at hSw); go_simp; (try with_reducible rfl))
               try simp only [Act.put, List.getElem_toArray, List.getElem_cons_zero, List.getElem_cons_succ, List.setIfInBounds_toArray, List.set_cons_zero, List.set_cons_succ]
               refine wpAnyH_take (i := 12) (v := ?vD12) rfl (by kernel_rfl) (by kernel_rfl) (by kernel_rfl) (fun _ _ _ h => h) (Or.inl ⟨by kernel_rfl, ?hyD12⟩) (by assumption) ?restD12
               case hyD12 => (intro w hSw; (try dsimp only at hSw); go_simp; (try with_reducible rfl))
               try simp only [Act.put, List.getElem_toArray, List.getElem_cons_zero, List.getElem_cons_succ, List.setIfInBounds_toArray, List.set_cons_zero, List.set_cons_succ]
               refine wpAnyH_take (i := 13) (v := ?vD13) rfl (by kernel_rfl) (by kernel_rfl) (by kernel_rfl) (fun _ _ _ h => h) (Or.inl ⟨by kernel_rfl, ?hyD13⟩) (by assumption) ?restD13
               case hyD13 => (intro w hSw; (try dsimp only at hSw); go_simp; (try with_reducible rfl))
               try simp only [Act.put, List.getElem_toArray, List.getElem_cons_zero, List.getElem_cons_succ, List.setIfInBounds_toArray, List.set_cons_zero, List.set_cons_succ]
               refine wpAnyH_take (i := 14) (v := ?vD14) rfl (by kernel_rfl) (by kernel_rfl) (by kernel_rfl) (fun _ _ _ h => h) (Or.inl ⟨by kernel_rfl, ?hyD14⟩) (by assumption) ?restD14
               case hyD14 => (intro w hSw; (try dsimp only at hSw); go_simp; (try with_reducible rfl))
               try simp only [Act.put, List.getElem_toArray, List.getElem_cons_zero, List.getElem_cons_succ, List.setIfInBounds_toArray, List.set_cons_zero, List.set_cons_succ]
               refine wpAnyH_take (i := 15) (v := ?vD15) rfl (by kernel_rfl) (by kernel_rfl) (by kernel_rfl) (fun _ _ _ h => h) (Or.inl ⟨by kernel_rfl, ?hyD15⟩) (by assumption) ?restD15
               case hyD15 => (intro w hSw; (try dsimp only at hSw); go_simp; (try with_reducible rfl))
               try simp only [Act.put, List.getElem_toArray, List.getElem_cons_zero, List.getElem_cons_succ, List.setIfInBounds_toArray, List.set_cons_zero, List.set_cons_succ]
               refine wpAnyH_take (i := 16) (v := ?vD16) rfl (by kernel_rfl) (by kernel_rfl) (by kernel_rfl) (fun _ _ _ h => h) (Or.inl ⟨by kernel_rfl, ?hyD16⟩) (by assumption) ?restD16
               case hyD16 => (intro w hSw; (try dsimp only at hSw); go_simp; (try with_reducible rfl))
               try simp only [Act.put, List.getElem_toArray, List.getElem_cons_zero, List.getElem_cons_succ, List.setIfInBounds_toArray, List.set_cons_zero, List.set_cons_succ]
               refine wpAnyH_take (i := 17) (v := ?vD17) rfl (by kernel_rfl) (by kernel_rfl) (by kernel_rfl) (fun _ _ _ h => h) (Or.inl ⟨by kernel_rfl, ?hyD17⟩) (by assumption) ?restD17
               case hyD17 => (intro w hSw; (try dsimp only at hSw); go_simp; (try with_reducible rfl))
               try simp only [Act.put, List.getElem_toArray, List.getElem_cons_zero, List.getElem_cons_succ, List.setIfInBounds_toArray, List.set_cons_zero, List.set_cons_succ]
               refine wpAnyH_take (i := 18) (v := ?vD18) rfl (by kernel_rfl) (by kernel_rfl) (by kernel_rfl) (fun _ _ _ h => h) (Or.inl ⟨by kernel_rfl, ?hyD18⟩) (by assumption) ?restD18
               case hyD18 => (intro w hSw; (try dsimp only at hSw); go_simp; (try with_reducible rfl))
               try simp only [Act.put, List.getElem_toArray, List.getElem_cons_zero, List.getElem_cons_succ, List.setIfInBounds_toArray, List.set_cons_zero, List.set_cons_succ]
               refine wpAnyH_take (i := 19) (v := ?vD19) rfl (by kernel_rfl) (by kernel_rfl) (by kernel_rfl) (fun _ _ _ h => h) (Or.inl ⟨by kernel_rfl, ?hyD19⟩) (by assumption) ?restD19
               case hyD19 => (intro w hSw; (try dsimp only at hSw); go_simp; (try with_reducible rfl))
               try simp only [Act.put, List.getElem_toArray, List.getElem_cons_zero, List.getElem_cons_succ, List.setIfInBounds_toArray, List.set_cons_zero, List.set_cons_succ]
               refine wpAnyH_take (i := 20) (v := ?vD20) rfl (by kernel_rfl) (by kernel_rfl) (by kernel_rfl) (fun _ _ _ h => h) (Or.inl ⟨by kernel_rfl, ?hyD20⟩) (by assumption) ?restD20
               case hyD20 => (intro w hSw; (try dsimp only at hSw); go_simp; (try with_reducible rfl))
               try simp only [Act.put, List.getElem_toArray, List.getElem_cons_zero, List.getElem_cons_succ, List.setIfInBounds_toArray, List.set_cons_zero, List.set_cons_succ]
               refine wpAnyH_take (i := 21) (v := ?vD21) rfl (by kernel_rfl) (by kernel_rfl) (by kernel_rfl) (fun _ _ _ h => h) (Or.inl ⟨by kernel_rfl, ?hyD21⟩) (by assumption) ?restD21
               case hyD21 => (intro w hSw; (try dsimp only at hSw); go_simp; (try with_reducible rfl))
               try simp only [Act.put, List.getElem_toArray, List.getElem_cons_zero, List.getElem_cons_succ, List.setIfInBounds_toArray, List.set_cons_zero, List.set_cons_succ]
               refine wpAnyH_take (i := 22) (v := ?vD22) rfl (by kernel_rfl) (by kernel_rfl) (by kernel_rfl) (fun _ _ _ h => h) (Or.inl ⟨by kernel_rfl, ?hyD22⟩) (by assumption) ?restD22
               case hyD22 => (intro w hSw; (try dsimp only at hSw); go_simp; (try with_reducible rfl))
               try simp only [Act.put, List.getElem_toArray, List.getElem_cons_zero, List.getElem_cons_succ, List.setIfInBounds_toArray, List.set_cons_zero, List.set_cons_succ]
               refine wpAnyH_take (i := 23) (v := ?vD23) rfl (by kernel_rfl) (by kernel_rfl) (by kernel_rfl) (fun _ _ _ h => h) (Or.inl ⟨by kernel_rfl, ?hyD23⟩) (by assumption) ?restD23
               case hyD23 => (intro w hSw; (try dsimp only at hSw); go_simp; (try with_reducible rfl))
               try simp only [Act.put, List.getElem_toArray, List.getElem_cons_zero, List.getElem_cons_succ, List.setIfInBounds_toArray, List.set_cons_zero, List.set_cons_succ]
               refine wpAnyH_take (i := 24) (v := ?vD24) rfl (by kernel_rfl) (by kernel_rfl) (by kernel_rfl) (fun _ _ _ h => h) (Or.inl ⟨by kernel_rfl, ?hyD24⟩) (by assumption) ?restD24
               case hyD24 => (intro w hSw; (try dsimp only at hSw); go_simp; (try with_reducible rfl))
               try simp only [Act.put, List.getElem_toArray, List.getElem_cons_zero, List.getElem_cons_succ, List.setIfInBounds_toArray, List.set_cons_zero, List.set_cons_succ]
               refine wpAnyH_take (i := 25) (v := ?vD25) rfl (by kernel_rfl) (by kernel_rfl) (by kernel_rfl) (fun _ _ _ h => h) (Or.inl ⟨by kernel_rfl, ?hyD25⟩) (by assumption) ?restD25
               case hyD25 => (intro w hSw; (try dsimp only at hSw); go_simp; (try with_reducible rfl))
               try simp only [Act.put, List.getElem_toArray, List.getElem_cons_zero, List.getElem_cons_succ, List.setIfInBounds_toArray, List.set_cons_zero, List.set_cons_succ]
               refine wpAnyH_take (i := 26) (v := ?vD26) rfl (by kernel_rfl) (by kernel_rfl) (by kernel_rfl) (fun _ _ _ h => h) (Or.inl ⟨by kernel_rfl, ?hyD26⟩) (by assumption) ?restD26
               case hyD26 => (intro w hSw; (try dsimp only at hSw); go_simp; (try with_reducible rfl))
               try simp only [Act.put, List.getElem_toArray, List.getElem_cons_zero, List.getElem_cons_succ, List.setIfInBounds_toArray, List.set_cons_zero, List.set_cons_succ]
               refine wpAnyH_take (i := 27) (v := ?vD27) rfl (by kernel_rfl) (by kernel_rfl) (by kernel_rfl) (fun _ _ _ h => h) (Or.inl ⟨by kernel_rfl, ?hyD27⟩) (by assumption) ?restD27
               case hyD27 => (intro w hSw; (try dsimp only at hSw); go_simp; (try with_reducible rfl))
               try simp only [Act.put, List.getElem_toArray, List.getElem_cons_zero, List.getElem_cons_succ, List.setIfInBounds_toArray, List.set_cons_zero, List.set_cons_succ]
               refine wpAnyH_take (i := 28) (v := ?vD28) rfl (by kernel_rfl) (by kernel_rfl) (by kernel_rfl) (fun _ _ _ h => h) (Or.inl ⟨by kernel_rfl, ?hyD28⟩) (by assumption) ?restD28
               case hyD28 => (intro w hSw; (try dsimp only at hSw); go_simp; (try with_reducible rfl))
               try simp only [Act.put, List.getElem_toArray, List.getElem_cons_zero, List.getElem_cons_succ, List.setIfInBounds_toArray, List.set_cons_zero, List.set_cons_succ]
               refine wpAnyH_take (i := 29) (v := ?vD29) rfl (by kernel_rfl) (by kernel_rfl) (by kernel_rfl) (fun _ _ _ h => h) (Or.inl ⟨by kernel_rfl, ?hyD29⟩) (by assumption) ?restD29
               case hyD29 => (intro w hSw; (try dsimp only at hSw); go_simp; (try with_reducible rfl))
               try simp only [Act.put, List.getElem_toArray, List.getElem_cons_zero, List.getElem_cons_succ, List.setIfInBounds_toArray, List.set_cons_zero, List.set_cons_succ]
               refine wpAnyH_done (by kernel_rfl) ?_ _
               go_wp2_with (fail)
               go_roundg m
               case measure => omega
               case rel => exact ⟨k + 1, by go_num, ⟨by omega⟩, ⟨by have := HKQ.out; omega⟩, ⟨below_then HWR.out HWR.out.size HBA.out⟩, ⟨by rw [HTK.out, HALL.out, HPX.out]; first | rfl | (rw [hnh]; rfl)⟩⟩
             · go_upto_region 9 with (fail)
               refine wp_region_held_drew (S := (fun W => W.cell? ⟨gs, 0, none⟩ = some (.slice A0 st.length c0) ∧ W.cell? ⟨gs, 1, none⟩ = some (.slice A1 en.length c1) ∧ W.cell? ⟨gs, 2, none⟩ = some (.int .i64 root) ∧ W.cell? ⟨ge, 0, none⟩ = some (.int .u8 kd) ∧ W.cell? ⟨ge, 1, none⟩ = some (.int .i64 rf) ∧ W.cell? ⟨ge, 2, none⟩ = some (.int .i64 (ls - 1)) ∧ W.cell? ⟨gv, 2, none⟩ = some (.slice (some av) v.f2.length c3) ∧ W.cell? (av.add (k * 4)) = some (.int .u64 x.f0) ∧ W.cell? ⟨(av.add (k * 4)).block, (av.add (k * 4)).off + 1, none⟩ = some (.slice A10 x.f1.length c10) ∧ W.cell? ⟨(av.add (k * 4)).block, (av.add (k * 4)).off + 2, none⟩ = some (.slice A11 x.f2.length c11) ∧ W.cell? ⟨(av.add (k * 4)).block, (av.add (k * 4)).off + 3, none⟩ = some (.bool h))) (by kernel_rfl) (HCEL.out wr.drew (below_drew (Below.refl _ _))) (fun hHeld => ?_)
               refine wpAnyH_take (i := 0) (v := ?vE0) rfl (by kernel_rfl) (by kernel_rfl) (by kernel_rfl) (fun _ _ _ h => h) (Or.inl ⟨by kernel_rfl, ?hyE0⟩) (by assumption) ?restE0
               case hyE0 => (intro w hSw; (try dsimp only at hSw); go_simp; (try with_reducible rfl))
               try simp only [Act.put, List.getElem_toArray, List.getElem_cons_zero, List.getElem_cons_succ, List.setIfInBounds_toArray, List.set_cons_zero, List.set_cons_succ]
               refine wpAnyH_take (i := 1) (v := ?vE1) rfl (by kernel_rfl) (by kernel_rfl) (by kernel_rfl) (fun _ _ _ h => h) (Or.inl ⟨by kernel_rfl, ?hyE1⟩) (by assumption) ?restE1
               case hyE1 => (intro w hSw; (try dsimp only at hSw); go_simp; (try with_reducible rfl))
               try simp only [Act.put, List.getElem_toArray, List.getElem_cons_zero, List.getElem_cons_succ, List.setIfInBounds_toArray, List.set_cons_zero, List.set_cons_succ]
               refine wpAnyH_take (i := 2) (v := ?vE2) rfl (by kernel_rfl) (by kernel_rfl) (by kernel_rfl) (fun _ _ _ h => h) (Or.inl ⟨by kernel_rfl, ?hyE2⟩) (by assumption) ?restE2
               case hyE2 => (intro w hSw; (try dsimp only at hSw); go_simp; (try with_reducible rfl))
               try simp only [Act.put, List.getElem_toArray, List.getElem_cons_zero, List.getElem_cons_succ, List.setIfInBounds_toArray, List.set_cons_zero, List.set_cons_succ]
               refine wpAnyH_take (i := 3) (v := ?vE3) rfl (by kernel_rfl) (by kernel_rfl) (by kernel_rfl) (fun _ _ _ h => h) (Or.inl ⟨by kernel_rfl, ?hyE3⟩) (by assumption) ?restE3
               case hyE3 => (intro w hSw; (try dsimp only at hSw); go_simp; (try with_reducible rfl))
               try simp only [Act.put, List.getElem_toArray, List.getElem_cons_zero, List.getElem_cons_succ, List.setIfInBounds_toArray, List.set_cons_zero, List.set_cons_succ]
               refine wpAnyH_take (i := 4) (v := ?vE4) rfl (by kernel_rfl) (by kernel_rfl) (by kernel_rfl) (fun _ _ _ h => h) (Or.inl ⟨by kernel_rfl, ?hyE4⟩) (by assumption) ?restE4
               case hyE4 => (intro w hSw; (try dsimp only at hSw); go_simp; (try with_reducible rfl))
               try simp only [Act.put, List.getElem_toArray, List.getElem_cons_zero, List.getElem_cons_succ, List.setIfInBounds_toArray, List.set_cons_zero, List.set_cons_succ]
               refine wpAnyH_take (i := 5) (v := ?vE5) rfl (by kernel_rfl) (by kernel_rfl) (by kernel_rfl) (fun _ _ _ h => h) (Or.inl ⟨by kernel_rfl, ?hyE5⟩) (by assumption) ?restE5
               case hyE5 => (intro w hSw; (try dsimp only at hSw); go_simp; (try with_reducible rfl))
               try simp only [Act.put, List.getElem_toArray, List.getElem_cons_zero, List.getElem_cons_succ, List.setIfInBounds_toArray, List.set_cons_zero, List.set_cons_succ]
               refine wpAnyH_take (i := 6) (v := ?vE6) rfl (by kernel_rfl) (by kernel_rfl) (by kernel_rfl) (fun _ _ _ h => h) (Or.inl ⟨by kernel_rfl, ?hyE6⟩) (by assumption) ?restE6
               case hyE6 => (intro w hSw; (try dsimp only at hSw); go_simp; (try with_reducible rfl))
               try simp only [Act.put, List.getElem_toArray, List.getElem_cons_zero, List.getElem_cons_succ, List.setIfInBounds_toArray, List.set_cons_zero, List.set_cons_succ]
               refine wpAnyH_take (i := 7) (v := ?vE7) rfl (by kernel_rfl) (by kernel_rfl) (by kernel_rfl) (fun _ _ _ h => h) (Or.inl ⟨by kernel_rfl, ?hyE7⟩) (by assumption) ?restE7
               case hyE7 => (intro w hSw; (try dsimp only at hSw); go_simp; (try with_reducible rfl))
               try simp only [Act.put, List.getElem_toArray, List.getElem_cons_zero, List.getElem_cons_succ, List.setIfInBounds_toArray, List.set_cons_zero, List.set_cons_succ]
               refine wpAnyH_take (i := 8) (v := ?vE8) rfl (by kernel_rfl) (by kernel_rfl) (by kernel_rfl) (fun _ _ _ h => h) (Or.inl ⟨by kernel_rfl, ?hyE8⟩) (by assumption) ?restE8
               case hyE8 => (intro w hSw; (try dsimp only at hSw); go_simp; (try with_reducible rfl))
               try simp only [Act.put, List.getElem_toArray, List.getElem_cons_zero, List.getElem_cons_succ, List.setIfInBounds_toArray, List.set_cons_zero, List.set_cons_succ]
               refine wpAnyH_ready (rs := [9]) (by kernel_rfl) (by simp) ?_
               refine AllReadyH.cons rfl (fun K hK => ?_) AllReadyH.nil
               go_simp
               go_at_call 18; (with_reducible refine (HXW.out wr.drew (below_drew (Below.refl _ _))).mono ?_); rintro e wa ⟨rfl, hb⟩; have HBA := Aside0.mk (below_then (below_drew (Below.refl wr.heap.size wr)) (Nat.le_refl _) hb); clear hb
               refine hK.out _ _ (HCEL.out wa HBA.out) (fun hHeld2 => ?_)
               clear hK K hHeld
               try simp only [Act.put, List.getElem_toArray, List.getElem_cons_zero, List.getElem_cons_succ, List.setIfInBounds_toArray, List.set_cons_zero, List.set_cons_succ]
               refine wpAnyH_take (i := 10) (v := ?vE10) rfl (by kernel_rfl) (by kernel_rfl) (by kernel_rfl) (fun _ _ _ h => h) (Or.inl ⟨by kernel_rfl, ?hyE10⟩) (by assumption) ?restE10
               case hyE10 => (intro w hSw; (try dsimp only at hSw); go_simp; (try with_reducible rfl))
               try simp only [Act.put, List.getElem_toArray, List.getElem_cons_zero, List.getElem_cons_succ, List.setIfInBounds_toArray, List.set_cons_zero, List.set_cons_succ]
               refine wpAnyH_take (i := 11) (v := ?vE11) rfl (by kernel_rfl) (by kernel_rfl) (by kernel_rfl) (fun _ _ _ h => h) (Or.inl ⟨by kernel_rfl, ?hyE11⟩) (by assumption) ?restE11
               case hyE11 => (intro w hSw; (try dsimp only at hSw); go_simp; (try with_reducible rfl))
               try simp only [Act.put, List.getElem_toArray, List.getElem_cons_zero, List.getElem_cons_succ, List.setIfInBounds_toArray, List.set_cons_zero, List.set_cons_succ]
               refine wpAnyH_take (i := 12) (v := ?vE12) rfl (by kernel_rfl) (by kernel_rfl) (by kernel_rfl) (fun _ _ _ h => h) (Or.inl ⟨by kernel_rfl, ?hyE12⟩) (by assumption) ?restE12
               case hyE12 => (intro w hSw; (try dsimp only at hSw); go_simp; (try with_reducible rfl))
               try simp only [Act.put, List.getElem_toArray, List.getElem_cons_zero, List.getElem_cons_succ, List.setIfInBounds_toArray, List.set_cons_zero, List.set_cons_succ]
               refine wpAnyH_take (i := 13) (v := ?vE13) rfl (by kernel_rfl) (by kernel_rfl) (by kernel_rfl) (fun _ _ _ h => h) (Or.inl ⟨by kernel_rfl, ?hyE13⟩) (by assumption) ?restE13
               case hyE13 => (intro w hSw; (try dsimp only at hSw); go_simp; (try with_reducible rfl))
               try simp only [Act.put, List.getElem_toArray, List.getElem_cons_zero, List.getElem_cons_succ, List.setIfInBounds_toArray, List.set_cons_zero, List.set_cons_succ]
               refine wpAnyH_take (i := 14) (v := ?vE14) rfl (by kernel_rfl) (by kernel_rfl) (by kernel_rfl) (fun _ _ _ h => h) (Or.inl ⟨by kernel_rfl, ?hyE14⟩) (by assumption) ?restE14
               case hyE14 => (intro w hSw; (try dsimp only at hSw); go_simp; (try with_reducible rfl))
               try simp only [Act.put, List.getElem_toArray, List.getElem_cons_zero, List.getElem_cons_succ, List.setIfInBounds_toArray, List.set_cons_zero, List.set_cons_succ]
               refine wpAnyH_take (i := 15) (v := ?vE15) rfl (by kernel_rfl) (by kernel_rfl) (by kernel_rfl) (fun _ _ _ h => h) (Or.inl ⟨by kernel_rfl, ?hyE15⟩) (by assumption) ?restE15
               case hyE15 => (intro w hSw; (try dsimp only at hSw); go_simp; (try with_reducible rfl))
               try simp only [Act.put, List.getElem_toArray, List.getElem_cons_zero, List.getElem_cons_succ, List.setIfInBounds_toArray, List.set_cons_zero, List.set_cons_succ]
               refine wpAnyH_take (i := 16) (v := ?vE16) rfl (by kernel_rfl) (by kernel_rfl) (by kernel_rfl) (fun _ _ _ h => h) (Or.inl ⟨by kernel_rfl, ?hyE16⟩) (by assumption) ?restE16
               case hyE16 => (intro w hSw; (try dsimp only at hSw); go_simp; (try with_reducible rfl))
               try simp only [Act.put, List.getElem_toArray, List.getElem_cons_zero, List.getElem_cons_succ, List.setIfInBounds_toArray, List.set_cons_zero, List.set_cons_succ]
               refine wpAnyH_take (i := 17) (v := ?vE17) rfl (by kernel_rfl) (by kernel_rfl) (by kernel_rfl) (fun _ _ _ h => h) (Or.inl ⟨by kernel_rfl, ?hyE17⟩) (by assumption) ?restE17
               case hyE17 => (intro w hSw; (try dsimp only at hSw); go_simp; (try with_reducible rfl))
               try simp only [Act.put, List.getElem_toArray, List.getElem_cons_zero, List.getElem_cons_succ, List.setIfInBounds_toArray, List.set_cons_zero, List.set_cons_succ]
               refine wpAnyH_take (i := 18) (v := ?vE18) rfl (by kernel_rfl) (by kernel_rfl) (by kernel_rfl) (fun _ _ _ h => h) (Or.inl ⟨by kernel_rfl, ?hyE18⟩) (by assumption) ?restE18
               case hyE18 => (intro w hSw; (try dsimp only at hSw); go_simp; (try with_reducible rfl))
               try simp only [Act.put, List.getElem_toArray, List.getElem_cons_zero, List.getElem_cons_succ, List.setIfInBounds_toArray, List.set_cons_zero, List.set_cons_succ]
               refine wpAnyH_take (i := 19) (v := ?vE19) rfl (by kernel_rfl) (by kernel_rfl) (by kernel_rfl) (fun _ _ _ h => h) (Or.inl ⟨by kernel_rfl, ?hyE19⟩) (by assumption) ?restE19
               case hyE19 => (intro w hSw; (try dsimp only at hSw); go_simp; (try with_reducible rfl))
               try simp only [Act.put, List.getElem_toArray, List.getElem_cons_zero, List.getElem_cons_succ, List.setIfInBounds_toArray, List.set_cons_zero, List.set_cons_succ]
               refine wpAnyH_take (i := 20) (v := ?vE20) rfl (by kernel_rfl) (by kernel_rfl) (by kernel_rfl) (fun _ _ _ h => h) (Or.inl ⟨by kernel_rfl, ?hyE20⟩) (by assumption) ?restE20
               case hyE20 => (intro w hSw; (try dsimp only at hSw); go_simp; (try with_reducible rfl))
               try simp only [Act.put, List.getElem_toArray, List.getElem_cons_zero, List.getElem_cons_succ, List.setIfInBounds_toArray, List.set_cons_zero, List.set_cons_succ]
               refine wpAnyH_take (i := 21) (v := ?vE21) rfl (by kernel_rfl) (by kernel_rfl) (by kernel_rfl) (fun _ _ _ h => h) (Or.inl ⟨by kernel_rfl, ?hyE21⟩) (by assumption) ?restE21
               case hyE21 => (intro w hSw; (try dsimp only at hSw); go_simp; (try with_reducible rfl))
               try simp only [Act.put, List.getElem_toArray, List.getElem_cons_zero, List.getElem_cons_succ, List.setIfInBounds_toArray, List.set_cons_zero, List.set_cons_succ]
               refine wpAnyH_take (i := 22) (v := ?vE22) rfl (by kernel_rfl) (by kernel_rfl) (by kernel_rfl) (fun _ _ _ h => h) (Or.inl ⟨by kernel_rfl, ?hyE22⟩) (by assumption) ?restE22
               case hyE22 => (intro w hSw; (try dsimp only at hSw); go_simp; (try with_reducible rfl))
               try simp only [Act.put, List.getElem_toArray, List.getElem_cons_zero, List.getElem_cons_succ, List.setIfInBounds_toArray, List.set_cons_zero, List.set_cons_succ]
               refine wpAnyH_take (i := 23) (v := ?vE23) rfl (by kernel_rfl) (by kernel_rfl) (by kernel_rfl) (fun _ _ _ h => h) (Or.inl ⟨by kernel_rfl, ?hyE23⟩) (by assumption) ?restE23
               case hyE23 => (intro w hSw; (try dsimp only at hSw); go_simp; (try with_reducible rfl))
               try simp only [Act.put, List.getElem_toArray, List.getElem_cons_zero, List.getElem_cons_succ, List.setIfInBounds_toArray, List.set_cons_zero, List.set_cons_succ]
               refine wpAnyH_take (i := 24) (v := ?vE24) rfl (by kernel_rfl) (by kernel_rfl) (by kernel_rfl) (fun _ _ _ h => h) (Or.inl ⟨by kernel_rfl, ?hyE24⟩) (by assumption) ?restE24
               case hyE24 => (intro w hSw; (try dsimp only at hSw); go_simp; (try with_reducible rfl))
               try simp only [Act.put, List.getElem_toArray, List.getElem_cons_zero, List.getElem_cons_succ, List.setIfInBounds_toArray, List.set_cons_zero, List.set_cons_succ]
               refine wpAnyH_take (i := 25) (v := ?vE25) rfl (by kernel_rfl) (by kernel_rfl) (by kernel_rfl) (fun _ _ _ h => h) (Or.inl ⟨by kernel_rfl, ?hyE25⟩) (by assumption) ?restE25
               case hyE25 => (intro w hSw; (try dsimp only at hSw); go_simp; (try with_reducible rfl))
               try simp only [Act.put, List.getElem_toArray, List.getElem_cons_zero, List.getElem_cons_succ, List.setIfInBounds_toArray, List.set_cons_zero, List.set_cons_succ]
               refine wpAnyH_take (i := 26) (v := ?vE26) rfl (by kernel_rfl) (by kernel_rfl) (by kernel_rfl) (fun _ _ _ h => h) (Or.inl ⟨by kernel_rfl, ?hyE26⟩) (by assumption) ?restE26
               case hyE26 => (intro w hSw; (try dsimp only at hSw); go_simp; (try with_reducible rfl))
               try simp only [Act.put, List.getElem_toArray, List.getElem_cons_zero, List.getElem_cons_succ, List.setIfInBounds_toArray, List.set_cons_zero, List.set_cons_succ]
               refine wpAnyH_take (i := 27) (v := ?vE27) rfl (by kernel_rfl) (by kernel_rfl) (by kernel_rfl) (fun _ _ _ h => h) (Or.inl ⟨by kernel_rfl, ?hyE27⟩) (by assumption) ?restE27
               case hyE27 => (intro w hSw; (try dsimp only at hSw); go_simp; (try with_reducible rfl))
               try simp only [Act.put, List.getElem_toArray, List.getElem_cons_zero, List.getElem_cons_succ, List.setIfInBounds_toArray, List.set_cons_zero, List.set_cons_succ]
               refine wpAnyH_take (i := 28) (v := ?vE28) rfl (by kernel_rfl) (by kernel_rfl) (by kernel_rfl) (fun _ _ _ h => h) (Or.inl ⟨by kernel_rfl, ?hyE28⟩) (by assumption) ?restE28
               case hyE28 => (intro w hSw; (try dsimp only at hSw); go_simp; (try with_reducible rfl))
               try simp only [Act.put, List.getElem_toArray, List.getElem_cons_zero, List.getElem_cons_succ, List.setIfInBounds_toArray, List.set_cons_zero, List.set_cons_succ]
               refine wpAnyH_take (i := 29) (v := ?vE29) rfl (by kernel_rfl) (by kernel_rfl) (by kernel_rfl) (fun _ _ _ h => h) (Or.inl ⟨by kernel_rfl, ?hyE29⟩) (by assumption) ?restE29
               case hyE29 => (intro w hSw; (try dsimp only at hSw); go_simp; (try with_reducible rfl))
               try simp only [Act.put, List.getElem_toArray, List.getElem_cons_zero, List.getElem_cons_succ, List.setIfInBounds_toArray, List.set_cons_zero, List.set_cons_succ]
               refine wpAnyH_done (by kernel_rfl) ?_ _
               go_wp2_with (fail)
               go_ret
               exact ⟨by rw [HAT.out (by rw [HPX.out]; first | rfl | (rw [hnh]; rfl))]; rfl, below_then HW9.out HW9.out.size HBA.out⟩)
      · have d1 : decide (k < v.f2.length) = false := decide_eq_false q
        have d2 : decide ((k : Int) < (v.f2.length : Int)) = false := decide_eq_false (by omega)
        obtain ⟨s0, s1, s2, e0, e1, e2, v2⟩ := HCELL.out wr HWR.out
        go_wp2_with (fail)
        go_ret
        exact ⟨by have h := HALL.out; rw [List.take_of_length_le (by omega)] at h; rw [h]; rfl, below_then HB1.out HB1.out.size HWR.out⟩
end Go.Proofs.YthilhndejhnlnaaDoor.Hand
end
