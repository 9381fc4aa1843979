/- Texts joined: V1. -/
import Derived.StillTailTactics
import Derived.Test.YthilhndejhnlnaaDoorZV17
section
/- Layer 7, view: the walks of fits' closure and of what searches by it. -/
namespace Go.Proofs.YthilhndejhnlnaaDoor.Hand
open Go.RowKit Go.Proofs.YthilhndejhnlnaaDoor.QAll Go.Proofs.YthilhndejhnlnaaDoorW.PrintWords Go.Proofs.YthilhndejhnlnaaDoorW.PrintLast Go.Proofs.YthilhndejhnlnaaDoorW.PrintMore Go.Proofs.YthilhndejhnlnaaDoor.Runes
set_option linter.unusedVariables false
set_option linter.unusedSimpArgs false

theorem take_any {xs : List S29} {P : S29 → Bool} {k : Nat} (hk : k < xs.length) : (xs.take (k + 1)).any P = ((xs.take k).any P || P xs[k]) := by
  rw [List.take_succ_eq_append_getElem hk, List.any_append]; simp
theorem any_at {xs : List S29} {P : S29 → Bool} {k : Nat} (hk : k < xs.length) (h : P xs[k] = true) : xs.any P = true := List.any_eq_true.2 ⟨_, List.getElem_mem hk, h⟩
/-- What an element of a row of values reads as. -/
theorem kid_at {w : World} {A : Option Addr} {xs : List S29} (h : k29.C w A xs.length xs) (k : Nat) (hk : k < xs.length) : ∃ ad A1 c1 A2 c2, A = some ad ∧ w.cell? (ad.add (k * 4)) = some (.int .u64 xs[k].f0) ∧
    w.cell? ⟨(ad.add (k * 4)).block, (ad.add (k * 4)).off + 1, none⟩ = some (.slice A1 xs[k].f1.length c1) ∧ w.cell? ⟨(ad.add (k * 4)).block, (ad.add (k * 4)).off + 2, none⟩ = some (.slice A2 xs[k].f2.length c2) ∧
    w.cell? ⟨(ad.add (k * 4)).block, (ad.add (k * 4)).off + 3, none⟩ = some (.bool xs[k].f3) ∧ IsV w xs[k] (.agg #[.int .u64 xs[k].f0, .slice A1 xs[k].f1.length c1, .slice A2 xs[k].f2.length c2, .bool xs[k].f3]) := by
  obtain ⟨ad, A1, c1, A2, c2, e, x0, x1, x2, x3, l1, g1, l2, g2⟩ := at_T29 h (k : Int) (by omega) (by omega)
  have hx : rd_T29 xs (k : Int) = xs[k] := by unfold rd_T29; rw [show ((k : Int)).toNat = k from rfl, List.getD_eq_getElem?_getD, List.getElem?_eq_getElem hk]; rfl
  rw [hx] at x0 x1 x2 x3 l1 g1 l2 g2
  rw [show ((k : Int)).toNat = k from rfl] at x0 x1 x2 x3
  exact ⟨ad, A1, c1, A2, c2, e, x0, x1, x2, x3, A1, c1, A2, c2, rfl, g1, l1, g2, l2⟩

def IdxPost (xs : List S29) (P : S29 → Bool) (w : World) (e : Ending) (w' : World) : Prop := ∃ i : Int, e = .returned (.int .i64 i) ∧ decide (0 ≤ i) = xs.any P ∧ Below w.heap.size w w'
def IdxRound (w : World) (xs : List S29) (P : S29 → Bool) (v8 : Value) (wr : World) : Prop := ∃ k : Nat, v8 = .int .i64 k ∧ k ≤ xs.length ∧ (xs.take k).any P = false ∧ Below w.heap.size w wr
set_option maxHeartbeats 1600000 in
theorem index_any (A : Option Addr) (c : Nat) (xs : List S29) (p1 p2 p3 : Value) (P : S29 → Bool) (w : World) (hr : k29.C w A xs.length xs) (hc : xs.length ≤ c)
    (hcall : ∀ x ∈ xs, ∀ W u, Below w.heap.size w W → IsV W x u → Calls Tryd.prog 24 #[u, p1, p2, p3] W fun e W' => e = .returned (.bool (P x)) ∧ Below W.heap.size W W') :
    Calls Tryd.prog 32 #[.slice A xs.length c, .func (.func 24) #[] #[p1, p2, p3]] w (IdxPost xs P w) := by
  have HR := Aside0.mk hr
  have HC := Aside0.mk hc
  have HCALL := Aside0.mk hcall
  have HMX := Aside0.mk (Kd.C_max hr)
  clear hr hc hcall
  go_enter Tryd.func32, Tryd.ntmps32
  go_wp2
  go_loopw [8] (fun v8 wr => IdxRound w xs P v8 wr) (fun v8 _ => xs.length - (intOf v8).toNat)
  case atStart => exact ⟨0, rfl, Nat.zero_le _, by simp, Below.refl _ _⟩
  case round =>
    obtain ⟨k, rfl, hk, hany, hB⟩ := hrel
    have HK := Aside0.mk hk
    have HANY := Aside0.mk hany
    have HB := Aside0.mk hB
    clear hk hany hB
    by_cases hlt : k < xs.length
    · obtain ⟨ad, A1, c1, A2, c2, rfl, x0, x1, x2, x3, hv⟩ := kid_at HR.out k hlt
      replace x0 := pw_cell_below HB.out x0
      replace x1 := pw_cell_below HB.out x1
      replace x2 := pw_cell_below HB.out x2
      replace x3 := pw_cell_below HB.out x3
      have HX := Aside0.mk (HCALL.out _ (List.getElem_mem hlt) wr _ HB.out (hv.below HB.out))
      have HTK := Aside0.mk (take_any (P := P) hlt)
      have HAT := Aside0.mk (any_at (P := P) hlt)
      obtain ⟨x, hx⟩ : ∃ x, xs[k] = x := ⟨_, rfl⟩
      obtain ⟨b, hb⟩ : ∃ b, P x = b := ⟨_, rfl⟩
      rw [hx] at x0 x1 x2 x3 HX HTK HAT
      rw [hb] at HX HTK HAT
      have d0 : decide (k < xs.length) = true := decide_eq_true hlt
      have d0' : decide ((k : Int) < (xs.length : Int)) = true := decide_eq_true (by omega)
      have wk : IntKind.i64.wrap ((k : Int) + 1) = (k : Int) + 1 := by rw [IntKind.wrap_i64]; have := HMX.out; omega
      clear hx hb hv
      cases b with
      | true =>
        replace HAT := Aside0.mk (HAT.out rfl)
        go_wp2_with (go_at_call 24; (with_reducible refine HX.out.mono ?_); rintro e w2 ⟨rfl, hb⟩; have HB2 := Aside0.mk hb; clear hb)
        go_ret
        exact ⟨k, rfl, by rw [HAT.out]; simp, below_then HB.out HB.out.size HB2.out⟩
      | false =>
        go_wp2_with (go_at_call 24; (with_reducible refine HX.out.mono ?_); rintro e w2 ⟨rfl, hb⟩; have HB2 := Aside0.mk hb; clear hb)
        go_roundw
        case rel => exact ⟨k + 1, by go_num, by omega, by rw [HTK.out, HANY.out]; rfl, below_then HB.out HB.out.size HB2.out⟩
        case measure => simp [intOf]; omega
    · have d0 : decide (k < xs.length) = false := decide_eq_false hlt
      have d0' : decide ((k : Int) < (xs.length : Int)) = false := decide_eq_false (by omega)
      go_wp2_with (fail)
      go_ret
      exact ⟨-1, rfl, by
        have h := HANY.out
        rw [List.take_of_length_le (by omega)] at h
        rw [h]; decide, HB.out⟩
set_option maxHeartbeats 800000 in
theorem contains_any (A : Option Addr) (c : Nat) (xs : List S29) (p1 p2 p3 : Value) (P : S29 → Bool) (b : Bool) (hb : xs.any P = b) (w : World) (hr : k29.C w A xs.length xs) (hc : xs.length ≤ c)
    (hcall : ∀ x ∈ xs, ∀ W u, Below w.heap.size w W → IsV W x u → Calls Tryd.prog 24 #[u, p1, p2, p3] W fun e W' => e = .returned (.bool (P x)) ∧ Below W.heap.size W W') :
    Calls Tryd.prog 23 #[.slice A xs.length c, .func (.func 24) #[] #[p1, p2, p3]] w fun e w' => e = .returned (.bool b) ∧ Below w.heap.size w w' := by
  have HI := Aside0.mk (index_any A c xs p1 p2 p3 P w hr hc hcall)
  have HBB := Aside0.mk hb
  clear hr hc hcall hb
  go_enter Tryd.func23, Tryd.ntmps23
  go_wp2_with (go_at_call 32; (with_reducible refine HI.out.mono ?_); rintro e w2 ⟨i, rfl, hi, hb⟩; have HB2 := Aside0.mk hb; rw [HBB.out] at hi; clear hb)
  go_ret
  exact ⟨by simp [hi], HB2.out⟩

/-- A schema's box, a type's, a depth's. -/
structure Boxes (w : World) (gs gt gd : Nat) (us : Value) (kd rf ls : Int) (d : Int) : Prop where
  s : ∃ a b c : Value, us = .agg #[a, b, c] ∧ w.heap[gs]? = some (.cells #[a, b, c] 34 (0, 0))
  t : w.heap[gt]? = some (.cells #[.int .u8 kd, .int .i64 rf, .int .i64 ls] 45 (0, 0))
  d : w.heap[gd]? = some (.cells #[.int .i64 d] 3 (0, 0))
theorem Boxes.below {w W : World} {gs gt gd : Nat} {us : Value} {kd rf ls d : Int} (h : Boxes w gs gt gd us kd rf ls d) (hb : Below w.heap.size w W) : Boxes W gs gt gd us kd rf ls d := by
  obtain ⟨a, b, c, e, hs⟩ := h.s
  exact ⟨⟨a, b, c, e, (hb.block _ (blk_lt hs)).trans hs⟩, (hb.block _ (blk_lt h.t)).trans h.t, (hb.block _ (blk_lt h.d)).trans h.d⟩
set_option maxHeartbeats 1600000 in
theorem closure_any {st : List S50} {en : List S58} {root : Int} (kd rf ls : Int) (d : Nat) (hd : d < 1000) (us : Value) (x : S29) (r : Bool) (u : Value) (w : World) (gs gt gd : Nat) (hbx : Boxes w gs gt gd us kd rf ls ((d : Int) + 1))
    (hu : IsV w x u) (hfits : ∀ W, Below w.heap.size w W → Calls Tryd.prog 17 #[us, tyV kd rf ls, u, .int .i64 d] W fun e W' => e = .returned (.bool r) ∧ Below W.heap.size W W') :
    Calls Tryd.prog 24 #[u, .pointer (some ⟨gs, 0, none⟩), .pointer (some ⟨gt, 0, none⟩), .pointer (some ⟨gd, 0, none⟩)] w fun e w' => e = .returned (.bool (!r || lackB kd ls x)) ∧ Below w.heap.size w w' := by
  obtain ⟨A1, c1, A2, c2, rfl, -, -, -, -⟩ := hu
  have HF := Aside0.mk hfits
  have HBX := Aside0.mk hbx
  have wd : IntKind.i64.wrap ((d : Int) + 1 - 1) = (d : Int) := by rw [IntKind.wrap_i64]; omega
  clear hfits hbx
  go_enter Tryd.func24, Tryd.ntmps24
  go_upto_region 1 with (fail)
  obtain ⟨w1, hw1⟩ : ∃ w1, w.alloc (.cells #[.int .u64 x.f0, .slice A1 x.f1.length c1, .slice A2 x.f2.length c2, .bool x.f3] 29) = w1 := ⟨_, rfl⟩
  obtain ⟨gv, hgv⟩ : ∃ gv, w.heap.size = gv := ⟨_, rfl⟩
  have HB1 : Aside0 (Below w.heap.size w w1) := ⟨by rw [← hw1]; exact below_alloc (Below.refl _ _) _⟩
  have HV1 : Aside0 (w1.heap[gv]? = some (.cells #[.int .u64 x.f0, .slice A1 x.f1.length c1, .slice A2 x.f2.length c2, .bool x.f3] 29 (0, 0))) := ⟨by rw [← hw1, ← hgv]; exact heap_alloc_new w _⟩
  have HF1 := Aside0.mk (HF.out w1 HB1.out)
  rw [hw1, hgv]
  clear hw1 hgv
  have HX1 := Aside0.mk (HBX.out.below HB1.out)
  obtain ⟨a, b, c, rfl, hs⟩ := HX1.out.s
  have s0 : w1.cell? ⟨gs, 0, none⟩ = some a := (blk_cell hs 0).trans rfl
  have s1 : w1.cell? ⟨gs, 1, none⟩ = some b := (blk_cell hs 1).trans rfl
  have s2 : w1.cell? ⟨gs, 2, none⟩ = some c := (blk_cell hs 2).trans rfl
  have t0 : w1.cell? ⟨gt, 0, none⟩ = some (.int .u8 kd) := (blk_cell HX1.out.t 0).trans rfl
  have t1 : w1.cell? ⟨gt, 1, none⟩ = some (.int .i64 rf) := (blk_cell HX1.out.t 1).trans rfl
  have t2 : w1.cell? ⟨gt, 2, none⟩ = some (.int .i64 ls) := (blk_cell HX1.out.t 2).trans rfl
  have d0 : w1.cell? ⟨gd, 0, none⟩ = some (.int .i64 ((d : Int) + 1)) := (blk_cell HX1.out.d 0).trans rfl
  have v0 : w1.cell? ⟨gv, 0, none⟩ = some (.int .u64 x.f0) := (blk_cell HV1.out 0).trans rfl
  have v1 : w1.cell? ⟨gv, 1, none⟩ = some (.slice A1 x.f1.length c1) := (blk_cell HV1.out 1).trans rfl
  have v2 : w1.cell? ⟨gv, 2, none⟩ = some (.slice A2 x.f2.length c2) := (blk_cell HV1.out 2).trans rfl
  have v3 : w1.cell? ⟨gv, 3, none⟩ = some (.bool x.f3) := (blk_cell HV1.out 3).trans rfl
  have HLK : Aside0 (lackB kd ls x = (ls == 0 && kd == 13 && !x.f3)) := ⟨rfl⟩
  obtain ⟨h3, hh3⟩ : ∃ h3, x.f3 = h3 := ⟨_, rfl⟩
  rw [hh3] at v3 HF1 HLK
  clear hs
  cases r with
  | false =>
    go_wp2_with (go_at_call 17; (with_reducible refine HF1.out.mono ?_); rintro e w2 ⟨rfl, hb⟩; have HB2 := Aside0.mk hb; clear hb)
    go_ret
    exact ⟨rfl, below_then HB1.out HB1.out.size HB2.out⟩
  | true =>
    have ways : (ls == 0) = false ∨ ((ls == 0) = true ∧ (kd == 13) = false) ∨ ((ls == 0) = true ∧ (kd == 13) = true) := by cases (ls == 0) <;> cases (kd == 13) <;> simp
    rcases ways with p | ⟨p, q⟩ | ⟨p, q⟩
    all_goals
      go_wp2_with (go_at_call 17; (with_reducible refine HF1.out.mono ?_); rintro e w2 ⟨rfl, hb⟩; have HB2 := Aside0.mk hb; have y0 := pw_cell_below hb t0; have y2 := pw_cell_below hb t2; have z3 := pw_cell_below hb v3; clear hb)
      go_ret
      refine ⟨?_, below_then HB1.out HB1.out.size HB2.out⟩
      rw [HLK.out]
      simp [*]
end Go.Proofs.YthilhndejhnlnaaDoor.Hand
end
