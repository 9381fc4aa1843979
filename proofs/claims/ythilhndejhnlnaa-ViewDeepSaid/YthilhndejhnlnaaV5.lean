/- Layer 7, view: what fits and Fits come to. -/
import Derived.Test.YthilhndejhnlnaaV4
namespace Go.Proofs.Ythilhndejhnlnaa.Hand
open Go.RowKit Go.Proofs.Ythilhndejhnlnaa.QAll Go.Proofs.YthilhndejhnlnaaW.PrintWords Go.Proofs.YthilhndejhnlnaaW.PrintLast Go.Proofs.YthilhndejhnlnaaW.PrintMore Go.Proofs.Ythilhndejhnlnaa.Runes
set_option linter.unusedVariables false
set_option linter.unusedSimpArgs false

theorem any_all (xs : List S39) (Q L : S39 → Bool) : (xs.any fun x => !Q x || L x) = !(xs.all fun x => Q x && !L x) := by
  induction xs with
  | nil => rfl
  | cons a t ih => simp only [List.any_cons, List.all_cons, ih]; cases Q a <;> cases L a <;> simp
theorem rd_mem31 {st : List S31} {q : Nat} (h : q < st.length) : rd_T31 st (q : Int) ∈ st := by
  unfold rd_T31; rw [show ((q : Int)).toNat = q from rfl, List.getD_eq_getElem?_getD, List.getElem?_eq_getElem h]; exact List.getElem_mem h
theorem fits_any {st : List S31} {en : List S61} {root : Int} (hG : Good st) : ∀ (d : Nat), d ≤ 1000 → ∀ (kd rf ls : Int) (v : S39) (us u : Value) (w : World), TyOk st kd rf → ls ≤ 9223372036854775807 → IsS w st en root us → IsV w v u →
    Calls Try.prog 17 #[us, tyV kd rf ls, u, .int .i64 d] w fun e w' => e = .returned (.bool (fitsB st en root d kd rf ls v)) ∧ Below w.heap.size w w' := by
  intro d
  induction d with
  | zero =>
    intro _ kd rf ls v us u w hty hl2 hs hv
    unfold fitsB
    by_cases hls : 0 < ls
    · rw [if_pos hls]
      by_cases c : 0 < v.f2.length ∨ v.f0 ≠ 0 ∨ 0 < v.f1.length ∨ v.f3 = true
      · rw [if_pos c]
        exact fits_list_no 0 kd rf ls v us u w hls hs hv (c.elim (fun h => .inl ⟨rfl, h⟩) .inr)
      · rw [if_neg c]
        simp only [not_or] at c
        exact fits_list_yes 0 (by decide) kd rf ls v us u w hls hl2 hs hv true ⟨by simpa using c.2.1, by omega, by simpa using c.2.2.2⟩ (.inl ⟨by omega, rfl⟩)
    · rw [if_neg hls]
      by_cases hk : kd = 13
      · subst hk
        rw [if_pos rfl]
        obtain ⟨h0, h1⟩ := hty rfl
        obtain ⟨q, rfl⟩ := Int.eq_ofNat_of_zero_le h0
        by_cases c : v.f0 ≠ 0 ∨ 0 < v.f1.length ∨ v.f3 = false
        · rw [if_pos c]; exact fits_struct_gone 0 q (by omega) ls v us u w hls hs hv c
        · rw [if_neg c]
          simp only [not_or] at c
          exact fits_struct_no 0 q (by omega) ls v us u w hls hs hv ⟨by simpa using c.1, by omega, by simpa using c.2.2⟩ (.inl rfl)
      · rw [if_neg hk]
        exact fits_leaf 0 kd rf ls v us u w hls hk hs hv
  | succ d ih =>
    intro hd kd rf ls v us u w hty hl2 hs hv
    unfold fitsB
    by_cases hls : 0 < ls
    · rw [if_pos hls]
      by_cases c : v.f0 ≠ 0 ∨ 0 < v.f1.length ∨ v.f3 = true
      · rw [if_pos c]
        exact fits_list_no (d + 1) kd rf ls v us u w hls hs hv (.inr c)
      · rw [if_neg c]
        simp only [not_or] at c
        exact fits_list_yes (d + 1) hd kd rf ls v us u w hls hl2 hs hv _ ⟨by simpa using c.1, by omega, by simpa using c.2.2⟩
          (.inr ⟨d, fun x => fitsB st en root d kd rf (ls - 1) x, rfl, any_all v.f2 _ _, fun x hx W uk hW hu => ih (by omega) kd rf (ls - 1) x us uk W hty (by omega) (hs.below hW) hu⟩)
    · rw [if_neg hls]
      by_cases hk : kd = 13
      · subst hk
        rw [if_pos rfl]
        obtain ⟨h0, h1⟩ := hty rfl
        obtain ⟨q, rfl⟩ := Int.eq_ofNat_of_zero_le h0
        have hq : q < st.length := by omega
        by_cases c : v.f0 ≠ 0 ∨ 0 < v.f1.length ∨ v.f3 = false
        · rw [if_pos c]; exact fits_struct_gone (d + 1) q hq ls v us u w hls hs hv c
        · rw [if_neg c]
          simp only [not_or] at c
          have c' : v.f0 = 0 ∧ v.f1.length = 0 ∧ v.f3 = true := ⟨by simpa using c.1, by omega, by simpa using c.2.2⟩
          by_cases e : v.f2.length ≠ (rd_T31 st (q : Int)).f1.length
          · rw [if_pos e]; exact fits_struct_no (d + 1) q hq ls v us u w hls hs hv c' (.inr e)
          · rw [if_neg e]
            have e' : v.f2.length = (rd_T31 st (q : Int)).f1.length := by simpa using e
            exact fits_struct_yes d (by omega) q hq ls v us u w hls hs hv c' e' (fun p => fitsB st en root d p.1.f1.f0 p.1.f1.f1 p.1.f1.f2 p.2) (fun k hk hk2 W uk hW hu => by
              have hg := hG _ (rd_mem31 hq) _ (List.getElem_mem hk)
              exact ih (by omega) _ _ _ _ us uk W hg.1 hg.2 (hs.below hW) hu)
      · rw [if_neg hk]
        exact fits_leaf (d + 1) kd rf ls v us u w hls hk hs hv

/-- What Fits tells. -/
def fitsTop (st : List S31) (en : List S61) (root rec : Int) (v : S39) : Bool := if 0 ≤ rec ∧ rec < st.length then fitsB st en root 12 13 rec 0 v && v.f3 else false
set_option maxHeartbeats 3200000 in
theorem fitstop_any {st : List S31} {en : List S61} {root : Int} (hG : Good st) (rec : Int) (v : S39) (us u : Value) (w : World) (hs : IsS w st en root us) (hv : IsV w v u) :
    Calls Try.prog 7 #[us, .int .i64 rec, u] w fun e w' => e = .returned (.bool (fitsTop st en root rec v)) ∧ Below w.heap.size w w' := by
  obtain ⟨r, hr⟩ : ∃ r, fitsTop st en root rec v = r := ⟨_, rfl⟩
  rw [hr]
  obtain ⟨A0, c0, A1, c1, hus, hS⟩ := hs
  obtain ⟨A2, c2, A3, c3, hu, hV⟩ := hv
  have hs : IsS w st en root us := ⟨A0, c0, A1, c1, hus, hS⟩
  have hv : IsV w v u := ⟨A2, c2, A3, c3, hu, hV⟩
  subst hus hu
  have HS := Aside0.mk hs
  have HV := Aside0.mk hv
  obtain ⟨h3, hh3⟩ : ∃ h3, v.f3 = h3 := ⟨_, rfl⟩
  obtain ⟨f, hf⟩ : ∃ f, fitsB st en root 12 13 rec 0 v = f := ⟨_, rfl⟩
  have hrr : r = if 0 ≤ rec ∧ rec < st.length then f && h3 else false := by rw [← hr]; unfold fitsTop; rw [hf, hh3]
  have HF : Aside0 (0 ≤ rec ∧ rec < st.length → ∀ W, Below w.heap.size w W → Calls Try.prog 17 #[.agg #[.slice A0 st.length c0, .slice A1 en.length c1, .int .i64 root], tyV 13 rec 0, .agg #[.int .u64 v.f0, .slice A2 v.f1.length c2, .slice A3 v.f2.length c3, .bool h3], .int .i64 12] W fun e w' => e = .returned (.bool f) ∧ Below W.heap.size W w') := ⟨fun hin W hW => by
    have := fits_any (en := en) (root := root) hG 12 (by decide) 13 rec 0 v _ _ W (fun _ => hin) (by decide) (hs.below hW) (hv.below hW)
    rw [hf] at this; rw [← hh3]; exact this⟩
  rw [hh3] at HV ⊢
  obtain ⟨gs, hgs⟩ : ∃ gs, w.heap.size = gs := ⟨_, rfl⟩
  obtain ⟨gv, hgv⟩ : ∃ gv, gs + 1 = gv := ⟨_, rfl⟩
  obtain ⟨w1, hw1⟩ : ∃ w1, (w.alloc (.cells #[.slice A0 st.length c0, .slice A1 en.length c1, .int .i64 root] 35)).alloc (.cells #[.int .u64 v.f0, .slice A2 v.f1.length c2, .slice A3 v.f2.length c3, .bool h3] 39) = w1 := ⟨_, rfl⟩
  have a1 := heap_alloc_new w (.cells #[.slice A0 st.length c0, .slice A1 en.length c1, .int .i64 root] 35)
  have e1 : (w.alloc (.cells #[.slice A0 st.length c0, .slice A1 en.length c1, .int .i64 root] 35)).heap.size = w.heap.size + 1 := by simp
  have b1 := below_alloc (Below.refl (w.alloc (.cells #[.slice A0 st.length c0, .slice A1 en.length c1, .int .i64 root] 35)).heap.size (w.alloc (.cells #[.slice A0 st.length c0, .slice A1 en.length c1, .int .i64 root] 35))) (.cells #[.int .u64 v.f0, .slice A2 v.f1.length c2, .slice A3 v.f2.length c3, .bool h3] 39)
  have a2 := heap_alloc_new (w.alloc (.cells #[.slice A0 st.length c0, .slice A1 en.length c1, .int .i64 root] 35)) (.cells #[.int .u64 v.f0, .slice A2 v.f1.length c2, .slice A3 v.f2.length c3, .bool h3] 39)
  have x1 := (b1.block w.heap.size (by omega)).trans a1
  rw [e1] at a2
  rw [hw1] at a2 x1
  rw [hgs] at a2 x1
  rw [hgv] at a2
  have HX1 := Aside0.mk x1
  have HX2 := Aside0.mk a2
  have HB1 : Aside0 (Below w.heap.size w w1) := ⟨by rw [← hw1]; exact below_alloc (below_alloc (Below.refl _ _) _) _⟩
  have HEQ := Aside0.mk (And.intro hw1 (And.intro hgs hgv))
  have ways : (decide (0 ≤ rec) = false ∧ r = false) ∨ (decide (0 ≤ rec) = true ∧ decide (rec < (st.length : Int)) = false ∧ r = false) ∨
      (decide (0 ≤ rec) = true ∧ decide (rec < (st.length : Int)) = true ∧ (0 ≤ rec ∧ rec < st.length) ∧ f = false ∧ r = false) ∨ (decide (0 ≤ rec) = true ∧ decide (rec < (st.length : Int)) = true ∧ (0 ≤ rec ∧ rec < st.length) ∧ f = true ∧ r = h3) := by
    by_cases p : 0 ≤ rec
    · by_cases p2 : rec < (st.length : Int)
      · rw [if_pos ⟨p, p2⟩] at hrr
        cases f with
        | false => exact .inr (.inr (.inl ⟨decide_eq_true p, decide_eq_true p2, ⟨p, p2⟩, rfl, by simpa using hrr⟩))
        | true => exact .inr (.inr (.inr ⟨decide_eq_true p, decide_eq_true p2, ⟨p, p2⟩, rfl, by simpa using hrr⟩))
      · rw [if_neg (fun h => p2 h.2)] at hrr
        exact .inr (.inl ⟨decide_eq_true p, decide_eq_false p2, hrr⟩)
    · rw [if_neg (fun h => p h.1)] at hrr
      exact .inl ⟨decide_eq_false p, hrr⟩
  clear hs hv hS hV hr hh3 hf hrr hgs hgv hw1 a1 a2 b1 e1 x1
  rcases ways with ⟨q1, rfl⟩ | ⟨q1, q2, rfl⟩ | ⟨q1, q2, q3, rfl, rfl⟩ | ⟨q1, q2, q3, rfl, rfl⟩
  all_goals
    try (have HF2 := Aside0.mk (HF.out q3 w1 HB1.out); clear q3)
    clear HF
    go_enter Try.func7, Try.ntmps7
    go_upto_region 1 with (fail)
    rw [HEQ.out.1, HEQ.out.2.1, HEQ.out.2.2]
    have s0 : w1.cell? ⟨gs, 0, none⟩ = some (.slice A0 st.length c0) := (blk_cell HX1.out 0).trans rfl
    have s1 : w1.cell? ⟨gs, 1, none⟩ = some (.slice A1 en.length c1) := (blk_cell HX1.out 1).trans rfl
    have s2 : w1.cell? ⟨gs, 2, none⟩ = some (.int .i64 root) := (blk_cell HX1.out 2).trans rfl
    have v0 : w1.cell? ⟨gv, 0, none⟩ = some (.int .u64 v.f0) := (blk_cell HX2.out 0).trans rfl
    have v1 : w1.cell? ⟨gv, 1, none⟩ = some (.slice A2 v.f1.length c2) := (blk_cell HX2.out 1).trans rfl
    have v2 : w1.cell? ⟨gv, 2, none⟩ = some (.slice A3 v.f2.length c3) := (blk_cell HX2.out 2).trans rfl
    have v3 : w1.cell? ⟨gv, 3, none⟩ = some (.bool _) := (blk_cell HX2.out 3).trans rfl
    go_wp2_with (go_at_call 17; (with_reducible refine HF2.out.mono ?_); rintro e w2 ⟨rfl, hb⟩; have y3 := pw_cell_below hb v3; have HB2 := Aside0.mk (below_then HB1.out HB1.out.size hb); clear hb v0 v1 v2 v3)
    go_ret
    first
      | exact ⟨rfl, HB2.out⟩
      | exact ⟨rfl, HB1.out⟩
end Go.Proofs.Ythilhndejhnlnaa.Hand
