/- Texts joined: H3 H4. -/
import Derived.Laws.Strings
import Derived.Test.YthilhndejhnlnaaZD33
section
/- Defaults: what they are, that they fit, and when a value is one. -/
namespace Go.Proofs.Ythilhndejhnlnaa.Hand
open Go.RowKit Go.Proofs.Ythilhndejhnlnaa.QAll Go.Proofs.YthilhndejhnlnaaW.PrintWords Go.Proofs.YthilhndejhnlnaaW.PrintLast Go.Proofs.YthilhndejhnlnaaW.PrintMore Go.Proofs.Ythilhndejhnlnaa.Mk
set_option linter.unusedVariables false
set_option linter.unusedSimpArgs false
/-- A field's default, and a struct's. -/
def dk (f : S28) : S39 := ⟨f.f2, [], [], false⟩
def dflt (fs : List S28) : S39 := ⟨0, [], fs.map dk, true⟩
theorem rd28_get {fs : List S28} {i : Nat} (h : i < fs.length) : rd_T28 fs (i : Int) = fs[i] := by unfold rd_T28; rw [show ((i : Int)).toNat = i from rfl, List.getD_eq_getElem?_getD, List.getElem?_eq_getElem h]; rfl
theorem take_map {fs : List S28} {i : Nat} (h : i < fs.length) : (fs.take i).map dk ++ [dk fs[i]] = (fs.take (i + 1)).map dk := by rw [List.take_succ_eq_append_getElem h, List.map_append]; rfl
theorem default_ev (nm : ByteArray) (fs : List S28) (hf : fs.length ≤ 1000) : ∃ k, view_Default.f k nm fs = some (0, [], fs.map dk, true) := by
  have loop : ∀ d i : Nat, i + d = fs.length → ∃ k, view_Default.l0 k fs (fs.length : Int) (i : Int) 0 ((fs.take i).map dk) true = some (0, [], fs.map dk, true) := by
    intro d
    induction d with
    | zero =>
      intro i hi
      refine ⟨1, ?_⟩
      simp only [view_Default.l0]
      rw [if_neg (by omega), List.take_of_length_le (by omega)]
    | succ d ih =>
      intro i hi
      have h : i < fs.length := by omega
      obtain ⟨k, hk⟩ := ih (i + 1) (by omega)
      have hw : wrap64 ((i : Int) + 1) = ((i + 1 : Nat) : Int) := by unfold wrap64; omega
      refine ⟨k + 1, ?_⟩
      simp only [view_Default.l0]
      rw [if_pos (by omega), if_pos (by omega), if_pos (by omega), if_pos (by rw [List.length_map, List.length_take]; omega), hw, rd28_get h]
      have e : (fs.take i).map dk ++ [(⟨(fs[i]).f2, [], [], false⟩ : S39)] = (fs.take (i + 1)).map dk := take_map h
      rw [e]; exact hk
  obtain ⟨k, hk⟩ := loop fs.length 0 (by omega)
  exact ⟨k, by unfold view_Default.f; simpa using hk⟩
theorem rdefault_ev (nm : ByteArray) (fs : List S28) (hf : fs.length ≤ 1000) : ∃ k, transomref05_Default.f k nm fs = some (0, [], fs.map dk, true) := by
  have loop : ∀ d i : Nat, i + d = fs.length → ∃ k, transomref05_Default.l0 k (i : Int) nm fs 0 ((fs.take i).map dk) true = some (0, [], fs.map dk, true) := by
    intro d
    induction d with
    | zero =>
      intro i hi
      refine ⟨1, ?_⟩
      simp only [transomref05_Default.l0]
      rw [if_neg (by omega), List.take_of_length_le (by omega)]
    | succ d ih =>
      intro i hi
      have h : i < fs.length := by omega
      obtain ⟨k, hk⟩ := ih (i + 1) (by omega)
      have hw : wrap64 ((i : Int) + 1) = ((i + 1 : Nat) : Int) := by unfold wrap64; omega
      refine ⟨k + 1, ?_⟩
      simp only [transomref05_Default.l0, transomref05_Nothing.f, Option.bind_some]
      rw [if_pos (by omega), if_pos (by omega), if_pos (by rw [List.length_map, List.length_take]; omega), hw, rd28_get h]
      have e : (fs.take i).map dk ++ [(⟨(fs[i]).f2, [], [], false⟩ : S39)] = (fs.take (i + 1)).map dk := take_map h
      rw [e]; exact hk
  obtain ⟨k, hk⟩ := loop fs.length 0 (by omega)
  exact ⟨k, by unfold transomref05_Default.f; simpa using hk⟩
theorem default_any (nm : ByteArray) (A : Option Addr) (c : Nat) (fs : List S28) (w : World) (hC : Kd.C k28 w A fs.length fs) (hc : fs.length ≤ c) (hf : fs.length ≤ 1000) : Calls Try.prog 9 #[.agg #[.string nm, .slice A fs.length c]] w (MkPost w (dflt fs)) := by
  obtain ⟨k, hk⟩ := default_ev nm fs hf
  exact (view_Default.calls k nm A c fs _ _ _ _ w hC hc hk).mono fun e w' ⟨v1, v2, he, h1, h2, hb⟩ => ⟨v1, v2, he, Rb.of h1, Rb.of h2, hb⟩
theorem rdefault_any (nm : ByteArray) (A : Option Addr) (c : Nat) (fs : List S28) (w : World) (hC : Kd.C k28 w A fs.length fs) (hc : fs.length ≤ c) (hf : fs.length ≤ 1000) : Calls Try.prog 11 #[.agg #[.string nm, .slice A fs.length c]] w (MkPost w (dflt fs)) := by
  obtain ⟨k, hk⟩ := rdefault_ev nm fs hf
  exact (transomref05_Default.calls k nm A c fs _ _ _ _ w hC hc hk).mono fun e w' ⟨v1, v2, he, h1, h2, hb⟩ => ⟨v1, v2, he, Rb.of h1, Rb.of h2, hb⟩
theorem wts_dk (fs : List S28) : wts (fs.map dk) = fs.length := by
  induction fs with
  | nil => simp [wts]
  | cons a t ih => simp only [List.map_cons, wts, ih, List.length_cons, dk, wt, List.length_nil]; omega
theorem wt_dflt (fs : List S28) : wt (dflt fs) = 1 + fs.length := by unfold dflt; simp only [wt, wts_dk, List.length_nil, Nat.add_zero]
theorem fits_dk (st : List S31) {en : List S61} (root : Int) {n i : Nat} {tr : Bool} {f : S28} (h : FOk en n tr i f) (d : Nat) : fitsB st en root d f.f1.f0 f.f1.f1 f.f1.f2 (dk f) = true := by
  by_cases h0 : 0 < f.f1.f2
  · have hz := h.zero (by omega)
    unfold dk; rw [hz]
    cases d <;> simp [fitsB, h0]
  have e0 : f.f1.f2 = 0 := by have := h.ls; omega
  by_cases h13 : f.f1.f0 = 13
  · have hz := h.zero (by rw [h13]; simp [szB])
    unfold dk; rw [hz]
    cases d <;> simp [fitsB, h0, h13, goneB]
  have hl : leafB st en root f.f1.f0 f.f1.f1 f.f1.f2 (dk f) = true := by
    unfold leafB dk
    by_cases hs : 0 < szB f.f1.f0
    · have := h.num e0 hs st root
      rw [e0]; simp [hs, this]
    · have hz := h.zero (by omega)
      rw [hz]; simp [hs, textB]; exact .inr (by decide)
  cases d <;> simp only [fitsB] <;> rw [if_neg h0, if_neg h13] <;> exact hl
theorem fits_dflt {st : List S31} {en : List S61} {tr : Bool} (root : Int) (hSch : SchOk en st.length tr st) (i : Nat) (hi : i < st.length) : fitsTop st en root (i : Int) (dflt (st[i]).f1) = true := by
  unfold fitsTop
  rw [if_pos ⟨Int.natCast_nonneg _, by omega⟩]
  have hr : rd_T31 st (i : Int) = st[i] := rd31_get hi
  have hf : fitsB st en root (11 + 1) 13 (i : Int) 0 (dflt (st[i]).f1) = true := by
    simp only [fitsB]
    rw [if_neg (by decide), if_pos trivial, if_neg (by simp [dflt]), hr, if_neg (by simp [dflt]), List.all_eq_true]
    intro p hp
    obtain ⟨k, hk, e⟩ := List.mem_iff_getElem.1 hp
    have hk2 : k < ((st[i]).f1).length := by rw [List.length_zip] at hk; omega
    have e2 : p = (((st[i]).f1)[k], dk ((st[i]).f1)[k]) := by rw [← e, List.getElem_zip]; simp [dflt]
    rw [e2]
    exact fits_dk st root ((hSch.fs i st[i] (List.getElem?_eq_getElem hi)).2.2 _ (List.getElem_mem hk2)) 11
  have : fitsB st en root 12 13 (i : Int) 0 (dflt (st[i]).f1) = true := hf
  rw [this]; rfl
theorem empty_dk {en : List S61} {n i : Nat} {tr : Bool} {f : S28} (h : FOk en n tr i f) : emptyB f (dk f) = true := by
  unfold emptyB dk
  split
  · simp
  · split
    · rfl
    · split <;> simp
/-- Is a value a field's default? -/
def isDefB (f : S28) (v : S39) : Bool := decide (v.f0 = f.f2 ∧ v.f1 = [] ∧ v.f2 = [] ∧ v.f3 = false)
theorem same_zero (v : S39) (df : Int) : transomref05_Same.f 3 v.f0 v.f1 v.f2 v.f3 df [] [] false = some (decide (v.f0 = df ∧ v.f1 = [] ∧ v.f2 = [] ∧ v.f3 = false)) := by
  have hs : ∀ l : List Int, (strOfNums l).toList = (strOfNums []).toList ↔ l = [] := by
    intro l
    constructor
    · intro h
      rw [ByteArray.toList_eq, ByteArray.toList_eq, strOfNums_data, strOfNums_data] at h
      simpa using h
    · rintro rfl; rfl
  obtain ⟨n, b, ks, f⟩ := v
  simp only [transomref05_Same.f, transomref05_Same.j0, hs]
  by_cases h1 : n = df
  · rw [if_pos h1]
    by_cases h2 : b = []
    · rw [if_pos h2]
      cases f with
      | true => simp [h1, h2]
      | false =>
        cases ks with
        | nil => simp [h1, h2, transomref05_Same.l0]
        | cons a t => simp [h1, h2]; omega
    · rw [if_neg h2]; simp [h2]
  · rw [if_neg h1]; simp [h1]
theorem kid_empty {st : List S31} {en : List S61} {root : Int} {n i d : Nat} {tr : Bool} {f : S28} (h : FOk en n tr i f) {v : S39} (hv : fitsB st en root d f.f1.f0 f.f1.f1 f.f1.f2 v = true) : emptyB f v = isDefB f v := by
  unfold emptyB isDefB
  by_cases h0 : 0 < f.f1.f2
  · rw [if_pos h0]
    obtain ⟨⟨a, b, c⟩, -⟩ := fits_list h0 hv
    have hz := h.zero (by omega)
    rw [a, b, c, hz]
    simp [List.length_eq_zero_iff]
  have e0 : f.f1.f2 = 0 := by have := h.ls; omega
  rw [if_neg h0]
  by_cases h13 : f.f1.f0 = 13
  · rw [if_pos h13]
    have hz := h.zero (by rw [h13]; simp [szB])
    cases e : v.f3 with
    | true => simp
    | false =>
      rw [h13, e0] at hv
      rw [fits_gone hv e, hz]; rfl
  rw [if_neg h13]
  rw [e0] at hv
  have hl := fits_low h13 hv
  by_cases hs : 0 < szB f.f1.f0
  · rw [if_pos hs]
    obtain ⟨a, b, c⟩ := leaf_num hs hl
    rw [a, b, c]; simp
  · rw [if_neg hs]
    obtain ⟨a, b, c⟩ := leaf_bytes hs hl
    have hz := h.zero (by omega)
    rw [a, b, c, hz]; simp [List.length_eq_zero_iff]
end Go.Proofs.Ythilhndejhnlnaa.Hand
end

section
/- IsDefault, walked. -/
namespace Go.Proofs.Ythilhndejhnlnaa.Hand
open Go.RowKit Go.Proofs.Ythilhndejhnlnaa.QAll Go.Proofs.YthilhndejhnlnaaW.PrintWords Go.Proofs.YthilhndejhnlnaaW.PrintLast Go.Proofs.YthilhndejhnlnaaW.PrintMore Go.Proofs.Ythilhndejhnlnaa.Mk
set_option linter.unusedVariables false
set_option linter.unusedSimpArgs false
theorem same_def {w : World} {v : S39} {f : S28} {u1 u2 : Value} (h1 : IsV w v u1) (h2 : IsV w (dk f) u2) : Calls Try.prog 10 #[u1, u2] w fun e w' => e = .returned (.bool (isDefB f v)) ∧ Below w.heap.size w w' := by
  obtain ⟨A1, c1, A2, c2, rfl, k1, l1, k2, l2⟩ := h1
  obtain ⟨A3, c3, A4, c4, rfl, k3, l3, k4, l4⟩ := h2
  exact transomref05_Same.calls 3 _ _ _ _ _ _ _ _ _ _ _ _ _ _ _ _ _ w k1 l1 k2 l2 k3 l3 k4 l4 (same_zero v f.f2)
set_option maxHeartbeats 3200000 in
set_option maxRecDepth 100000 in
theorem isdef_any (f : S28) (v : S39) (u : Value) (w : World) (hV : IsV w v u) : Calls Try.prog 15 #[fldV f, u] w fun e w' => e = .returned (.bool (isDefB f v)) ∧ Below w.heap.size w w' := by
  have HV := Aside0.mk hV
  obtain ⟨A2, c2, A3, c3, rfl, -⟩ := hV
  have HNO : Aside0 (∀ W, Calls Try.prog 21 #[fldV f] W (MkPost W (dk f))) := ⟨fun W => (transomref05_Nothing.calls f.f0 f.f1.f0 f.f1.f1 f.f1.f2 f.f2 _ _ _ _ W rfl).mono fun e w' ⟨v1, v2, he, h1, h2, hb⟩ => ⟨v1, v2, he, Rb.of h1, Rb.of h2, hb⟩⟩
  have HSA := Aside0.mk (fun (W : World) (u2 : Value) (h : Below w.heap.size w W) (h2 : IsV W (dk f) u2) => same_def (f := f) (HV.out.below h) h2)
  obtain ⟨EB, hEB⟩ : ∃ EB, isDefB f v = EB := ⟨_, rfl⟩
  rw [hEB] at HSA ⊢
  clear hEB
  obtain ⟨nm, ⟨kd, rf, ls⟩, df⟩ := f
  obtain ⟨g1, e1⟩ : ∃ g1, w.heap.size = g1 := ⟨_, rfl⟩
  obtain ⟨g2, e2⟩ : ∃ g2, g1 + 1 = g2 := ⟨_, rfl⟩
  obtain ⟨w1, hw1⟩ : ∃ w1, w.alloc (.cells #[.string nm, .int .u8 kd, .int .i64 rf, .int .i64 ls, .int .u64 df] 28) = w1 := ⟨_, rfl⟩
  obtain ⟨w2, hw2⟩ : ∃ w2, w1.alloc (.cells #[.int .u64 v.f0, .slice A2 v.f1.length c2, .slice A3 v.f2.length c3, .bool v.f3] 39) = w2 := ⟨_, rfl⟩
  have b1 : Below w.heap.size w w1 := by rw [← hw1]; exact below_alloc (Below.refl _ _) _
  have b2 : Below w1.heap.size w1 w2 := by rw [← hw2]; exact below_alloc (Below.refl _ _) _
  have s1 : w1.heap.size = g2 := by rw [← hw1]; simp [e1, e2]
  have a1 : w1.heap[g1]? = some (.cells #[.string nm, .int .u8 kd, .int .i64 rf, .int .i64 ls, .int .u64 df] 28 (0, 0)) := by rw [← hw1, ← e1]; exact heap_alloc_new w _
  have HW2 : Aside0 (Below w.heap.size w w2) := ⟨below_then b1 b1.size b2⟩
  have HP1 : Aside0 (w2.heap[g1]? = some (.cells #[.string nm, .int .u8 kd, .int .i64 rf, .int .i64 ls, .int .u64 df] 28 (0, 0))) := ⟨(b2.block _ (blk_lt a1)).trans a1⟩
  have HP2 : Aside0 (w2.heap[g2]? = some (.cells #[.int .u64 v.f0, .slice A2 v.f1.length c2, .slice A3 v.f2.length c3, .bool v.f3] 39 (0, 0))) := ⟨by rw [← hw2, ← s1]; exact heap_alloc_new w1 _⟩
  have HEQ := Aside0.mk (And.intro e1 (And.intro e2 (And.intro hw1 hw2)))
  clear e1 e2 hw1 hw2 b1 b2 s1 a1
  go_enter Try.func15, Try.ntmps15
  go_upto_region 1 with (fail)
  rw [HEQ.out.1, HEQ.out.2.1, HEQ.out.2.2.1, HEQ.out.2.2.2]
  have HCELL : Aside0 (∀ W, Below w2.heap.size w2 W → W.cell? ⟨g1, 0, none⟩ = some (.string nm) ∧ W.cell? ⟨g1, 1, none⟩ = some (.int .u8 kd) ∧ W.cell? ⟨g1, 2, none⟩ = some (.int .i64 rf) ∧ W.cell? ⟨g1, 3, none⟩ = some (.int .i64 ls) ∧ W.cell? ⟨g1, 4, none⟩ = some (.int .u64 df) ∧ W.cell? ⟨g2, 0, none⟩ = some (.int .u64 v.f0) ∧ W.cell? ⟨g2, 1, none⟩ = some (.slice A2 v.f1.length c2) ∧ W.cell? ⟨g2, 2, none⟩ = some (.slice A3 v.f2.length c3) ∧ W.cell? ⟨g2, 3, none⟩ = some (.bool v.f3)) := ⟨fun W hW => ⟨pw_cell_below hW ((blk_cell HP1.out 0).trans rfl), pw_cell_below hW ((blk_cell HP1.out 1).trans rfl), pw_cell_below hW ((blk_cell HP1.out 2).trans rfl), pw_cell_below hW ((blk_cell HP1.out 3).trans rfl), pw_cell_below hW ((blk_cell HP1.out 4).trans rfl), pw_cell_below hW ((blk_cell HP2.out 0).trans rfl), pw_cell_below hW ((blk_cell HP2.out 1).trans rfl), pw_cell_below hW ((blk_cell HP2.out 2).trans rfl), pw_cell_below hW ((blk_cell HP2.out 3).trans rfl)⟩⟩
  obtain ⟨t0, t1, t2, t3, t4, v0, v1, v2, v3⟩ := HCELL.out w2 (Below.refl _ _)
  go_region_held3 (fun W => W.cell? ⟨g1, 0, none⟩ = some (.string nm) ∧ W.cell? ⟨g1, 1, none⟩ = some (.int .u8 kd) ∧ W.cell? ⟨g1, 2, none⟩ = some (.int .i64 rf) ∧ W.cell? ⟨g1, 3, none⟩ = some (.int .i64 ls) ∧ W.cell? ⟨g1, 4, none⟩ = some (.int .u64 df) ∧ W.cell? ⟨g2, 0, none⟩ = some (.int .u64 v.f0) ∧ W.cell? ⟨g2, 1, none⟩ = some (.slice A2 v.f1.length c2) ∧ W.cell? ⟨g2, 2, none⟩ = some (.slice A3 v.f2.length c3) ∧ W.cell? ⟨g2, 3, none⟩ = some (.bool v.f3))
    (first | with_reducible exact ka | with_reducible exact kb | go_keep)
    (first
      | (go_at_call 21; (with_reducible refine (HNO.out w2.drew).mono ?_); rintro e wa hp; obtain ⟨x1, x2, rfl, hr1, hr2, hb⟩ := hp; obtain ⟨A5, c5, rfl, -, -⟩ := hr1.slice; obtain ⟨A6, c6, rfl, -, -⟩ := hr2.slice; have HBA := Aside0.mk (below_then (below_drew (Below.refl w2.heap.size w2)) (Nat.le_refl _) hb); have HDA := Aside0.mk (rb_isV (v := dk ⟨nm, ⟨kd, rf, ls⟩, df⟩) hr1 hr2); have ka := HCELL.out wa HBA.out; clear hr1 hr2 hb)
      | (go_at_call 10; (with_reducible refine (HSA.out wa _ (below_then HW2.out HW2.out.size HBA.out) HDA.out).mono ?_); rintro e wb ⟨rfl, hb⟩; have HBB := Aside0.mk (below_then HBA.out HBA.out.size hb); have kb := HCELL.out wb HBB.out; clear hb))
  go_wp2_with (fail)
  exact bodyPost_ret (v := .bool EB) (by simp [results, Try.results15, go_sem]) rfl ⟨rfl, below_then HW2.out HW2.out.size HBB.out⟩
end Go.Proofs.Ythilhndejhnlnaa.Hand
end
