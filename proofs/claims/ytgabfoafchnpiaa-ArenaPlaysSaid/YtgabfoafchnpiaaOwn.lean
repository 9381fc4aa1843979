/- Rows of bytes that the call itself made: opened, written in the middle, shut. -/
import Derived.Test.YtgabfoafchnpiaaNums
import Derived.Laws.CopyOwn
namespace Go.Proofs.Ytgabfoafchnpiaa.Nums
open Go.RowKit Go.Proofs.Ytgabfoafchnpiaa.QAll Go.Proofs.YtgabfoafchnpiaaW.PrintWords Go.Proofs.YtgabfoafchnpiaaW.PrintLast Go.Proofs.YtgabfoafchnpiaaW.PrintMore

/-- What stands in l behind a store. -/
def put_ (l : List Int) (a : Nat) (bs : List Int) : List Int := l.take a ++ bs ++ l.drop (a + bs.length)
theorem put_length (l : List Int) (a : Nat) (bs : List Int) (h : a + bs.length ≤ l.length) : (put_ l a bs).length = l.length := by
  unfold put_; simp; omega
theorem put_take (l : List Int) (a : Nat) (bs : List Int) (h : a + bs.length ≤ l.length) : (put_ l a bs).take a = l.take a := by
  unfold put_; rw [List.append_assoc, List.take_append_of_le_length (by simp; omega), List.take_take, Nat.min_self]
theorem put_drop (l : List Int) (a : Nat) (bs : List Int) (h : a + bs.length ≤ l.length) : (put_ l a bs).drop (a + bs.length) = l.drop (a + bs.length) := by
  unfold put_
  rw [List.drop_append_of_le_length (by simp; omega), List.drop_of_length_le (by simp; omega), List.nil_append]
theorem put_mid (l : List Int) (a : Nat) (bs : List Int) (h : a + bs.length ≤ l.length) : ((put_ l a bs).drop a).take bs.length = bs := by
  unfold put_
  rw [List.append_assoc, List.drop_append_of_le_length (by simp; omega), List.drop_of_length_le (by simp; omega), List.nil_append, List.take_left']
  rfl
theorem put_bytes (l : List Int) (a : Nat) (bs : List Int) (hl : ∀ x ∈ l, 0 ≤ x ∧ x < 256) (hb : ∀ x ∈ bs, 0 ≤ x ∧ x < 256) : ∀ x ∈ put_ l a bs, 0 ≤ x ∧ x < 256 := by
  intro x hx
  unfold put_ at hx
  simp only [List.mem_append] at hx
  rcases hx with (hx | hx) | hx
  · exact hl x (List.mem_of_mem_take hx)
  · exact hb x hx
  · exact hl x (List.mem_of_mem_drop hx)
theorem withinB_iff (n : Nat) (a s : Int) : withinB n a s = true ↔ 0 ≤ a ∧ 0 ≤ s ∧ a + s ≤ n := by unfold withinB; simp [and_assoc]

/-- An own row that has elements: where it lies. -/
theorem own_open {W : World} {base : Nat} {v : Value} {l : List Int} (h : W.ownsRow base 5 1 v l.length (nums .u8 l)) (hl : 0 < l.length) :
    ∃ (g cap : Nat) (cur : List Value), v = .slice (some ⟨g, 0, none⟩) l.length cap ∧ base ≤ g ∧ g < W.heap.size ∧ l.length ≤ cap ∧ cap ≤ maxLen ∧ W.heap[g]? = some (.cells cur.toArray 5 (0, 0)) ∧ cur.length = cap ∧ cur.take l.length = nums .u8 l := by
  rcases h.2 with ⟨_, hn⟩ | ⟨g, cap, cur, rfl, hb, hh, hle, hm, hs, ht⟩
  · omega
  · exact ⟨g, cap, cur.toList, rfl, hb, (Array.getElem?_eq_some_iff.1 hh).1, hle, hm, by rw [hh], by simpa using hs, by simpa using ht⟩
/-- And shut again, behind a store of some bytes in its middle. -/
theorem own_spliced {W' : World} {base g cap a : Nat} {l bs : List Int} {cur : List Value} (hb : base ≤ g) (hle : l.length ≤ cap) (hm : cap ≤ maxLen) (hc : cur.length = cap) (ht : cur.take l.length = nums .u8 l) (hin : a + bs.length ≤ l.length)
    (hh : W'.heap[g]? = some (.cells (splice cur a (nums .u8 bs)).toArray 5 (0, 0))) : W'.ownsRow base 5 1 (.slice (some ⟨g, 0, none⟩) l.length cap) l.length (nums .u8 (put_ l a bs)) := by
  have hbl : (nums .u8 bs).length = bs.length := nums_length _ _
  refine ⟨by rw [nums_length, put_length l a bs hin, Nat.mul_one], .inr ⟨g, cap, (splice cur a (nums .u8 bs)).toArray, rfl, hb, hh, hle, hm, ?_, ?_⟩⟩
  · rw [List.size_toArray, length_splice _ _ _ (by rw [hbl]; omega), hc, Nat.mul_one]
  · rw [Nat.mul_one]
    unfold splice put_
    rw [nums_append, nums_append, hbl]
    have e1 : nums .u8 (l.take a) = cur.take a := by
      unfold nums; rw [List.map_take]; show (nums .u8 l).take a = _
      rw [← ht, List.take_take, Nat.min_eq_left (by omega)]
    have e2 : nums .u8 (l.drop (a + bs.length)) = (cur.drop (a + bs.length)).take (l.length - (a + bs.length)) := by
      unfold nums; rw [List.map_drop]; show (nums .u8 l).drop _ = _
      rw [← ht, List.drop_take]
    rw [e1, e2]
    show (cur.take a ++ (nums .u8 bs ++ cur.drop (a + bs.length))).take l.length = _
    rw [← List.append_assoc, List.take_append, List.take_of_length_le (by simp [hbl]; omega)]
    congr 2
    simp [hbl]; omega
theorem put_nil (l : List Int) (a : Nat) : put_ l a [] = l := by unfold put_; simp
/-- copy into the middle of an own row. -/
theorem copy_mid {W : World} {base g cap : Nat} {l bs : List Int} (ho : W.ownsRow base 5 1 (.slice (some ⟨g, 0, none⟩) l.length cap) l.length (nums .u8 l)) (i : Nat) (hin : i + bs.length ≤ l.length)
    (A : Option Addr) (c cc : Nat) (a' : Option Addr) (ha : 0 < bs.length → a' = some ⟨g, i, none⟩) (hr : Kd.C (Kd.int .u8) W A bs.length bs) :
    ∃ W1, (Builtin.copy_ #[23, 23] 3 #[.slice a' (l.length - i) cc, .slice A bs.length c]).run Try.prog W = .ok (.int .i64 (bs.length : Int)) W1 ∧
      W1.ownsRow base 5 1 (.slice (some ⟨g, 0, none⟩) l.length cap) l.length (nums .u8 (put_ l i bs)) ∧ W.grownBy W1 (some g) := by
  have hR := Kd.reads_of_C (enc := Value.int .u8) (d := (0 : Int)) (h1 := fun _ => rfl) hr
  have hinfo : (Try.prog.info? 5).map (·.size) = some 1 := by
    obtain ⟨i0, h0, _, h1, _⟩ := info_parts info5
    rw [h0]; simp [h1]
  rcases Nat.eq_zero_or_pos bs.length with h0 | hp
  · obtain rfl : bs = [] := List.eq_nil_of_length_eq_zero h0
    refine ⟨W, ?_, by rw [put_nil]; exact ho, World.grownBy.refl W _⟩
    exact run_copy_none W 23 23 3 5 a' A (l.length - i) cc 0 c Try.underlying23 hinfo (Nat.zero_min _)
  · obtain ⟨ad, hA, hc⟩ := hR.2.2 hp
    obtain rfl := ha hp
    subst hA
    rcases ho.2 with ⟨hv, _⟩ | ⟨g', cap', cur, hv, hb, hh, hnc, hcm, hcs, htake⟩
    · cases hv
    injection hv with hv1 _ hv2
    injection hv1 with hv1
    injection hv1 with hv1
    subst hv1 hv2
    have hcs1 : cur.size = cap := by omega
    have hkl : (nums .u8 bs).length = bs.length := nums_length _ _
    have hsrc : ∀ j u, (nums .u8 bs)[j]? = some u → W.cell? (ad.add j) = some u := by
      intro j u hu
      have hj : j < bs.length := by
        rcases Nat.lt_or_ge j bs.length with h | h
        · exact h
        · rw [List.getElem?_eq_none (by rw [hkl]; exact h)] at hu; cases hu
      rw [hc j hj, ← hu]
      simp [nums, List.getD_eq_getElem?_getD, hj]
    have h1c : ∀ v ∈ nums .u8 bs, v.oneCell' = true := by intro u hu; simp only [nums, List.mem_map] at hu; obtain ⟨q, _, rfl⟩ := hu; rfl
    have hrun := run_copy_cells (P := Try.prog) W 23 23 3 5 g i (l.length - i) cc ad bs.length c (nums .u8 bs) Try.underlying23 hinfo (by rw [hkl]; exact (Nat.min_eq_left (by omega)).symm) hsrc
      (fun j hj => by rw [cell_of_row W g _ cur 5 (0, 0) hh]; simp; omega) (fun j _ => blk_frozen hh _) h1c
    obtain ⟨cur', h3, h4, h5⟩ := setCells_row (nums .u8 bs) i W cur hh (by rw [hkl]; omega)
    obtain ⟨s1, s2, s3, s4⟩ := setCells_same g (nums .u8 bs) i W
    refine ⟨_, by rw [hrun, hkl]; rfl, ?_, ⟨s1, s2, s3, by rw [s4]; exact Nat.le_refl _, fun k _ hk => setCells_far _ _ k (fun he => hk (by rw [he]))⟩⟩
    have ht : cur.toList.take l.length = nums .u8 l := by rw [Nat.mul_one] at htake; exact htake
    have hsp : cur' = (splice cur.toList i (nums .u8 bs)).toArray := by
      rw [← Array.toArray_toList (xs := cur'), h5]; unfold splice; rw [List.append_assoc]
    refine own_spliced (cur := cur.toList) hb hnc hcm (by simpa using hcs1) ht hin ?_
    rw [h3, hsp]
end Go.Proofs.Ytgabfoafchnpiaa.Nums
