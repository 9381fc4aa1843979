/- Texts joined: T5. -/
import Derived.Test.YthilhndejhnlnaaZD28
section
/- view: a view as a value, all of it, by how deep it is. -/
namespace Go.Proofs.Ythilhndejhnlnaa.Hand
open Go.RowKit Go.Proofs.Ythilhndejhnlnaa.QAll Go.Proofs.YthilhndejhnlnaaW.PrintWords Go.Proofs.YthilhndejhnlnaaW.PrintLast Go.Proofs.YthilhndejhnlnaaW.PrintMore Go.Proofs.Ythilhndejhnlnaa.Mk
set_option linter.unusedVariables false
set_option linter.unusedSimpArgs false
theorem wt_is (v : S39) : 1 + v.f1.length + wts v.f2 = wt v := by obtain ⟨n, b, ks, h⟩ := v; simp [wt]
theorem wt_pos (v : S39) : 1 ≤ wt v := by have := wt_is v; omega
theorem wts_len (xs : List S39) : xs.length ≤ wts xs := by
  induction xs with
  | nil => simp [wts]
  | cons a t ih => have := wt_pos a; simp only [wts, List.length_cons]; omega
theorem wts_get (xs : List S39) : ∀ (k : Nat) (hk : k < xs.length), wt xs[k] ≤ wts xs := by
  induction xs with
  | nil => intro k hk; simp at hk
  | cons a t ih =>
    intro k hk
    cases k with
    | zero => simp only [List.getElem_cons_zero, wts]; omega
    | succ k => have := ih k (by simpa using hk); simp only [List.getElem_cons_succ, wts]; omega
theorem wt_get (v : S39) (k : Nat) (hk : k < v.f2.length) : wt v.f2[k] ≤ wt v := by have := wts_get v.f2 k hk; have := wt_is v; omega
section
variable {st : List S31} {en : List S61} {root : Int}
theorem fits_low {d : Nat} {kd rf : Int} {v : S39} (h13 : kd ≠ 13) (h : fitsB st en root d kd rf 0 v = true) : leafB st en root kd rf 0 v = true := by
  cases d <;> simp only [fitsB] at h <;> rw [if_neg (by decide), if_neg h13] at h <;> exact h
theorem leaf_num {kd rf : Int} {v : S39} (hs : 0 < szB kd) (h : leafB st en root kd rf 0 v = true) : v.f1 = [] ∧ v.f2 = [] ∧ v.f3 = false := by
  unfold leafB at h
  rw [if_pos hs] at h
  split at h
  · cases h
  · next c =>
    simp only [Bool.and_eq_true, beq_iff_eq] at h
    refine ⟨List.eq_nil_of_length_eq_zero h.1, List.eq_nil_of_length_eq_zero (by have : ¬ 0 < v.f2.length := fun x => c (.inl x); omega), ?_⟩
    cases e : v.f3 with
    | false => rfl
    | true => exact absurd (.inr e) c
theorem leaf_bytes {kd rf : Int} {v : S39} (hs : ¬ 0 < szB kd) (h : leafB st en root kd rf 0 v = true) : v.f0 = 0 ∧ v.f2 = [] ∧ v.f3 = false := by
  unfold leafB at h
  rw [if_neg hs] at h
  split at h
  · cases h
  · next c =>
    simp only [Bool.and_eq_true, beq_iff_eq] at h
    refine ⟨h.1, List.eq_nil_of_length_eq_zero (by have : ¬ 0 < v.f2.length := fun x => c (.inl x); omega), ?_⟩
    cases e : v.f3 with
    | false => rfl
    | true => exact absurd (.inr e) c
theorem fits_gone {d : Nat} {rf : Int} {v : S39} (h : fitsB st en root d 13 rf 0 v = true) (hf : v.f3 = false) : v = z39 := by
  have hg : goneB v = true := by
    cases d <;> simp only [fitsB] at h <;> rw [if_neg (by decide), if_pos trivial, if_pos (.inr (.inr hf))] at h <;> exact h
  unfold goneB at hg
  simp only [Bool.and_eq_true, beq_iff_eq] at hg
  obtain ⟨n, b, ks, f⟩ := v
  obtain ⟨⟨h1, h2⟩, h3⟩ := hg
  simp only at h1 h2 h3 hf
  rw [h1, List.eq_nil_of_length_eq_zero h2, List.eq_nil_of_length_eq_zero h3, hf]; rfl
theorem gone_no {v : S39} (h : goneB v = true) (hf : v.f3 = true) (c : v.f0 ≠ 0 ∨ 0 < v.f1.length ∨ v.f3 = false) : False := by
  unfold goneB at h
  simp only [Bool.and_eq_true, beq_iff_eq] at h
  rcases c with c | c | c
  · exact c h.1.1
  · omega
  · rw [hf] at c; cases c
theorem fits_there {d : Nat} {rf : Int} {v : S39} (h : fitsB st en root d 13 rf 0 v = true) (hf : v.f3 = true) : ∃ e, d = e + 1 ∧ v.f0 = 0 ∧ v.f1 = [] ∧ v.f2.length = (rd_T31 st rf).f1.length ∧
    ∀ (k : Nat) (h1 : k < (rd_T31 st rf).f1.length) (h2 : k < v.f2.length), fitsB st en root e ((rd_T31 st rf).f1[k]).f1.f0 ((rd_T31 st rf).f1[k]).f1.f1 ((rd_T31 st rf).f1[k]).f1.f2 v.f2[k] = true := by
  cases d with
  | zero =>
    simp only [fitsB] at h
    rw [if_neg (by decide), if_pos trivial] at h
    split at h
    · next c => exact (gone_no h hf c).elim
    · cases h
  | succ e =>
    simp only [fitsB] at h
    rw [if_neg (by decide), if_pos trivial] at h
    split at h
    · next c => exact (gone_no h hf c).elim
    · next c =>
      split at h
      · cases h
      · next c2 =>
        refine ⟨e, rfl, Decidable.byContradiction (fun x => c (.inl x)), List.eq_nil_of_length_eq_zero (by have : ¬ 0 < v.f1.length := fun x => c (.inr (.inl x)); omega), by omega, fun k h1 h2 => ?_⟩
        rw [List.all_eq_true] at h
        exact h ((rd_T31 st rf).f1[k], v.f2[k]) (List.mem_iff_getElem.2 ⟨k, by rw [List.length_zip]; omega, by rw [List.getElem_zip]⟩)
theorem fits_list {d : Nat} {kd rf ls : Int} {v : S39} (hl : 0 < ls) (h : fitsB st en root d kd rf ls v = true) : (v.f0 = 0 ∧ v.f1 = [] ∧ v.f3 = false) ∧
    ∀ (k : Nat) (hk : k < v.f2.length), ∃ e, d = e + 1 ∧ fitsB st en root e kd rf (ls - 1) v.f2[k] = true ∧ (ls = 1 → kd = 13 → v.f2[k].f3 = true) := by
  have three : ¬ (v.f0 ≠ 0 ∨ 0 < v.f1.length ∨ v.f3 = true) → v.f0 = 0 ∧ v.f1 = [] ∧ v.f3 = false := fun c =>
    ⟨Decidable.byContradiction (fun x => c (.inl x)), List.eq_nil_of_length_eq_zero (by have : ¬ 0 < v.f1.length := fun x => c (.inr (.inl x)); omega), by cases e : v.f3 with | false => rfl | true => exact absurd (.inr (.inr e)) c⟩
  cases d with
  | zero =>
    simp only [fitsB] at h
    rw [if_pos hl] at h
    split at h
    · cases h
    · next c => exact ⟨three (fun x => c (.inr x)), fun k hk => absurd (.inl (by omega)) c⟩
  | succ e =>
    simp only [fitsB] at h
    rw [if_pos hl] at h
    split at h
    · cases h
    · next c =>
      refine ⟨three c, fun k hk => ?_⟩
      rw [List.all_eq_true] at h
      have := h v.f2[k] (List.getElem_mem hk)
      rw [Bool.and_eq_true] at this
      refine ⟨e, rfl, this.1, fun a b => ?_⟩
      have h2 := this.2
      unfold lackB at h2
      rw [show (ls - 1 == 0) = true by rw [beq_iff_eq]; omega, show (kd == 13) = true by rw [beq_iff_eq]; omega] at h2
      cases e : v.f2[k].f3 with
      | true => rfl
      | false => rw [e] at h2; cases h2
/-- A list, and a struct, so deep. -/
def LD (st : List S31) (en : List S61) (root : Int) (us : Value) (w0 : World) (d : Nat) : Prop :=
  ∀ (kd rf ls : Int) (v : S39) (u : Value) (w : World), 0 < ls → TyG en st.length kd rf ls → fitsB st en root d kd rf ls v = true → wt v ≤ 1099511627776 → Below w0.heap.size w0 w → IsV w v u →
    Calls Try.prog 34 #[us, tyV kd rf ls, .iface 119 u] w (MkPost w v)
def TD (st : List S31) (en : List S61) (root : Int) (us : Value) (w0 : World) (d : Nat) : Prop :=
  ∀ (rf : Int) (v : S39) (u : Value) (w : World), 0 ≤ rf → rf < st.length → fitsB st en root d 13 rf 0 v = true → v.f3 = true → wt v ≤ 1099511627776 → Below w0.heap.size w0 w → IsV w v u →
    Calls Try.prog 16 #[us, .int .i64 rf, .iface 80 u] w (MkPost w v)
variable {us : Value} {w0 : World} (hS : IsS w0 st en root us)
include hS
end
end Go.Proofs.Ythilhndejhnlnaa.Hand
end
