/- Texts joined: NL. -/
import Derived.Test.YtjgjidehlldfhaaZC17
import Derived.Test.YtjgjidehlldfhaaZC18
section
/- What Load of layer 1 comes to: numbers of 1, 2, 4, 8 bytes, the lowest byte first. Plain lists and numbers. -/
namespace Go.Proofs.Ytjgjidehlldfhaa.Nums
open Go.RowKit Go.Proofs.Ytjgjidehlldfhaa.QAll Go.Proofs.YtjgjidehlldfhaaW.PrintWords Go.Proofs.YtjgjidehlldfhaaW.PrintLast Go.Proofs.YtjgjidehlldfhaaW.PrintMore

def leN : List Int → Int
  | [] => 0
  | b :: t => b + 256 * leN t
def leB (n : Int) : Nat → List Int
  | 0 => []
  | s + 1 => (n % 256) :: leB (n / 256) s

theorem leN_snoc (l : List Int) (b : Int) : leN (l ++ [b]) = leN l + b * 256 ^ l.length := by
  induction l with
  | nil => simp [leN]
  | cons a t ih =>
    simp only [List.cons_append, leN, ih, List.length_cons, Int.pow_succ, Int.mul_add]
    rw [Int.mul_comm (256 ^ t.length) 256, ← Int.mul_assoc b, Int.mul_comm b 256, Int.mul_assoc]; omega
theorem leN_bound (l : List Int) (h : ∀ x ∈ l, 0 ≤ x ∧ x < 256) : 0 ≤ leN l ∧ leN l < 256 ^ l.length := by
  induction l with
  | nil => simp [leN]
  | cons a t ih =>
    obtain ⟨h0, h1⟩ := ih (fun x hx => h x (List.mem_cons_of_mem _ hx))
    have ha := h a List.mem_cons_self
    simp only [leN, List.length_cons, Int.pow_succ]; omega
theorem rd_eq (l : List Int) (i : Nat) (h : i < l.length) : rd l (i : Int) = l[i] := by
  unfold rd; rw [show ((i : Int)).toNat = i from rfl, List.getD_eq_getElem?_getD, List.getElem?_eq_getElem h]; rfl
theorem rd_mem (l : List Int) (i : Nat) (h : i < l.length) : rd l (i : Int) ∈ l := by rw [rd_eq l i h]; exact List.getElem_mem h

theorem take_succ_drop (l : List Int) (a j : Nat) (h : a + j < l.length) : (l.drop a).take (j + 1) = (l.drop a).take j ++ [l[a + j]] := by
  rw [List.take_succ_eq_append_getElem (by rw [List.length_drop]; omega), List.getElem_drop]

theorem load_loop (l : List Int) (hb : ∀ x ∈ l, 0 ≤ x ∧ x < 256) (hl : l.length < 4611686018427387904) (a : Nat) :
    ∀ (j k : Nat) (x8 : Int), a + j ≤ l.length → j ≤ 8 → 0 ≤ x8 → (x8 + 1) * 256 ^ j ≤ 18446744073709551616 → j < k →
      wire_Load.l0 k l (a : Int) x8 ((j : Int) - 1) = some (x8 * 256 ^ j + leN ((l.drop a).take j), true) := by
  intro j
  induction j with
  | zero =>
    intro k x8 _ _ _ _ hk
    obtain ⟨k, rfl⟩ : ∃ m, k = m + 1 := ⟨k - 1, by omega⟩
    simp only [wire_Load.l0]; rw [if_neg (by omega)]; simp [leN]
  | succ j ih =>
    intro k x8 ha hj h0 h1 hk
    obtain ⟨k, rfl⟩ : ∃ m, k = m + 1 := ⟨k - 1, by omega⟩
    have e9 : (((j + 1 : Nat) : Int) - 1) = (j : Int) := by omega
    rw [e9]
    simp only [wire_Load.l0]
    have ew : wrap64 ((a : Int) + (j : Int)) = ((a + j : Nat) : Int) := by unfold wrap64; omega
    have ew1 : wrap64 ((j : Int) - 1) = (j : Int) - 1 := by unfold wrap64; omega
    rw [if_pos (by omega), ew, ew1, if_pos (by omega), if_pos (by omega)]
    have hm := hb _ (rd_mem l (a + j) (by omega))
    have hpj : (1 : Int) ≤ 256 ^ j := by
      have := Int.pow_pos (n := (256 : Int)) (m := j) (by decide); omega
    rw [Int.pow_succ] at h1
    have hx : (x8 + 1) * 256 ≤ 18446744073709551616 := by
      have h3 : (x8 + 1) * 256 * 1 ≤ (x8 + 1) * 256 * 256 ^ j := Int.mul_le_mul_of_nonneg_left hpj (by omega)
      have h4 : (x8 + 1) * 256 * 256 ^ j = (x8 + 1) * (256 ^ j * 256) := by rw [Int.mul_assoc, Int.mul_comm 256 (256 ^ j)]
      rw [h4] at h3; omega
    have eo : Go.bits .or .u64 (IntKind.u64.wrap (x8 * 256)) (IntKind.u64.wrap (rd l ((a + j : Nat) : Int))) = x8 * 256 + rd l ((a + j : Nat) : Int) := by
      rw [U.wrap_u64, U.wrap_u64, Int.emod_eq_of_lt (by omega) (by omega), Int.emod_eq_of_lt (by omega) (by omega)]
      exact U.or_u64 8 _ _ (by omega) (by rw [show (2 : Int) ^ 8 = 256 from rfl]; omega) (by omega) hm.1 (by rw [show (2 : Int) ^ 8 = 256 from rfl]; omega) (by omega)
    rw [eo, ih k _ (by omega) (by omega) (by omega) ?_ (by omega)]
    · rw [take_succ_drop l a j (by omega), leN_snoc, List.length_take, List.length_drop, Nat.min_eq_left (by omega), rd_eq l (a + j) (by omega), Int.pow_succ, Int.add_mul, Int.mul_assoc x8, Int.mul_comm 256 (256 ^ j)]
      congr 2; omega
    · have : (x8 * 256 + rd l ((a + j : Nat) : Int) + 1) * 256 ^ j ≤ ((x8 + 1) * 256) * 256 ^ j := Int.mul_le_mul_of_nonneg_right (by omega) (by omega)
      rw [Int.mul_assoc (x8 + 1) 256, Int.mul_comm 256 (256 ^ j)] at this
      omega

/-- Is it a number's size? -/
def sizedB (s : Int) : Bool := s == 1 || s == 2 || s == 4 || s == 8
theorem sized_f (s : Int) : wire_Sized.f s = some (sizedB s) := by
  unfold wire_Sized.f sizedB
  by_cases h1 : s = 1
  · simp [h1]
  by_cases h2 : s = 2
  · simp [h2]
  by_cases h4 : s = 4
  · simp [h4]
  simp [h1, h2, h4]
def withinB (n : Nat) (a s : Int) : Bool := decide (0 ≤ a) && decide (0 ≤ s) && decide (a + s ≤ n)
theorem within_f (l : List Int) (hl : l.length < 4611686018427387904) (a s : Int) : wire_Within.f l a s = some (withinB l.length a s) := by
  unfold wire_Within.f withinB
  by_cases h0 : a ≥ 0
  · rw [if_pos h0]
    by_cases h1 : s ≥ 0
    · rw [if_pos h1]
      by_cases h2 : a ≤ (l.length : Int)
      · rw [if_pos h2]
        have e : wrap64 ((l.length : Int) - a) = (l.length : Int) - a := by unfold wrap64; omega
        have g0 : decide (0 ≤ a) = true := decide_eq_true h0
        have g1 : decide (0 ≤ s) = true := decide_eq_true h1
        rw [e, g0, g1]; simp; omega
      · rw [if_neg h2]
        have : ¬ (a + s ≤ (l.length : Int)) := by omega
        simp [this]
    · rw [if_neg h1]
      have : ¬ (0 ≤ s) := h1
      simp [this]
  · rw [if_neg h0]
    have : ¬ (0 ≤ a) := h0
    simp [this]

theorem sized_le {s : Int} (h : sizedB s = true) : 1 ≤ s ∧ s ≤ 8 := by
  unfold sizedB at h; simp at h; omega

/-- What Load tells. -/
def loadV (l : List Int) (a s : Int) : Int × Bool :=
  if sizedB s && withinB l.length a s then (leN ((l.drop a.toNat).take s.toNat), true) else (0, false)
theorem load_f (l : List Int) (hb : ∀ x ∈ l, 0 ≤ x ∧ x < 256) (hl : l.length < 4611686018427387904) (a s : Int) (k : Nat) (hk : 9 ≤ k) : wire_Load.f (k + 1) l a s = some (loadV l a s) := by
  unfold wire_Load.f loadV
  rw [sized_f]
  simp only [Option.bind_some]
  cases hs : sizedB s with
  | false => simp [wire_Load.j0]
  | true =>
    obtain ⟨s1, s8⟩ := sized_le hs
    rw [if_pos rfl, within_f l hl a s]
    simp only [Option.bind_some]
    cases hw : withinB l.length a s with
    | false => simp [wire_Load.j0]
    | true =>
      have hw' := hw
      unfold withinB at hw'
      simp only [Bool.and_eq_true, decide_eq_true_eq] at hw'
      obtain ⟨⟨a0, _⟩, hle⟩ := hw'
      obtain ⟨m, rfl⟩ := Int.eq_ofNat_of_zero_le a0
      obtain ⟨t, rfl⟩ := Int.eq_ofNat_of_zero_le (show 0 ≤ s by omega)
      have e1 : wrap64 ((t : Int) - 1) = (t : Int) - 1 := by unfold wrap64; omega
      simp only [wire_Load.j0, Bool.not_true, Bool.false_eq_true, if_false, e1, Bool.and_self, if_true, Int.toNat_natCast]
      have hp : (0 + 1) * (256 : Int) ^ t ≤ 18446744073709551616 := by
        have h : (256 : Nat) ^ t ≤ 18446744073709551616 := Nat.le_trans (Nat.pow_le_pow_right (by decide) (show t ≤ 8 by omega)) (by decide)
        rw [Int.zero_add, Int.one_mul, show (256 : Int) ^ t = ((256 ^ t : Nat) : Int) from (Int.natCast_pow 256 t).symm]
        exact Int.ofNat_le.2 h
      rw [load_loop l hb hl m t k 0 (by omega) (by omega) (Int.le_refl 0) hp (by omega), Int.zero_mul, Int.zero_add]

end Go.Proofs.Ytjgjidehlldfhaa.Nums
end
