/- Layer 13, scan: digits of base sixteen, in plain Lean. -/
import Derived.Test.YtonekmigcpgdeaaS12
import Derived.Test.YtonekmigcpgdeaaQAllx4
namespace Go.Proofs.Ytonekmigcpgdeaa.Hand
open Go.RowKit Go.Proofs.Ytonekmigcpgdeaa.QAll Go.Proofs.YtonekmigcpgdeaaW.PrintWords Go.Proofs.YtonekmigcpgdeaaW.PrintLast Go.Proofs.YtonekmigcpgdeaaW.PrintMore Go.Proofs.Ytonekmigcpgdeaa.Runes
set_option linter.unusedVariables false
set_option linter.unusedSimpArgs false
/-- A small digit. -/
def hexS (c : Int) : Option Int := if 48 ≤ c ∧ c ≤ 57 then some (c - 48) else if 97 ≤ c ∧ c ≤ 102 then some (c - 87) else none
/-- Two digits for each byte. -/
def digs : List Int → List Int
  | [] => []
  | x :: t => dg false (x / 16) :: dg false (x % 16) :: digs t
/-- Bytes of two digits each. -/
def undF : List Int → Option (List Int)
  | [] => some []
  | [_] => none
  | x :: y :: t => match hexS x, hexS y with
    | some a, some b => (undF t).map fun r => (16 * a + b) :: r
    | _, _ => none
theorem hexS_le {c d : Int} (h : hexS c = some d) : 0 ≤ d ∧ d < 16 := by
  unfold hexS at h; split at h
  · injection h with h; omega
  · split at h
    · injection h with h; omega
    · cases h
theorem hexS_dg (k : Int) (h0 : 0 ≤ k) (h1 : k < 16) : hexS (dg false k) = some k := by
  unfold dg hexS
  by_cases a : k < 10
  · rw [if_pos a, if_pos (by omega)]; congr 1; omega
  · rw [if_neg a, if_neg (show ¬ (false = true) by decide), if_neg (by omega), if_pos (by omega)]; congr 1; omega
theorem digs_length (l : List Int) : (digs l).length = 2 * l.length := by
  induction l with
  | nil => rfl
  | cons x t ih => simp only [digs, List.length_cons, ih]; omega
theorem digs_byte (l : List Int) : ∀ x ∈ digs l, (∃ y ∈ l, x = dg false (y / 16) ∨ x = dg false (y % 16)) := by
  induction l with
  | nil => intro x hx; cases hx
  | cons y t ih =>
    intro x hx
    simp only [digs, List.mem_cons] at hx
    rcases hx with h | h | h
    · exact ⟨y, List.mem_cons_self, .inl h⟩
    · exact ⟨y, List.mem_cons_self, .inr h⟩
    · obtain ⟨z, hz, h⟩ := ih x h; exact ⟨z, List.mem_cons_of_mem _ hz, h⟩
theorem digs_bytes (l : List Int) (hb : ∀ x ∈ l, 0 ≤ x ∧ x < 256) : ∀ x ∈ digs l, 0 ≤ x ∧ x < 256 := by
  intro x hx
  obtain ⟨y, hy, h⟩ := digs_byte l x hx
  have := hb y hy
  rcases h with rfl | rfl
  · unfold dg; split
    · omega
    · rw [if_neg (show ¬ (false = true) by decide)]; omega
  · unfold dg; split
    · omega
    · rw [if_neg (show ¬ (false = true) by decide)]; omega
theorem undF_digs (l : List Int) (hb : ∀ x ∈ l, 0 ≤ x ∧ x < 256) : undF (digs l) = some l := by
  induction l with
  | nil => rfl
  | cons x t ih =>
    have hx := hb x List.mem_cons_self
    simp only [digs, undF]
    rw [hexS_dg (x / 16) (by omega) (by omega), hexS_dg (x % 16) (by omega) (by omega), ih (fun y hy => hb y (List.mem_cons_of_mem _ hy))]
    simp
    omega
theorem digs_append (a b : List Int) : digs (a ++ b) = digs a ++ digs b := by
  induction a with
  | nil => rfl
  | cons x t ih => simp [digs, ih]
theorem hex_fk (k : Nat) (hk : 0 < k) (c : Int) : scan_Hex.f k c = some ((hexS c).getD 0, (hexS c).isSome) := by
  obtain ⟨k, rfl⟩ : ∃ m, k = m + 1 := ⟨k - 1, by omega⟩
  unfold scan_Hex.f hexS
  by_cases h1 : c ≥ 48
  · rw [if_pos h1]
    by_cases h2 : c ≤ 57
    · simp only [scan_Hex.j0, decide_eq_true h2, if_true]
      rw [if_pos (show 48 ≤ c ∧ c ≤ 57 from ⟨h1, h2⟩)]; simp; omega
    · simp only [scan_Hex.j0, decide_eq_false h2, Bool.false_eq_true, if_false]
      rw [if_neg (show ¬ (48 ≤ c ∧ c ≤ 57) by omega)]
      by_cases h3 : c ≥ 97
      · rw [if_pos h3]
        by_cases h4 : c ≤ 102
        · rw [if_pos h4, if_pos (show 97 ≤ c ∧ c ≤ 102 from ⟨h3, h4⟩)]; simp; omega
        · rw [if_neg h4, if_neg (show ¬ (97 ≤ c ∧ c ≤ 102) by omega)]; rfl
      · rw [if_neg h3, if_neg (show ¬ (97 ≤ c ∧ c ≤ 102) by omega)]; rfl
  · rw [if_neg h1]
    simp only [scan_Hex.j0, Bool.false_eq_true, if_false]
    rw [if_neg (show ¬ (48 ≤ c ∧ c ≤ 57) by omega), if_neg (show ¬ c ≥ 97 by omega), if_neg (show ¬ (97 ≤ c ∧ c ≤ 102) by omega)]; rfl
theorem or_u8 (n d : Int) (h0 : 0 ≤ n) (h1 : n < 16) (h2 : 0 ≤ d) (h3 : d < 16) : Go.bits .or .u8 (n * 16 % 256) d = 16 * n + d := by
  have h := bits_join .u8 8 (by decide) (fun x h0 h1 => by rw [IntKind.wrap_u8]; omega) 4 (n * 16) d (by omega) (by omega) (by omega) h2 (by omega) (by omega)
  rw [show n * 16 % 256 = n * 16 by omega, h]; omega
theorem undig_l0 (l : List Int) (hl : l.length ≤ 1000000) : ∀ (d i k : Nat) (out : List Int), l.length = i + 2 * d → d + 1 < k → out.length + d ≤ 10000000 →
    scan_Undigits.l0 k l out (i : Int) = some (match undF (l.drop i) with | some r => (out ++ r, 0) | none => ([], 20)) := by
  intro d
  induction d with
  | zero =>
    intro i k out h hk ho
    obtain ⟨k, rfl⟩ : ∃ m, k = m + 1 := ⟨k - 1, by omega⟩
    simp only [scan_Undigits.l0]
    rw [if_neg (by omega), List.drop_of_length_le (by omega)]
    simp [undF]
  | succ d ih =>
    intro i k out h hk ho
    obtain ⟨k, rfl⟩ : ∃ m, k = m + 1 := ⟨k - 1, by omega⟩
    have h1 : i < l.length := by omega
    have h2 : i + 1 < l.length := by omega
    have e1 : wrap64 ((i : Int) + 1) = ((i + 1 : Nat) : Int) := by unfold wrap64; omega
    have e2 : wrap64 ((i : Int) + 2) = ((i + 2 : Nat) : Int) := by unfold wrap64; omega
    simp only [scan_Undigits.l0]
    rw [if_pos (by omega), if_pos (by omega), hex_fk k (by omega), e1]
    simp only [Option.bind_some]
    rw [if_pos (by omega), if_pos (by omega), hex_fk k (by omega), rd_eq l i h1, rd_eq l (i + 1) h2]
    simp only [Option.bind_some]
    have hd : l.drop i = l[i] :: l[i + 1] :: l.drop (i + 2) := by rw [List.drop_eq_getElem_cons h1, List.drop_eq_getElem_cons h2]
    rw [hd]
    simp only [undF]
    cases ha : hexS l[i] with
    | none => simp
    | some a =>
      cases hb : hexS l[i + 1] with
      | none => simp
      | some b =>
        have a1 := hexS_le ha
        have b1 := hexS_le hb
        simp only [Option.isSome_some, if_true, Option.getD_some]
        rw [if_pos (by omega), e2, ih (i + 2) k _ (by omega) (by omega) (by simp; omega), or_u8 a b a1.1 a1.2 b1.1 b1.2]
        cases undF (l.drop (i + 2)) <;> simp
theorem undF_odd : ∀ (n : Nat) (l : List Int), l.length = 2 * n + 1 → undF l = none
  | 0, [_], _ => rfl
  | 0, [], h => by simp at h
  | 0, _ :: _ :: _, h => by simp at h
  | n + 1, [], h => by simp at h
  | n + 1, [_], h => by simp at h
  | n + 1, x :: y :: t, h => by
    simp only [undF]
    rw [undF_odd n t (by simp at h; omega)]
    cases hexS x <;> cases hexS y <;> rfl
theorem undig_f (l : List Int) (k : Nat) (hl : l.length ≤ 1000000) (hk : l.length + 2 < k) : scan_Undigits.f k l = some (match undF l with | some r => (r, 0) | none => ([], 20)) := by
  unfold scan_Undigits.f
  by_cases e : (l.length : Int) % 2 = 0
  · rw [if_pos e]
    have h := undig_l0 l hl (l.length / 2) 0 k [] (by omega) (by omega) (by simp; omega)
    rw [show ((0 : Nat) : Int) = 0 from rfl, List.drop_zero] at h
    rw [h]; simp
  · rw [if_neg e, undF_odd (l.length / 2) l (by omega)]
theorem and15_u8 (x : Int) (h0 : 0 ≤ x) (h1 : x < 256) : Go.bits .and .u8 x 15 = x % 16 := u8_and15 x h0 h1
theorem digits_l0 (l : List Int) (hl : l.length ≤ 1000000) (hb : ∀ x ∈ l, 0 ≤ x ∧ x < 256) : ∀ (d i k : Nat) (out : List Int), l.length = i + d → d < k → out.length + 2 * d ≤ 10000000 →
    scan_Digits.l0 k out l (l.length : Int) (i : Int) = some (strOfNums (out ++ digs (l.drop i))) := by
  intro d
  induction d with
  | zero =>
    intro i k out h hk ho
    obtain ⟨k, rfl⟩ : ∃ m, k = m + 1 := ⟨k - 1, by omega⟩
    simp only [scan_Digits.l0]
    rw [if_neg (by omega), List.drop_of_length_le (by omega)]
    simp [digs]
  | succ d ih =>
    intro i k out h hk ho
    obtain ⟨k, rfl⟩ : ∃ m, k = m + 1 := ⟨k - 1, by omega⟩
    have h1 : i < l.length := by omega
    have hx := hb _ (List.getElem_mem h1)
    have e1 : wrap64 ((i : Int) + 1) = ((i + 1 : Nat) : Int) := by unfold wrap64; omega
    have b1 := dstr_at false (l[i] / 16) (by omega) (by omega)
    have b2 := dstr_at false (l[i] % 16) (by omega) (by omega)
    unfold dstr at b1 b2
    rw [if_neg (show ¬ (false = true) by decide)] at b1 b2
    simp only [scan_Digits.l0]
    rw [if_pos (by omega), if_pos (by omega), if_pos (by omega), rd_eq l i h1, and15_u8 _ hx.1 hx.2, if_pos (by omega), if_pos (by omega), if_pos (by omega), if_pos (by omega), b1, b2]
    simp only [Option.bind_some, List.length_cons, List.length_nil]
    rw [if_pos (by omega), e1, ih (i + 1) k _ (by omega) (by omega) (by simp; omega), List.drop_eq_getElem_cons h1]
    simp [digs]
theorem digits_f (l : List Int) (k : Nat) (hl : l.length ≤ 1000000) (hb : ∀ x ∈ l, 0 ≤ x ∧ x < 256) (hk : l.length < k) : scan_Digits.f k l = some (strOfNums (digs l)) := by
  have h := digits_l0 l hl hb l.length 0 k [] (by omega) hk (by simp; omega)
  unfold scan_Digits.f
  rw [show (0 : Int) = ((0 : Nat) : Int) from rfl, h]; simp
theorem digit_f (c : Int) (h0 : 0 ≤ c) (h1 : c < 256) : transomref13_digit.f 5 c false = some ((hexS c).getD (-1)) := by
  have w : ∀ x : Int, -1000 ≤ x → x ≤ 1000 → wrap64 x = x := by intro x a b; unfold wrap64; omega
  unfold transomref13_digit.f hexS
  by_cases h1 : c ≥ 48
  · rw [if_pos h1]
    by_cases h2 : c ≤ 57
    · simp only [transomref13_digit.j0, decide_eq_true h2, if_true]
      rw [if_pos (show 48 ≤ c ∧ c ≤ 57 from ⟨h1, h2⟩), w _ (by omega) (by omega)]; rfl
    · simp only [transomref13_digit.j0, decide_eq_false h2, Bool.false_eq_true, if_false]
      rw [if_neg (show ¬ (48 ≤ c ∧ c ≤ 57) by omega)]
      by_cases h3 : c ≥ 97
      · rw [if_pos h3]
        by_cases h4 : c ≤ 102
        · simp only [transomref13_digit.j1, decide_eq_true h4, if_true]
          rw [if_pos (show 97 ≤ c ∧ c ≤ 102 from ⟨h3, h4⟩), w (c - 97) (by omega) (by omega), w _ (by omega) (by omega)]; simp; omega
        · simp only [transomref13_digit.j1, decide_eq_false h4, transomref13_digit.j2, Bool.false_eq_true, if_false]
          rw [if_neg (show ¬ (97 ≤ c ∧ c ≤ 102) by omega)]; rfl
      · simp only [if_neg h3, transomref13_digit.j1, transomref13_digit.j2, Bool.false_eq_true, if_false]
        rw [if_neg (show ¬ (97 ≤ c ∧ c ≤ 102) by omega)]; rfl
  · rw [if_neg h1]
    simp only [transomref13_digit.j0, Bool.false_eq_true, if_false]
    rw [if_neg (show ¬ (48 ≤ c ∧ c ≤ 57) by omega), if_neg (show ¬ c ≥ 97 by omega), if_neg (show ¬ (97 ≤ c ∧ c ≤ 102) by omega)]
    simp only [transomref13_digit.j1, transomref13_digit.j2, Bool.false_eq_true, if_false]; rfl
end Go.Proofs.Ytonekmigcpgdeaa.Hand
