/- Layer 13, scan: what the document's reader computes; plain Lean. -/
import Derived.Test.YtonekmigcpgdeaaDoorS15
import Derived.Test.YtonekmigcpgdeaaDoorS7
import Derived.Test.YtonekmigcpgdeaaDoorQAllx4
namespace Go.Proofs.YtonekmigcpgdeaaDoor.Hand
open Go.RowKit Go.Proofs.YtonekmigcpgdeaaDoor.QAll Go.Proofs.YtonekmigcpgdeaaDoorW.PrintWords Go.Proofs.YtonekmigcpgdeaaDoorW.PrintLast Go.Proofs.YtonekmigcpgdeaaDoorW.PrintMore Go.Proofs.YtonekmigcpgdeaaDoor.Runes
set_option linter.unusedVariables false
set_option linter.unusedSimpArgs false
theorem w64 (x : Int) (h0 : -4000000000000000000 ≤ x) (h1 : x ≤ 4000000000000000000) : wrap64 x = x := by unfold wrap64; omega
theorem digitT_f (k : Nat) (hk : 4 < k) (c : Int) (h0 : -1 ≤ c) (h1 : c < 256) : transomref13_digit.f k c true = some ((hexV c).getD (-1)) := by
  obtain ⟨k, rfl⟩ : ∃ q, k = q + 3 := ⟨k - 3, by omega⟩
  unfold transomref13_digit.f hexV
  by_cases h1 : c ≥ 48
  · rw [if_pos h1]
    by_cases h2 : c ≤ 57
    · simp only [transomref13_digit.j0, decide_eq_true h2, if_true]
      rw [if_pos (show 48 ≤ c ∧ c ≤ 57 from ⟨h1, h2⟩), w64 _ (by omega) (by omega)]; rfl
    · simp only [transomref13_digit.j0, decide_eq_false h2, Bool.false_eq_true, if_false]
      rw [if_neg (show ¬ (48 ≤ c ∧ c ≤ 57) by omega)]
      by_cases h3 : c ≥ 97
      · rw [if_pos h3]
        by_cases h4 : c ≤ 102
        · simp only [transomref13_digit.j1, decide_eq_true h4, if_true]
          rw [if_pos (show 97 ≤ c ∧ c ≤ 102 from ⟨h3, h4⟩), w64 (c - 97) (by omega) (by omega), w64 _ (by omega) (by omega)]; simp; omega
        · simp only [transomref13_digit.j1, decide_eq_false h4, Bool.false_eq_true, if_false, if_true]
          rw [if_neg (show ¬ (97 ≤ c ∧ c ≤ 102) by omega), if_pos (show c ≥ 65 by omega), if_neg (show ¬ (65 ≤ c ∧ c ≤ 70) by omega)]
          simp only [transomref13_digit.j2, decide_eq_false (show ¬ c ≤ 70 by omega), Bool.false_eq_true, if_false]; rfl
      · simp only [if_neg h3, transomref13_digit.j1, Bool.false_eq_true, if_false, if_true]
        rw [if_neg (show ¬ (97 ≤ c ∧ c ≤ 102) by omega)]
        by_cases h5 : c ≥ 65
        · rw [if_pos h5]
          by_cases h6 : c ≤ 70
          · simp only [transomref13_digit.j2, decide_eq_true h6, if_true]
            rw [if_pos (show 65 ≤ c ∧ c ≤ 70 from ⟨h5, h6⟩), w64 (c - 65) (by omega) (by omega), w64 _ (by omega) (by omega)]; simp; omega
          · simp only [transomref13_digit.j2, decide_eq_false h6, Bool.false_eq_true, if_false]
            rw [if_neg (show ¬ (65 ≤ c ∧ c ≤ 70) by omega)]; rfl
        · rw [if_neg h5, if_neg (show ¬ (65 ≤ c ∧ c ≤ 70) by omega)]
          simp only [transomref13_digit.j2, Bool.false_eq_true, if_false]; rfl
  · rw [if_neg h1]
    simp only [transomref13_digit.j0, Bool.false_eq_true, if_false]
    rw [if_neg (show ¬ (48 ≤ c ∧ c ≤ 57) by omega), if_neg (show ¬ c ≥ 97 by omega), if_neg (show ¬ (97 ≤ c ∧ c ≤ 102) by omega)]
    simp only [transomref13_digit.j1, Bool.false_eq_true, if_false, if_true]
    rw [if_neg (show ¬ c ≥ 65 by omega), if_neg (show ¬ (65 ≤ c ∧ c ≤ 70) by omega)]
    simp only [transomref13_digit.j2, Bool.false_eq_true, if_false]; rfl
/-- Digits of base sixteen, one at a time. -/
def unitG (b : List Int) : Nat → Nat → Int → Int × Nat
  | 0, i, n => (n, i)
  | m + 1, i, n => match hexV (hereZ b i) with
    | none => (-1, i)
    | some d => unitG b m (i + 1) (n * 16 + d)
theorem unitG_spec (b : List Int) : ∀ (m i : Nat) (n : Int), i ≤ b.length → (∃ r, unitF ((b.drop i).take m) n = some r ∧ i + m ≤ b.length ∧ unitG b m i n = (r, i + m)) ∨ ((unitF ((b.drop i).take m) n = none ∨ b.length < i + m) ∧ ∃ j, j ≤ b.length ∧ unitG b m i n = (-1, j))
  | 0, i, n, hi => .inl ⟨n, by rw [List.take_zero]; rfl, by omega, rfl⟩
  | m + 1, i, n, hi => by
    rcases Nat.lt_or_ge i b.length with hlt | hge
    · have hz : hereZ b i = b[i] := by unfold hereZ; rw [dif_pos hlt]
      have hd : (b.drop i).take (m + 1) = b[i] :: (b.drop (i + 1)).take m := by rw [List.drop_eq_getElem_cons hlt, List.take_succ_cons]
      rw [hd, unitF_cons]
      simp only [unitG, hz]
      cases hx : hexV b[i] with
      | none => exact .inr ⟨.inl rfl, i, hi, rfl⟩
      | some d =>
        simp only [Option.bind_some]
        rcases unitG_spec b m (i + 1) (n * 16 + d) hlt with ⟨r, h1, h2, h3⟩ | ⟨h1, j, h2, h3⟩
        · exact .inl ⟨r, h1, by omega, by rw [h3]; congr 1; omega⟩
        · exact .inr ⟨by rcases h1 with h1 | h1; exact .inl h1; exact .inr (by omega), j, h2, h3⟩
    · refine .inr ⟨.inr (by omega), i, hi, ?_⟩
      simp only [unitG, (hereZ_no (b := b) (i := i) (by omega)).1]
      rfl
theorem unitG_V (b : List Int) (i : Nat) (hi : i ≤ b.length) : (∃ n, unitV b i = some n ∧ unitG b 4 i 0 = (n, i + 4)) ∨ (unitV b i = none ∧ ∃ j, j ≤ b.length ∧ unitG b 4 i 0 = (-1, j)) := by
  unfold unitV
  rcases unitG_spec b 4 i 0 hi with ⟨r, h1, h2, h3⟩ | ⟨h1, j, h2, h3⟩
  · exact .inl ⟨r, by rw [if_pos h2, h1], h3⟩
  · refine .inr ⟨?_, j, h2, h3⟩
    rcases h1 with h1 | h1
    · rw [h1]; split <;> rfl
    · rw [if_neg (by omega)]
section plain
variable {b : List Int} (hby : ∀ x ∈ b, 0 ≤ x ∧ x < 256) (hl : b.length ≤ 1000000)
include hby
theorem hereZ_byte (i : Nat) : -1 ≤ hereZ b i ∧ hereZ b i < 256 := by
  unfold hereZ
  split
  · have := hby _ (List.getElem_mem (by assumption)); omega
  · omega
theorem rhere_f (i : Nat) : transomref13_Reader_here.f [] [] 0 b (i : Int) false = some (hereZ b i, 0, (i : Int), false) := by
  unfold transomref13_Reader_here.f hereZ
  by_cases h : i < b.length
  · have := hby _ (List.getElem_mem h)
    rw [if_pos (by omega), if_pos (by omega), dif_pos h, rd_eq b i h]
    have e : wrap64 b[i] = b[i] := by unfold wrap64; omega
    rw [e]
  · rw [if_neg (by omega), dif_neg h]
include hl
theorem runit_l0 : ∀ (m x4 i k : Nat) (n : Int), x4 + m = 4 → i ≤ b.length → m + 6 < k → 0 ≤ n → n < 16 ^ x4 →
    transomref13_Reader_unit.l0 k n (x4 : Int) [] [] 0 b (i : Int) false = some ((unitG b m i n).1, 0, ((unitG b m i n).2 : Int), false) := by
  intro m
  induction m with
  | zero =>
    intro x4 i k n h1 h2 h3 h4 h5
    obtain ⟨k, rfl⟩ : ∃ q, k = q + 1 := ⟨k - 1, by omega⟩
    simp only [transomref13_Reader_unit.l0]
    rw [if_neg (by omega)]; rfl
  | succ m ih =>
    intro x4 i k n h1 h2 h3 h4 h5
    obtain ⟨k, rfl⟩ : ∃ q, k = q + 1 := ⟨k - 1, by omega⟩
    have q1 : m + 6 < k := by omega
    have q2 : x4 + 1 + m = 4 := by omega
    have q5 : (x4 : Int) < 4 := by omega
    have q6 : 4 < k := by omega
    have hz := hereZ_byte hby i
    have hp : (16 : Int) ^ x4 ≤ 4096 := by
      have : x4 = 0 ∨ x4 = 1 ∨ x4 = 2 ∨ x4 = 3 := by omega
      rcases this with rfl | rfl | rfl | rfl <;> decide
    obtain ⟨P, hP⟩ : ∃ P, (16 : Int) ^ x4 = P := ⟨_, rfl⟩
    rw [hP] at hp h5
    have ihh := ih (x4 + 1) (i + 1) k
    rw [Int.pow_succ, hP] at ihh
    simp only [transomref13_Reader_unit.l0]
    rw [if_pos q5, rhere_f hby]
    simp only [Option.bind_some]
    rw [digitT_f k q6 _ hz.1 hz.2]
    simp only [Option.bind_some, unitG]
    cases hx : hexV (hereZ b i) with
    | none => simp
    | some d =>
      have hd := hexV_le hx
      have hlt : i < b.length := by
        rcases Nat.lt_or_ge i b.length with h | h
        · exact h
        · rw [(hereZ_no (b := b) (i := i) (by omega)).1] at hx
          have e : hexV (-1) = none := rfl
          rw [e] at hx; cases hx
      have q3 : 0 ≤ n * 16 + d := by clear hP ih ihh; omega
      have q4 : n * 16 + d < P * 16 := by clear hP ih ihh; omega
      simp only [Option.getD_some]
      have e1 : wrap64 ((i : Int) + 1) = ((i + 1 : Nat) : Int) := by unfold wrap64; omega
      have e2 : wrap64 ((x4 : Int) + 1) = ((x4 + 1 : Nat) : Int) := by unfold wrap64; omega
      rw [if_neg (by omega), w64 (16 * n) (by omega) (by omega), w64 (16 * n + d) (by omega) (by omega), e1, e2, show 16 * n + d = n * 16 + d by omega]
      clear hP ih
      exact ihh (n * 16 + d) q2 hlt q1 q3 q4
theorem runit_f (i k : Nat) (hi : i ≤ b.length) (hk : 10 < k) : transomref13_Reader_unit.f k [] [] 0 b (i : Int) false = some ((unitG b 4 i 0).1, 0, ((unitG b 4 i 0).2 : Int), false) := by
  unfold transomref13_Reader_unit.f
  exact runit_l0 hby hl 4 0 i k 0 (by omega) hi (by omega) (by decide) (by decide)
end plain
theorem rsign_f (n : Int) (h0 : 0 ≤ n) (h1 : n ≤ 1114111) (h2 : n < 55296 ∨ 57343 < n) : transomref13_sign.f n = some (Lib.encodeRuneZ n) := by
  unfold transomref13_sign.f
  by_cases e1 : n < 128
  · rw [if_pos e1, Lib.encodeRuneZ_one h0 (by omega), show n % 256 = n by omega]
  rw [if_neg e1]
  have t1 : Int.tdiv n 64 = n / 64 := by rw [Int.tdiv_eq_ediv_of_nonneg h0]
  have t2 : Int.tmod n 64 = n % 64 := by rw [Int.tmod_eq_emod_of_nonneg h0]
  have t3 : Int.tdiv n 4096 = n / 4096 := by rw [Int.tdiv_eq_ediv_of_nonneg h0]
  have t4 : Int.tdiv n 262144 = n / 262144 := by rw [Int.tdiv_eq_ediv_of_nonneg h0]
  have t5 : Int.tmod (n / 64) 64 = n / 64 % 64 := by rw [Int.tmod_eq_emod_of_nonneg (by omega)]
  have t6 : Int.tmod (n / 4096) 64 = n / 4096 % 64 := by rw [Int.tmod_eq_emod_of_nonneg (by omega)]
  by_cases e2 : n < 2048
  · rw [if_pos e2, Lib.encodeRuneZ_two (by omega) (by omega), t1, t2, w64 (n / 64) (by omega) (by omega), w64 (192 + n / 64) (by omega) (by omega), w64 (128 + n % 64) (by omega) (by omega), show (192 + n / 64) % 256 = 192 + n / 64 by omega, show (128 + n % 64) % 256 = 128 + n % 64 by omega]
  rw [if_neg e2]
  by_cases e3 : n < 65536
  · rw [if_pos e3, Lib.encodeRuneZ_three (by omega), t3, t1, t2, w64 (n / 64) (by omega) (by omega), t5, w64 (n / 4096) (by omega) (by omega), w64 (224 + n / 4096) (by omega) (by omega), w64 (128 + n / 64 % 64) (by omega) (by omega), w64 (128 + n % 64) (by omega) (by omega), show (224 + n / 4096) % 256 = 224 + n / 4096 by omega, show (128 + n / 64 % 64) % 256 = 128 + n / 64 % 64 by omega, show (128 + n % 64) % 256 = 128 + n % 64 by omega]
  rw [if_neg e3, Lib.encodeRuneZ_four (by omega) h1, t4, t3, t1, t2, w64 (n / 64) (by omega) (by omega), t5, w64 (n / 4096) (by omega) (by omega), t6, w64 (n / 262144) (by omega) (by omega), w64 (240 + n / 262144) (by omega) (by omega), w64 (128 + n / 4096 % 64) (by omega) (by omega), w64 (128 + n / 64 % 64) (by omega) (by omega), w64 (128 + n % 64) (by omega) (by omega), show (240 + n / 262144) % 256 = 240 + n / 262144 by omega, show (128 + n / 4096 % 64) % 256 = 128 + n / 4096 % 64 by omega, show (128 + n / 64 % 64) % 256 = 128 + n / 64 % 64 by omega, show (128 + n % 64) % 256 = 128 + n % 64 by omega]
end Go.Proofs.YtonekmigcpgdeaaDoor.Hand
