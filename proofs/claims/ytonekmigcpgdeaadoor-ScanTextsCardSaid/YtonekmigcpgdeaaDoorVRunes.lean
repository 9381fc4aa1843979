/- UTF-8, in plain Lean: what the program's sign and Utf8 compute on lists of bytes, and a rune's own bytes. -/
import Derived.Test.YtonekmigcpgdeaaDoorQAllx2
import Derived.Test.YtonekmigcpgdeaaDoorQAllx1
import Derived.Test.YtonekmigcpgdeaaDoorQAllx3
namespace Go.Proofs.YtonekmigcpgdeaaDoor.Runes
open Go.RowKit Go.Proofs.YtonekmigcpgdeaaDoor.QAll Go.Proofs.YtonekmigcpgdeaaDoorW.PrintWords Go.Proofs.YtonekmigcpgdeaaDoorW.PrintLast Go.Proofs.YtonekmigcpgdeaaDoorW.PrintMore
set_option linter.unusedSimpArgs false

theorem rd_eq (l : List Int) (i : Nat) (h : i < l.length) : rd l (i : Int) = l[i] := by
  unfold rd; rw [show ((i : Int)).toNat = i from rfl, List.getD_eq_getElem?_getD, List.getElem?_eq_getElem h]; rfl

def con (x : Int) : Bool := decide (128 ≤ x ∧ x ≤ 191)
def tl (n : Nat) (lo hi : Int) : List Int → Int
  | [] => 0
  | d :: t => if n - 2 ≤ t.length ∧ lo ≤ d ∧ d ≤ hi ∧ (t.take (n - 2)).all con = true then n else 0
def wsign : List Int → Int
  | [] => 0
  | c :: t =>
    if c < 128 then 1 else if 194 ≤ c ∧ c ≤ 223 then tl 2 128 191 t
    else if 224 ≤ c ∧ c ≤ 239 then tl 3 (if c = 224 then 160 else 128) (if c = 237 then 159 else 191) t
    else if 240 ≤ c ∧ c ≤ 244 then tl 4 (if c = 240 then 144 else 128) (if c = 244 then 143 else 191) t
    else 0

theorem tl_le (n : Nat) (hn : 2 ≤ n) (lo hi : Int) (t : List Int) : 0 ≤ tl n lo hi t ∧ tl n lo hi t ≤ t.length + 1 := by
  cases t with
  | nil => simp [tl]
  | cons d t => simp only [tl]; split <;> simp <;> omega
theorem wsign_le (l : List Int) : 0 ≤ wsign l ∧ wsign l ≤ l.length := by
  cases l with
  | nil => simp [wsign]
  | cons c t =>
    have h2 := tl_le 2 (by decide) 128 191 t
    have h3 := tl_le 3 (by decide) (if c = 224 then 160 else 128) (if c = 237 then 159 else 191) t
    have h4 := tl_le 4 (by decide) (if c = 240 then 144 else 128) (if c = 244 then 143 else 191) t
    simp only [wsign, List.length_cons, Int.natCast_add]
    split
    · omega
    · split
      · omega
      · split
        · omega
        · split <;> omega

theorem all_get (l : List Int) : (l.all con = true) ↔ ∀ i (h : i < l.length), 128 ≤ l[i] ∧ l[i] ≤ 191 := by
  rw [List.all_eq_true]
  constructor
  · intro h i hi; have := h _ (List.getElem_mem hi); simpa [con] using this
  · intro h x hx; obtain ⟨i, hi, rfl⟩ := List.getElem_of_mem hx; have := h i hi; simpa [con] using this

theorem l0_f (n : Int) (l : List Int) (hl : l.length ≤ 9223372036854775807) : ∀ (d i k : Nat), i + d = l.length → d < k →
    wire_sign.l0 k n l (l.length : Int) (i : Int) = some (if (l.drop i).all con = true then n else 0) := by
  intro d
  induction d with
  | zero =>
    intro i k hi hk
    obtain ⟨k, rfl⟩ : ∃ m, k = m + 1 := ⟨k - 1, by omega⟩
    simp only [wire_sign.l0]; rw [if_neg (by omega), List.drop_of_length_le (by omega)]; simp
  | succ d ih =>
    intro i k hi hk
    obtain ⟨k, rfl⟩ : ∃ m, k = m + 1 := ⟨k - 1, by omega⟩
    have e1 : wrap64 ((i : Int) + 1) = ((i + 1 : Nat) : Int) := by unfold wrap64; omega
    simp only [wire_sign.l0]
    rw [if_pos (by omega), if_pos (by omega), if_pos (by omega), e1, ih (i + 1) k (by omega) (by omega), rd_eq l i (by omega), List.drop_eq_getElem_cons (show i < l.length by omega)]
    rw [List.all_cons]
    by_cases h1 : l[i] < 128
    · rw [if_pos h1, if_neg]; simp [con]; omega
    · rw [if_neg h1]
      by_cases h2 : l[i] > 191
      · rw [if_pos h2, if_neg]; simp [con]; omega
      · rw [if_neg h2]
        have : con l[i] = true := decide_eq_true (by omega)
        rw [this, Bool.true_and]

theorem j6_f (l : List Int) (hl : l.length ≤ 9223372036854775807) (i n k : Nat) (hi : i + n ≤ l.length) (hn : 2 ≤ n ∧ n ≤ 4) (hk : 6 < k) :
    wire_sign.j6 k l (i : Int) (n : Int) false = some (if ((l.drop (i + 2)).take (n - 2)).all con = true then (n : Int) else 0) := by
  obtain ⟨k, rfl⟩ : ∃ m, k = m + 1 := ⟨k - 1, by omega⟩
  have e1 : wrap64 ((i : Int) + 2) = ((i + 2 : Nat) : Int) := by unfold wrap64; omega
  have e2 : wrap64 ((i : Int) + (n : Int)) = ((i + n : Nat) : Int) := by unfold wrap64; omega
  have e3 : (l.take (i + n)).drop (i + 2) = (l.drop (i + 2)).take (n - 2) := by
    rw [List.drop_take]; congr 1; omega
  simp only [wire_sign.j6]
  rw [if_neg (by simp), e1, e2, if_pos (by omega), if_pos (by omega), if_pos (by omega), Int.toNat_natCast, Int.toNat_natCast, e3]
  have hlen : ((l.drop (i + 2)).take (n - 2)).length = n - 2 := by simp; omega
  have := l0_f n ((l.drop (i + 2)).take (n - 2)) (by omega) ((l.drop (i + 2)).take (n - 2)).length 0 k (by omega) (by omega)
  simpa using this

theorem j5_f (l : List Int) (hl : l.length ≤ 9223372036854775807) (i n k : Nat) (lo hi : Int) (hi0 : i < l.length) (hn : 2 ≤ n ∧ n ≤ 4) (hk : 8 < k) :
    wire_sign.j5 k l (i : Int) (n : Int) lo hi = some (tl n lo hi (l.drop (i + 1))) := by
  obtain ⟨k, rfl⟩ : ∃ m, k = m + 1 := ⟨k - 1, by omega⟩
  have e1 : wrap64 ((i : Int) + 1) = ((i + 1 : Nat) : Int) := by unfold wrap64; omega
  have e2 : wrap64 ((l.length : Int) - (i : Int)) = ((l.length - i : Nat) : Int) := by unfold wrap64; omega
  have e6 : ∀ k', 0 < k' → wire_sign.j6 k' l (i : Int) (n : Int) true = some 0 := by
    intro k' h; obtain ⟨k', rfl⟩ : ∃ m, k' = m + 1 := ⟨k' - 1, by omega⟩
    simp only [wire_sign.j6]; rfl
  simp only [wire_sign.j5]
  rw [e1, e2]
  by_cases h : l.length - i < n
  · rw [if_pos (by omega), e6 k (by omega)]
    cases hd : l.drop (i + 1) with
    | nil => rfl
    | cons d t =>
      have : t.length + 1 = l.length - (i + 1) := by rw [← List.length_drop, hd]; rfl
      simp only [tl]; rw [if_neg (by omega)]
  · rw [if_neg (by omega), if_pos (by omega), if_pos (by omega), rd_eq l (i + 1) (by omega), List.drop_eq_getElem_cons (show i + 1 < l.length by omega)]
    simp only [tl]
    have hlen : (l.drop (i + 1 + 1)).length = l.length - (i + 2) := by simp
    by_cases h1 : l[i + 1] < lo
    · rw [if_pos h1, e6 k (by omega), if_neg (by omega)]
    · rw [if_neg h1]
      by_cases h2 : l[i + 1] > hi
      · rw [decide_eq_true h2, e6 k (by omega), if_neg (by omega)]
      · rw [decide_eq_false h2, j6_f l hl i n k (by omega) hn (by omega)]
        by_cases h3 : ((l.drop (i + 2)).take (n - 2)).all con = true
        · rw [if_pos h3, if_pos ⟨by omega, by omega, by omega, h3⟩]
        · rw [if_neg h3, if_neg (fun h => h3 h.2.2.2)]

theorem sign_f (l : List Int) (hl : l.length ≤ 9223372036854775807) (i k : Nat) (hi : i < l.length) (hk : 15 < k) : wire_sign.f k l (i : Int) = some (wsign (l.drop i)) := by
  obtain ⟨k, rfl⟩ : ∃ m, k = m + 5 := ⟨k - 5, by omega⟩
  rw [List.drop_eq_getElem_cons hi]
  unfold wire_sign.f
  rw [if_pos (by omega), if_pos (by omega), rd_eq l i hi]
  generalize hc : l[i] = c
  have f2 := fun k (h : 8 < k) lo hj => j5_f l hl i 2 k lo hj hi (by omega) h
  have f3 := fun k (h : 8 < k) lo hj => j5_f l hl i 3 k lo hj hi (by omega) h
  have f4 := fun k (h : 8 < k) lo hj => j5_f l hl i 4 k lo hj hi (by omega) h
  simp only [wsign]
  by_cases h1 : c < 128
  · rw [if_pos h1, if_pos h1]
  rw [if_neg h1, if_neg h1]
  have j3 : ∀ k, 11 < k → wire_sign.j3 k l (i : Int) c 128 191 (decide (240 ≤ c ∧ c ≤ 244)) = some (if 240 ≤ c ∧ c ≤ 244 then tl 4 (if c = 240 then 144 else 128) (if c = 244 then 143 else 191) (l.drop (i + 1)) else 0) := by
    intro k hk
    obtain ⟨k, rfl⟩ : ∃ m, k = m + 2 := ⟨k - 2, by omega⟩
    by_cases h : 240 ≤ c ∧ c ≤ 244
    · rw [decide_eq_true h, if_pos h]
      simp only [wire_sign.j3, wire_sign.j4, if_true]
      by_cases h2 : c = 240
      · rw [if_pos h2, if_pos h2, if_neg (by omega), if_neg (by omega)]; exact f4 k (by omega) _ _
      · rw [if_neg h2, if_neg h2]
        by_cases h3 : c = 244
        · rw [if_pos h3, if_pos h3]; exact f4 k (by omega) _ _
        · rw [if_neg h3, if_neg h3]; exact f4 k (by omega) _ _
    · rw [decide_eq_false h, if_neg h]; simp [wire_sign.j3]
  have j1 : ∀ k, 13 < k → wire_sign.j1 k l (i : Int) c 128 191 (decide (224 ≤ c ∧ c ≤ 239)) = some (if 224 ≤ c ∧ c ≤ 239 then tl 3 (if c = 224 then 160 else 128) (if c = 237 then 159 else 191) (l.drop (i + 1))
      else if 240 ≤ c ∧ c ≤ 244 then tl 4 (if c = 240 then 144 else 128) (if c = 244 then 143 else 191) (l.drop (i + 1)) else 0) := by
    intro k hk
    obtain ⟨k, rfl⟩ : ∃ m, k = m + 2 := ⟨k - 2, by omega⟩
    by_cases h : 224 ≤ c ∧ c ≤ 239
    · rw [decide_eq_true h, if_pos h]
      simp only [wire_sign.j1, wire_sign.j2, if_true]
      by_cases h2 : c = 224
      · rw [if_pos h2, if_pos h2, if_neg (by omega), if_neg (by omega)]; exact f3 k (by omega) _ _
      · rw [if_neg h2, if_neg h2]
        by_cases h3 : c = 237
        · rw [if_pos h3, if_pos h3]; exact f3 k (by omega) _ _
        · rw [if_neg h3, if_neg h3]; exact f3 k (by omega) _ _
    · rw [decide_eq_false h, if_neg h, ← j3 (k + 1) (by omega)]
      simp only [wire_sign.j1]
      rw [if_neg (by simp)]
      by_cases h4 : c ≥ 240
      · rw [if_pos h4]; congr 1; simp; omega
      · rw [if_neg h4]; congr 1; simp; omega
  have j0 : wire_sign.j0 (k + 5) l (i : Int) c 128 191 (decide (194 ≤ c ∧ c ≤ 223)) = some (if 194 ≤ c ∧ c ≤ 223 then tl 2 128 191 (l.drop (i + 1)) else if 224 ≤ c ∧ c ≤ 239 then tl 3 (if c = 224 then 160 else 128) (if c = 237 then 159 else 191) (l.drop (i + 1))
      else if 240 ≤ c ∧ c ≤ 244 then tl 4 (if c = 240 then 144 else 128) (if c = 244 then 143 else 191) (l.drop (i + 1)) else 0) := by
    by_cases h : 194 ≤ c ∧ c ≤ 223
    · rw [decide_eq_true h, if_pos h]
      simp only [wire_sign.j0, if_true]
      exact f2 (k + 4) (by omega) _ _
    · rw [decide_eq_false h, if_neg h, ← j1 (k + 4) (by omega)]
      simp only [wire_sign.j0]
      rw [if_neg (by simp)]
      by_cases h4 : c ≥ 224
      · rw [if_pos h4]; congr 1; simp; omega
      · rw [if_neg h4]; congr 1; simp; omega
  rw [← j0]
  by_cases h : c ≥ 194
  · rw [if_pos h]; congr 1; simp; omega
  · rw [if_neg h]; congr 1; simp; omega

/-! Utf8 -/
def U : Nat → List Int → Option Nat
  | 0, _ => none
  | _ + 1, [] => none
  | m + 1, c :: t => if wsign (c :: t) = 0 then some 0 else (U m ((c :: t).drop (wsign (c :: t)).toNat)).map (· + (wsign (c :: t)).toNat)
def at_ : Option Nat → Int
  | none => -1
  | some p => p
theorem U_lt : ∀ (m : Nat) (l : List Int), ∀ p, U m l = some p → p < l.length := by
  intro m
  induction m with
  | zero => intro l p h; simp [U] at h
  | succ m ih =>
    intro l p h
    cases l with
    | nil => simp [U] at h
    | cons c t =>
      have hw := wsign_le (c :: t)
      simp only [U] at h
      split at h
      · injection h with h; subst h; simp
      · cases hu : U m ((c :: t).drop (wsign (c :: t)).toNat) with
        | none => rw [hu] at h; simp at h
        | some q =>
          rw [hu] at h; simp at h
          have := ih _ q hu
          rw [List.length_drop] at this
          omega
theorem utf8_l0 (l : List Int) (hl : l.length ≤ 9223372036854775807) : ∀ (m i k : Nat), l.length - i ≤ m → m + 20 < k → i ≤ l.length →
    wire_Utf8.l0 k l (i : Int) = some (at_ ((U m (l.drop i)).map (· + i))) := by
  intro m
  induction m with
  | zero =>
    intro i k h hk hi
    obtain ⟨k, rfl⟩ : ∃ m, k = m + 1 := ⟨k - 1, by omega⟩
    simp only [wire_Utf8.l0]; rw [if_neg (by omega)]; rfl
  | succ m ih =>
    intro i k h hk hi
    obtain ⟨k, rfl⟩ : ∃ m, k = m + 1 := ⟨k - 1, by omega⟩
    simp only [wire_Utf8.l0]
    by_cases he : i < l.length
    · have hw := wsign_le (l.drop i)
      rw [List.length_drop] at hw
      rw [if_pos (by omega), sign_f l hl i k he (by omega)]
      simp only [Option.bind_some]
      rw [List.drop_eq_getElem_cons he] at hw ⊢
      simp only [U]
      by_cases h0 : wsign (l[i] :: l.drop (i + 1)) = 0
      · rw [if_pos h0, if_pos h0]; simp [at_]
      · obtain ⟨n, hn⟩ := Int.eq_ofNat_of_zero_le hw.1
        rw [if_neg h0, if_neg h0]
        rw [hn] at hw h0 ⊢
        have e1 : wrap64 ((i : Int) + (n : Int)) = ((i + n : Nat) : Int) := by unfold wrap64; omega
        rw [e1, ih (i + n) k (by omega) (by omega) (by omega), Int.toNat_natCast]
        have e2 : (l[i] :: l.drop (i + 1)).drop n = l.drop (i + n) := by rw [← List.drop_eq_getElem_cons he, List.drop_drop]
        rw [e2]
        cases U m (l.drop (i + n)) with
        | none => rfl
        | some q => simp [at_]; omega
    · rw [if_neg (by omega), List.drop_of_length_le (by omega)]; rfl
theorem utf8_f (l : List Int) (m k : Nat) (hl : l.length ≤ 9223372036854775807) (hm : l.length ≤ m) (hk : m + 20 < k) : wire_Utf8.f k l = some (at_ (U m l)) := by
  have h := utf8_l0 l hl m 0 k (by omega) hk (by omega)
  unfold wire_Utf8.f
  rw [show (0 : Int) = ((0 : Nat) : Int) from rfl, h, List.drop_zero]
  cases U m l <;> simp

/-- A whole sign ahead. -/
theorem U_sign (b t : List Int) (m : Nat) (hb : b ≠ []) (h : wsign (b ++ t) = b.length) : U (m + 1) (b ++ t) = (U m t).map (· + b.length) := by
  cases b with
  | nil => exact absurd rfl hb
  | cons c b =>
    simp only [List.cons_append, List.length_cons] at h ⊢
    simp only [U]
    rw [h, if_neg (by omega)]
    have : ((b.length + 1 : Nat) : Int).toNat = (c :: b).length := by simp
    rw [this, ← List.cons_append, List.drop_left]
    rfl
theorem U_bad (l : List Int) (m : Nat) (hl : l ≠ []) (h : wsign l = 0) : U (m + 1) l = some 0 := by
  cases l with
  | nil => exact absurd rfl hl
  | cons c t => simp only [U]; rw [if_pos h]
end Go.Proofs.YtonekmigcpgdeaaDoor.Runes
