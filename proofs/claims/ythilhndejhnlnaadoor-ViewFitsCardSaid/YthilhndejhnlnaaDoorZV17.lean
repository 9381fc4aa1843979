/- Texts joined: VRunes V0. -/
import Derived.Test.YthilhndejhnlnaaDoorZV13
import Derived.Test.YthilhndejhnlnaaDoorZV14
import Derived.Test.YthilhndejhnlnaaDoorZV15
section
/- UTF-8, in plain Lean: what the program's sign and Utf8 compute on lists of bytes, and a rune's own bytes. -/
namespace Go.Proofs.YthilhndejhnlnaaDoor.Runes
open Go.RowKit Go.Proofs.YthilhndejhnlnaaDoor.QAll Go.Proofs.YthilhndejhnlnaaDoorW.PrintWords Go.Proofs.YthilhndejhnlnaaDoorW.PrintLast Go.Proofs.YthilhndejhnlnaaDoorW.PrintMore
set_option linter.unusedSimpArgs false

theorem rd_eq (l : List Int) (i : Nat) (h : i < l.length) : rd l (i : Int) = l[i] := by
  unfold rd; rw [show ((i : Int)).toNat = i from rfl, List.getD_eq_getElem?_getD, List.getElem?_eq_getElem h]; rfl

def con (x : Int) : Bool := decide (128 ≤ x ∧ x ≤ 191)
def tl (n : Nat) (lo hi : Int) : List Int → Int
  | [] => 0
  | d :: t => if n - 2 ≤ t.length ∧ lo ≤ d ∧ d ≤ hi ∧ (t.take (n - 2)).all con = true then n else 0
def wsign : List Int → Int
  | [] => 0
  | c :: t =>
    if c < 128 then 1 else if 194 ≤ c ∧ c ≤ 223 then tl 2 128 191 t
    else if 224 ≤ c ∧ c ≤ 239 then tl 3 (if c = 224 then 160 else 128) (if c = 237 then 159 else 191) t
    else if 240 ≤ c ∧ c ≤ 244 then tl 4 (if c = 240 then 144 else 128) (if c = 244 then 143 else 191) t
    else 0

theorem tl_le (n : Nat) (hn : 2 ≤ n) (lo hi : Int) (t : List Int) : 0 ≤ tl n lo hi t ∧ tl n lo hi t ≤ t.length + 1 := by
  cases t with
  | nil => simp [tl]
  | cons d t => simp only [tl]; split <;> simp <;> omega
theorem wsign_le (l : List Int) : 0 ≤ wsign l ∧ wsign l ≤ l.length := by
  cases l with
  | nil => simp [wsign]
  | cons c t =>
    have h2 := tl_le 2 (by decide) 128 191 t
    have h3 := tl_le 3 (by decide) (if c = 224 then 160 else 128) (if c = 237 then 159 else 191) t
    have h4 := tl_le 4 (by decide) (if c = 240 then 144 else 128) (if c = 244 then 143 else 191) t
    simp only [wsign, List.length_cons, Int.natCast_add]
    split
    · omega
    · split
      · omega
      · split
        · omega
        · split <;> omega

theorem l0_f (n : Int) (l : List Int) (hl : l.length ≤ 9223372036854775807) : ∀ (d i k : Nat), i + d = l.length → d < k →
    wire_sign.l0 k n l (l.length : Int) (i : Int) = some (if (l.drop i).all con = true then n else 0) := by
  intro d
  induction d with
  | zero =>
    intro i k hi hk
    obtain ⟨k, rfl⟩ : ∃ m, k = m + 1 := ⟨k - 1, by omega⟩
    simp only [wire_sign.l0]; rw [if_neg (by omega), List.drop_of_length_le (by omega)]; simp
  | succ d ih =>
    intro i k hi hk
    obtain ⟨k, rfl⟩ : ∃ m, k = m + 1 := ⟨k - 1, by omega⟩
    have e1 : wrap64 ((i : Int) + 1) = ((i + 1 : Nat) : Int) := by unfold wrap64; omega
    simp only [wire_sign.l0]
    rw [if_pos (by omega), if_pos (by omega), if_pos (by omega), e1, ih (i + 1) k (by omega) (by omega), rd_eq l i (by omega), List.drop_eq_getElem_cons (show i < l.length by omega)]
    rw [List.all_cons]
    by_cases h1 : l[i] < 128
    · rw [if_pos h1, if_neg]; simp [con]; omega
    · rw [if_neg h1]
      by_cases h2 : l[i] > 191
      · rw [if_pos h2, if_neg]; simp [con]; omega
      · rw [if_neg h2]
        have : con l[i] = true := decide_eq_true (by omega)
        rw [this, Bool.true_and]

theorem j6_f (l : List Int) (hl : l.length ≤ 9223372036854775807) (i n k : Nat) (hi : i + n ≤ l.length) (hn : 2 ≤ n ∧ n ≤ 4) (hk : 6 < k) :
    wire_sign.j6 k l (i : Int) (n : Int) false = some (if ((l.drop (i + 2)).take (n - 2)).all con = true then (n : Int) else 0) := by
  obtain ⟨k, rfl⟩ : ∃ m, k = m + 1 := ⟨k - 1, by omega⟩
  have e1 : wrap64 ((i : Int) + 2) = ((i + 2 : Nat) : Int) := by unfold wrap64; omega
  have e2 : wrap64 ((i : Int) + (n : Int)) = ((i + n : Nat) : Int) := by unfold wrap64; omega
  have e3 : (l.take (i + n)).drop (i + 2) = (l.drop (i + 2)).take (n - 2) := by
    rw [List.drop_take]; congr 1; omega
  simp only [wire_sign.j6]
  rw [if_neg (by simp), e1, e2, if_pos (by omega), if_pos (by omega), if_pos (by omega), Int.toNat_natCast, Int.toNat_natCast, e3]
  have hlen : ((l.drop (i + 2)).take (n - 2)).length = n - 2 := by simp; omega
  have := l0_f n ((l.drop (i + 2)).take (n - 2)) (by omega) ((l.drop (i + 2)).take (n - 2)).length 0 k (by omega) (by omega)
  simpa using this

theorem j5_f (l : List Int) (hl : l.length ≤ 9223372036854775807) (i n k : Nat) (lo hi : Int) (hi0 : i < l.length) (hn : 2 ≤ n ∧ n ≤ 4) (hk : 8 < k) :
    wire_sign.j5 k l (i : Int) (n : Int) lo hi = some (tl n lo hi (l.drop (i + 1))) := by
  obtain ⟨k, rfl⟩ : ∃ m, k = m + 1 := ⟨k - 1, by omega⟩
  have e1 : wrap64 ((i : Int) + 1) = ((i + 1 : Nat) : Int) := by unfold wrap64; omega
  have e2 : wrap64 ((l.length : Int) - (i : Int)) = ((l.length - i : Nat) : Int) := by unfold wrap64; omega
  have e6 : ∀ k', 0 < k' → wire_sign.j6 k' l (i : Int) (n : Int) true = some 0 := by
    intro k' h; obtain ⟨k', rfl⟩ : ∃ m, k' = m + 1 := ⟨k' - 1, by omega⟩
    simp only [wire_sign.j6]; rfl
  simp only [wire_sign.j5]
  rw [e1, e2]
  by_cases h : l.length - i < n
  · rw [if_pos (by omega), e6 k (by omega)]
    cases hd : l.drop (i + 1) with
    | nil => rfl
    | cons d t =>
      have : t.length + 1 = l.length - (i + 1) := by rw [← List.length_drop, hd]; rfl
      simp only [tl]; rw [if_neg (by omega)]
  · rw [if_neg (by omega), if_pos (by omega), if_pos (by omega), rd_eq l (i + 1) (by omega), List.drop_eq_getElem_cons (show i + 1 < l.length by omega)]
    simp only [tl]
    have hlen : (l.drop (i + 1 + 1)).length = l.length - (i + 2) := by simp
    by_cases h1 : l[i + 1] < lo
    · rw [if_pos h1, e6 k (by omega), if_neg (by omega)]
    · rw [if_neg h1]
      by_cases h2 : l[i + 1] > hi
      · rw [decide_eq_true h2, e6 k (by omega), if_neg (by omega)]
      · rw [decide_eq_false h2, j6_f l hl i n k (by omega) hn (by omega)]
        by_cases h3 : ((l.drop (i + 2)).take (n - 2)).all con = true
        · rw [if_pos h3, if_pos ⟨by omega, by omega, by omega, h3⟩]
        · rw [if_neg h3, if_neg (fun h => h3 h.2.2.2)]

theorem sign_f (l : List Int) (hl : l.length ≤ 9223372036854775807) (i k : Nat) (hi : i < l.length) (hk : 15 < k) : wire_sign.f k l (i : Int) = some (wsign (l.drop i)) := by
  obtain ⟨k, rfl⟩ : ∃ m, k = m + 5 := ⟨k - 5, by omega⟩
  rw [List.drop_eq_getElem_cons hi]
  unfold wire_sign.f
  rw [if_pos (by omega), if_pos (by omega), rd_eq l i hi]
  generalize hc : l[i] = c
  have f2 := fun k (h : 8 < k) lo hj => j5_f l hl i 2 k lo hj hi (by omega) h
  have f3 := fun k (h : 8 < k) lo hj => j5_f l hl i 3 k lo hj hi (by omega) h
  have f4 := fun k (h : 8 < k) lo hj => j5_f l hl i 4 k lo hj hi (by omega) h
  simp only [wsign]
  by_cases h1 : c < 128
  · rw [if_pos h1, if_pos h1]
  rw [if_neg h1, if_neg h1]
  have j3 : ∀ k, 11 < k → wire_sign.j3 k l (i : Int) c 128 191 (decide (240 ≤ c ∧ c ≤ 244)) = some (if 240 ≤ c ∧ c ≤ 244 then tl 4 (if c = 240 then 144 else 128) (if c = 244 then 143 else 191) (l.drop (i + 1)) else 0) := by
    intro k hk
    obtain ⟨k, rfl⟩ : ∃ m, k = m + 2 := ⟨k - 2, by omega⟩
    by_cases h : 240 ≤ c ∧ c ≤ 244
    · rw [decide_eq_true h, if_pos h]
      simp only [wire_sign.j3, wire_sign.j4, if_true]
      by_cases h2 : c = 240
      · rw [if_pos h2, if_pos h2, if_neg (by omega), if_neg (by omega)]; exact f4 k (by omega) _ _
      · rw [if_neg h2, if_neg h2]
        by_cases h3 : c = 244
        · rw [if_pos h3, if_pos h3]; exact f4 k (by omega) _ _
        · rw [if_neg h3, if_neg h3]; exact f4 k (by omega) _ _
    · rw [decide_eq_false h, if_neg h]; simp [wire_sign.j3]
  have j1 : ∀ k, 13 < k → wire_sign.j1 k l (i : Int) c 128 191 (decide (224 ≤ c ∧ c ≤ 239)) = some (if 224 ≤ c ∧ c ≤ 239 then tl 3 (if c = 224 then 160 else 128) (if c = 237 then 159 else 191) (l.drop (i + 1))
      else if 240 ≤ c ∧ c ≤ 244 then tl 4 (if c = 240 then 144 else 128) (if c = 244 then 143 else 191) (l.drop (i + 1)) else 0) := by
    intro k hk
    obtain ⟨k, rfl⟩ : ∃ m, k = m + 2 := ⟨k - 2, by omega⟩
    by_cases h : 224 ≤ c ∧ c ≤ 239
    · rw [decide_eq_true h, if_pos h]
      simp only [wire_sign.j1, wire_sign.j2, if_true]
      by_cases h2 : c = 224
      · rw [if_pos h2, if_pos h2, if_neg (by omega), if_neg (by omega)]; exact f3 k (by omega) _ _
      · rw [if_neg h2, if_neg h2]
        by_cases h3 : c = 237
        · rw [if_pos h3, if_pos h3]; exact f3 k (by omega) _ _
        · rw [if_neg h3, if_neg h3]; exact f3 k (by omega) _ _
    · rw [decide_eq_false h, if_neg h, ← j3 (k + 1) (by omega)]
      simp only [wire_sign.j1]
      rw [if_neg (by simp)]
      by_cases h4 : c ≥ 240
      · rw [if_pos h4]; congr 1; simp; omega
      · rw [if_neg h4]; congr 1; simp; omega
  have j0 : wire_sign.j0 (k + 5) l (i : Int) c 128 191 (decide (194 ≤ c ∧ c ≤ 223)) = some (if 194 ≤ c ∧ c ≤ 223 then tl 2 128 191 (l.drop (i + 1)) else if 224 ≤ c ∧ c ≤ 239 then tl 3 (if c = 224 then 160 else 128) (if c = 237 then 159 else 191) (l.drop (i + 1))
      else if 240 ≤ c ∧ c ≤ 244 then tl 4 (if c = 240 then 144 else 128) (if c = 244 then 143 else 191) (l.drop (i + 1)) else 0) := by
    by_cases h : 194 ≤ c ∧ c ≤ 223
    · rw [decide_eq_true h, if_pos h]
      simp only [wire_sign.j0, if_true]
      exact f2 (k + 4) (by omega) _ _
    · rw [decide_eq_false h, if_neg h, ← j1 (k + 4) (by omega)]
      simp only [wire_sign.j0]
      rw [if_neg (by simp)]
      by_cases h4 : c ≥ 224
      · rw [if_pos h4]; congr 1; simp; omega
      · rw [if_neg h4]; congr 1; simp; omega
  rw [← j0]
  by_cases h : c ≥ 194
  · rw [if_pos h]; congr 1; simp; omega
  · rw [if_neg h]; congr 1; simp; omega

/-! Utf8 -/
def U : Nat → List Int → Option Nat
  | 0, _ => none
  | _ + 1, [] => none
  | m + 1, c :: t => if wsign (c :: t) = 0 then some 0 else (U m ((c :: t).drop (wsign (c :: t)).toNat)).map (· + (wsign (c :: t)).toNat)
def at_ : Option Nat → Int
  | none => -1
  | some p => p
theorem utf8_l0 (l : List Int) (hl : l.length ≤ 9223372036854775807) : ∀ (m i k : Nat), l.length - i ≤ m → m + 20 < k → i ≤ l.length →
    wire_Utf8.l0 k l (i : Int) = some (at_ ((U m (l.drop i)).map (· + i))) := by
  intro m
  induction m with
  | zero =>
    intro i k h hk hi
    obtain ⟨k, rfl⟩ : ∃ m, k = m + 1 := ⟨k - 1, by omega⟩
    simp only [wire_Utf8.l0]; rw [if_neg (by omega)]; rfl
  | succ m ih =>
    intro i k h hk hi
    obtain ⟨k, rfl⟩ : ∃ m, k = m + 1 := ⟨k - 1, by omega⟩
    simp only [wire_Utf8.l0]
    by_cases he : i < l.length
    · have hw := wsign_le (l.drop i)
      rw [List.length_drop] at hw
      rw [if_pos (by omega), sign_f l hl i k he (by omega)]
      simp only [Option.bind_some]
      rw [List.drop_eq_getElem_cons he] at hw ⊢
      simp only [U]
      by_cases h0 : wsign (l[i] :: l.drop (i + 1)) = 0
      · rw [if_pos h0, if_pos h0]; simp [at_]
      · obtain ⟨n, hn⟩ := Int.eq_ofNat_of_zero_le hw.1
        rw [if_neg h0, if_neg h0]
        rw [hn] at hw h0 ⊢
        have e1 : wrap64 ((i : Int) + (n : Int)) = ((i + n : Nat) : Int) := by unfold wrap64; omega
        rw [e1, ih (i + n) k (by omega) (by omega) (by omega), Int.toNat_natCast]
        have e2 : (l[i] :: l.drop (i + 1)).drop n = l.drop (i + n) := by rw [← List.drop_eq_getElem_cons he, List.drop_drop]
        rw [e2]
        cases U m (l.drop (i + n)) with
        | none => rfl
        | some q => simp [at_]; omega
    · rw [if_neg (by omega), List.drop_of_length_le (by omega)]; rfl
theorem utf8_f (l : List Int) (m k : Nat) (hl : l.length ≤ 9223372036854775807) (hm : l.length ≤ m) (hk : m + 20 < k) : wire_Utf8.f k l = some (at_ (U m l)) := by
  have h := utf8_l0 l hl m 0 k (by omega) hk (by omega)
  unfold wire_Utf8.f
  rw [show (0 : Int) = ((0 : Nat) : Int) from rfl, h, List.drop_zero]
  cases U m l <;> simp

end Go.Proofs.YthilhndejhnlnaaDoor.Runes
end

section
/- Layer 7, view: whether a value fits, in plain Lean. -/
namespace Go.Proofs.YthilhndejhnlnaaDoor.Hand
open Go.RowKit Go.Proofs.YthilhndejhnlnaaDoor.QAll Go.Proofs.YthilhndejhnlnaaDoorW.PrintWords Go.Proofs.YthilhndejhnlnaaDoorW.PrintLast Go.Proofs.YthilhndejhnlnaaDoorW.PrintMore Go.Proofs.YthilhndejhnlnaaDoor.Runes
set_option linter.unusedVariables false
set_option linter.unusedSimpArgs false

def szB (k : Int) : Int := if k = 1 ∨ k = 2 ∨ k = 6 ∨ k = 10 then 1 else if k = 3 ∨ k = 7 then 2 else if k = 4 ∨ k = 8 then 4 else if k = 5 ∨ k = 9 then 8 else 0
theorem size_f (c : Int) : wire_Size.f 6 c = some (szB c) := by
  by_cases h : 1 ≤ c ∧ c ≤ 10
  · have key : ∀ n : Fin 11, wire_Size.f 6 (n.val : Int) = some (szB (n.val : Int)) := by decide +kernel
    obtain ⟨m, rfl⟩ := Int.eq_ofNat_of_zero_le (show 0 ≤ c by omega)
    exact key ⟨m, by omega⟩
  · have n1 : c ≠ 1 := by omega
    have n2 : c ≠ 2 := by omega
    have n3 : c ≠ 3 := by omega
    have n4 : c ≠ 4 := by omega
    have n5 : c ≠ 5 := by omega
    have n6 : c ≠ 6 := by omega
    have n7 : c ≠ 7 := by omega
    have n8 : c ≠ 8 := by omega
    have n9 : c ≠ 9 := by omega
    have n10 : c ≠ 10 := by omega
    simp [wire_Size.f, wire_Size.j0, wire_Size.j1, wire_Size.j2, wire_Size.j3, szB, n1, n2, n3, n4, n5, n6, n7, n8, n9, n10]
theorem szB_or (c : Int) : szB c = 0 ∨ szB c = 1 ∨ szB c = 2 ∨ szB c = 4 ∨ szB c = 8 := by
  unfold szB; split; omega; split; omega; split; omega; split <;> omega
/-- Is a number one of its type? -/
def numB (st : List S50) (en : List S58) (root kd rf ls n : Int) : Bool := (schema_Fits.f 10 st en root kd rf ls n).getD false
theorem num_f (st : List S50) (en : List S58) (root kd rf ls n : Int) : schema_Fits.f 10 st en root kd rf ls n = some (numB st en root kd rf ls n) := by
  have : (schema_Fits.f 10 st en root kd rf ls n).isSome = true := by
    unfold schema_Fits.f
    rw [at_rounds (wire_Size.mono kd) (show 6 ≤ 10 by decide) (size_f kd)]
    simp only [Option.bind_some]
    have key : ∀ b, (schema_Fits.j0 10 n (szB kd) b st en root kd rf ls).isSome = true := by
      intro b
      have hs : ∃ b2, wire_Sign.f kd = some b2 := by unfold wire_Sign.f; split <;> exact ⟨_, rfl⟩
      obtain ⟨b2, h2⟩ := hs
      have hg : ∃ x, wire_Signed.f n (szB kd) = some x := by
        unfold wire_Signed.f
        split
        · exact ⟨_, rfl⟩
        split
        · exact ⟨_, rfl⟩
        split <;> exact ⟨_, rfl⟩
      obtain ⟨x, hx⟩ := hg
      have hw : 0 ≤ wrap64 (8 * szB kd) := by
        unfold wrap64
        rcases szB_or kd with e | e | e | e | e <;> rw [e] <;> omega
      simp only [schema_Fits.j0, h2, hx, Option.bind_some, if_pos hw]
      by_cases k0 : b = true
      · rw [if_pos k0]; rfl
      rw [if_neg k0]
      by_cases k1 : kd = 1
      · rw [if_pos k1]; rfl
      rw [if_neg k1]
      by_cases k2 : kd = 10
      · rw [if_pos k2]
        by_cases k3 : rf ≥ 0
        · rw [if_pos k3]
          by_cases k4 : rf < (en.length : Int)
          · rw [if_pos k4, if_pos k3]; rfl
          · rw [if_neg k4]; rfl
        · rw [if_neg k3]; rfl
      rw [if_neg k2]
      cases b2 with
      | true => rfl
      | false =>
        rw [if_neg (by decide)]
        split <;> rfl
    split <;> exact key _
  unfold numB
  cases h : schema_Fits.f 10 st en root kd rf ls n with
  | none => rw [h] at this; simp at this
  | some b => rfl
def textB (l : List Int) : Bool := decide (at_ (U l.length l) < 0)
theorem text_f (l : List Int) (hl : l.length ≤ 9223372036854775807) : wire_Utf8.f (l.length + 21) l = some (at_ (U l.length l)) := utf8_f l l.length _ hl (Nat.le_refl _) (by omega)
/-- A struct that is not there, and holds nothing. -/
def goneB (v : S29) : Bool := v.f0 == 0 && v.f1.length == 0 && v.f2.length == 0
def leafB (st : List S50) (en : List S58) (root kd rf ls : Int) (v : S29) : Bool :=
  if 0 < v.f2.length ∨ v.f3 = true then false else if 0 < szB kd then (v.f1.length == 0 && numB st en root kd rf ls v.f0) else (v.f0 == 0 && (kd == 12 || textB v.f1))
def lackB (kd ls : Int) (x : S29) : Bool := ls == 0 && kd == 13 && !x.f3
/-- Does a value fit a type, so deep? -/
def fitsB (st : List S50) (en : List S58) (root : Int) : Nat → Int → Int → Int → S29 → Bool
  | 0, kd, rf, ls, v =>
    if 0 < ls then (if 0 < v.f2.length ∨ v.f0 ≠ 0 ∨ 0 < v.f1.length ∨ v.f3 = true then false else true)
    else if kd = 13 then (if v.f0 ≠ 0 ∨ 0 < v.f1.length ∨ v.f3 = false then goneB v else false)
    else leafB st en root kd rf ls v
  | d + 1, kd, rf, ls, v =>
    if 0 < ls then (if v.f0 ≠ 0 ∨ 0 < v.f1.length ∨ v.f3 = true then false else v.f2.all fun x => fitsB st en root d kd rf (ls - 1) x && !lackB kd (ls - 1) x)
    else if kd = 13 then (if v.f0 ≠ 0 ∨ 0 < v.f1.length ∨ v.f3 = false then goneB v
      else if v.f2.length ≠ (rd_T50 st rf).f1.length then false else ((rd_T50 st rf).f1.zip v.f2).all fun p => fitsB st en root d p.1.f1.f0 p.1.f1.f1 p.1.f1.f2 p.2)
    else leafB st en root kd rf ls v
/-- A type that names a struct names one that is there. -/
def TyOk (st : List S50) (kd rf : Int) : Prop := kd = 13 → 0 ≤ rf ∧ rf < st.length
def Good (st : List S50) : Prop := ∀ r ∈ st, ∀ f ∈ r.f1, TyOk st f.f1.f0 f.f1.f1 ∧ f.f1.f2 ≤ 9223372036854775807

/-- A schema, a type, a value, by value. -/
def IsS (w : World) (st : List S50) (en : List S58) (root : Int) (u : Value) : Prop :=
  ∃ A0 c0 A1 c1, u = .agg #[.slice A0 st.length c0, .slice A1 en.length c1, .int .i64 root] ∧ Kd.C k50 w A0 st.length st ∧ st.length ≤ c0 ∧ Kd.C k58 w A1 en.length en ∧ en.length ≤ c1
def IsV (w : World) (v : S29) (u : Value) : Prop :=
  ∃ A1 c1 A2 c2, u = .agg #[.int .u64 v.f0, .slice A1 v.f1.length c1, .slice A2 v.f2.length c2, .bool v.f3] ∧ (Kd.int .u8).C w A1 v.f1.length v.f1 ∧ v.f1.length ≤ c1 ∧ k29.C w A2 v.f2.length v.f2 ∧ v.f2.length ≤ c2
abbrev tyV (kd rf ls : Int) : Value := .agg #[.int .u8 kd, .int .i64 rf, .int .i64 ls]
theorem IsS.below {w W : World} {st : List S50} {en : List S58} {root : Int} {u : Value} (h : IsS w st en root u) (hb : Below w.heap.size w W) : IsS W st en root u := by
  obtain ⟨A0, c0, A1, c1, rfl, h1, h2, h3, h4⟩ := h
  exact ⟨A0, c0, A1, c1, rfl, Kd.C_below h1 hb, h2, Kd.C_below h3 hb, h4⟩
theorem IsV.below {w W : World} {v : S29} {u : Value} (h : IsV w v u) (hb : Below w.heap.size w W) : IsV W v u := by
  obtain ⟨A0, c0, A1, c1, rfl, h1, h2, h3, h4⟩ := h
  exact ⟨A0, c0, A1, c1, rfl, Kd.C_below h1 hb, h2, Kd.C_below h3 hb, h4⟩
end Go.Proofs.YthilhndejhnlnaaDoor.Hand
end
