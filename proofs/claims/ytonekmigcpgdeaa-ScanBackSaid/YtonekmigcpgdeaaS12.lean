/- Layer 13, scan: units of four digits in quotes, in plain Lean: which text they are. -/
import Derived.Test.YtonekmigcpgdeaaS11
import Derived.Laws.Runes
namespace Go.Proofs.Ytonekmigcpgdeaa.Hand
open Go.RowKit Go.Proofs.Ytonekmigcpgdeaa.QAll Go.Proofs.YtonekmigcpgdeaaW.PrintWords Go.Proofs.YtonekmigcpgdeaaW.PrintLast Go.Proofs.YtonekmigcpgdeaaW.PrintMore Go.Proofs.Ytonekmigcpgdeaa.Runes
set_option linter.unusedVariables false
set_option linter.unusedSimpArgs false
theorem and_i32 (x : Int) : Go.bits .and .i32 x 2097151 = x % 2097152 := by
  have h2 : (BitVec.ofInt 32 (2097151 : Int)).toNat = 2 ^ 21 - 1 := by decide
  simp only [Go.bits]
  rw [show IntKind.i32.bits = 32 from rfl, BitVec.toNat_and, h2, Nat.and_two_pow_sub_one_eq_mod, BitVec.toNat_ofInt, IntKind.wrap_i32]
  have e : (((x % ((2 ^ 32 : Nat) : Int)).toNat % 2 ^ 21 : Nat) : Int) = x % 2097152 := by
    rw [show ((2 ^ 32 : Nat) : Int) = 4294967296 from rfl]; omega
  rw [e]; omega
theorem and1023 (x : Int) (h0 : 0 ≤ x) (h1 : x < 2097152) : Go.bits .and .i32 x 1023 = x % 1024 := by
  have h := bits_mask .i32 31 (by decide) (fun x h0 h1 => by rw [IntKind.wrap_i32]; omega) 10 (by decide) x h0 (by omega)
  simpa using h
theorem enc_sign (c : Int) (h0 : 0 ≤ c) (h1 : c ≤ 1114111) (h2 : c < 55296 ∨ 57343 < c) (t : List Int) : wsign (Lib.encodeRuneZ c ++ t) = (Lib.encodeRuneZ c).length := by
  by_cases e1 : c ≤ 127
  · rw [Lib.encodeRuneZ_one h0 e1]; simp [wsign]; omega
  by_cases e2 : c ≤ 2047
  · rw [Lib.encodeRuneZ_two (by omega) e2]
    simp only [List.cons_append, List.nil_append, wsign, tl, List.length_cons, List.length_nil, List.take_zero, List.all_nil]
    rw [if_neg (by omega), if_pos (by omega), if_pos ⟨by omega, by omega, by omega, by simp⟩]
  by_cases e3 : c ≤ 65535
  · rw [Lib.encodeRuneZ_three (by omega)]
    simp only [List.cons_append, List.nil_append, wsign, tl, List.length_cons, List.length_nil]
    rw [if_neg (by omega), if_neg (by omega), if_pos (by omega)]
    rw [if_pos (show _ ∧ _ ∧ _ ∧ _ from ⟨by omega, by split <;> omega, by split <;> omega, by simp [con]; omega⟩)]
  rw [Lib.encodeRuneZ_four (by omega) h1]
  simp only [List.cons_append, List.nil_append, wsign, tl, List.length_cons, List.length_nil]
  rw [if_neg (by omega), if_neg (by omega), if_neg (by omega), if_pos (by omega)]
  rw [if_pos (show _ ∧ _ ∧ _ ∧ _ from ⟨by omega, by split <;> omega, by split <;> omega, by simp [con]; omega⟩)]
theorem U_enc (c : Int) (h0 : 0 ≤ c) (h1 : c ≤ 1114111) (h2 : c < 55296 ∨ 57343 < c) : U (Lib.encodeRuneZ c).length (Lib.encodeRuneZ c) = none := by
  have hl := Lib.encodeRuneZ_length c
  have h := U_sign (Lib.encodeRuneZ c) [] ((Lib.encodeRuneZ c).length - 1) (by intro e; rw [e] at hl; simp at hl) (by rw [enc_sign c h0 h1 h2])
  rw [List.append_nil, show (Lib.encodeRuneZ c).length - 1 + 1 = (Lib.encodeRuneZ c).length by omega] at h
  rw [h]
  cases (Lib.encodeRuneZ c).length - 1 <;> simp [U]
theorem enc_str (c : Int) (h0 : 0 ≤ c) (h1 : c ≤ 1114111) (h2 : c < 55296 ∨ 57343 < c) : Utf8.encode c = strOfNums (Lib.encodeRuneZ c) := by
  have hv : Utf8.valid c = true := by rw [validRune_eq, validRune]; simp; omega
  obtain ⟨n, rfl⟩ := Int.eq_ofNat_of_zero_le h0
  unfold Utf8.encode strOfNums
  simp only [hv, if_true, Int.toNat_natCast]
  have u : ∀ (a : Int) (b : Nat), a = b → UInt8.ofNat a.toNat = UInt8.ofNat b := by intro a b h; rw [h]; rfl
  by_cases e1 : n < 128
  · rw [if_pos e1, Lib.encodeRuneZ_one h0 (by omega)]; rfl
  rw [if_neg e1]
  by_cases e2 : n < 2048
  · rw [if_pos e2, Lib.encodeRuneZ_two (by omega) (by omega)]
    simp only [List.map_cons, List.map_nil]
    rw [u (192 + (n : Int) / 64) (192 + n / 64) (by omega), u (128 + (n : Int) % 64) (128 + n % 64) (by omega)]
  rw [if_neg e2]
  by_cases e3 : n < 65536
  · rw [if_pos e3, Lib.encodeRuneZ_three (by omega)]
    simp only [List.map_cons, List.map_nil]
    rw [u (224 + (n : Int) / 4096) (224 + n / 4096) (by omega), u (128 + (n : Int) / 64 % 64) (128 + n / 64 % 64) (by omega), u (128 + (n : Int) % 64) (128 + n % 64) (by omega)]
  rw [if_neg e3, Lib.encodeRuneZ_four (by omega) (by omega)]
  simp only [List.map_cons, List.map_nil]
  rw [u (240 + (n : Int) / 262144) (240 + n / 262144) (by omega), u (128 + (n : Int) / 4096 % 64) (128 + n / 4096 % 64) (by omega), u (128 + (n : Int) / 64 % 64) (128 + n / 64 % 64) (by omega), u (128 + (n : Int) % 64) (128 + n % 64) (by omega)]
theorem hexV_dg (great : Bool) (k : Int) (h0 : 0 ≤ k) (h1 : k < 16) : hexV (dg great k) = some k := by
  unfold dg hexV
  by_cases a : k < 10
  · rw [if_pos a, if_pos (by omega)]; congr 1; omega
  · rw [if_neg a]
    cases great
    · rw [if_neg (show ¬ (false = true) by decide), if_neg (by omega), if_pos (by omega)]; congr 1; omega
    · rw [if_pos (show true = true from rfl), if_neg (by omega), if_neg (by omega), if_pos (by omega)]; congr 1; omega
theorem unitF_dg (great : Bool) (n : Int) (h0 : 0 ≤ n) (h1 : n < 65536) : unitF [dg great (n / 4096 % 16), dg great (n / 256 % 16), dg great (n / 16 % 16), dg great (n % 16)] 0 = some n := by
  simp only [unitF, hexV_dg great (n / 4096 % 16) (by omega) (by omega), hexV_dg great (n / 256 % 16) (by omega) (by omega), hexV_dg great (n / 16 % 16) (by omega) (by omega), hexV_dg great (n % 16) (by omega) (by omega), Option.bind_some]
  congr 1; omega
/-- One unit in quotes. -/
def q1 (great : Bool) (n : Int) : List Int := 34 :: (uL great n ++ [34])
/-- Two units in quotes. -/
def q2 (great : Bool) (n m : Int) : List Int := 34 :: (uL great n ++ (uL great m ++ [34]))
theorem text_end (b out : List Int) (k i : Nat) (hb : hereB b i = 34) (hi : i < b.length) : textF (k + 1) b i out = if U out.length out = none then some (out, i + 1) else none := by
  unfold textF; rw [hb, if_neg (by omega), if_pos rfl]
theorem text_esc (b out : List Int) (k i : Nat) (hb : hereB b i = 92) (hi : i < b.length) : textF (k + 1) b i out = match escV b (i + 1) with | none => none | some p => textF k b p.2 (out ++ Lib.encodeRuneZ p.1) := by
  rw [textF, hb, if_neg (by omega), if_neg (by decide), if_pos rfl]
  cases escV b (i + 1) <;> rfl
theorem text_byte (b out : List Int) (k i : Nat) (x : Int) (hb : hereB b i = x) (hi : i < b.length) (h0 : 32 ≤ x) (h1 : x ≠ 34) (h2 : x ≠ 92) : textF (k + 1) b i out = textF k b (i + 1) (out ++ [x]) := by
  rw [textF, hb, if_neg (by omega), if_neg h1, if_neg h2]
theorem esc_u (b : List Int) (i : Nat) (hb : hereB b i = 117) : escV b i = pairV b i := by
  unfold escV; rw [hb]; rfl
theorem textV_go (b : List Int) (h : hereB b 0 = 34) : textV b 0 = textF (b.length + 1) b 1 [] := by
  have hl : 0 < b.length := hereB_lt (by rw [h]; decide)
  have hs : skip b 0 = 0 := by unfold skip skipF; rw [h]; rfl
  unfold textV signB; rw [hs, h, decide_eq_true hl]; rfl
theorem q1_text (great : Bool) (n : Int) (h0 : 0 ≤ n) (h1 : n < 65536) : textV (q1 great n) 0 = if 55296 ≤ n ∧ n < 57344 then none else some (Lib.encodeRuneZ n, 8) := by
  have hu : unitV (q1 great n) 3 = some n := by
    show unitF [dg great (n / 4096 % 16), dg great (n / 256 % 16), dg great (n / 16 % 16), dg great (n % 16)] 0 = some n
    exact unitF_dg great n h0 h1
  have l8 : (q1 great n).length = 8 := rfl
  have g0 : hereB (q1 great n) 0 = 34 := rfl
  have g1 : hereB (q1 great n) 1 = 92 := rfl
  have g2 : hereB (q1 great n) 2 = 117 := rfl
  have g7 : hereB (q1 great n) 7 = 34 := rfl
  rw [textV_go _ g0, l8, text_esc _ _ _ _ g1 (by omega), esc_u _ _ g2]
  have hp : pairV (q1 great n) 2 = if 55296 ≤ n ∧ n < 57344 then none else some (n, 7) := by
    unfold pairV
    rw [hu]
    dsimp only
    by_cases a : n / 1024 = 55
    · rw [if_pos a, if_pos (by omega)]
    · rw [if_neg a]
      by_cases c : n / 1024 ≠ 54
      · rw [if_pos c, if_neg (by omega)]
      · rw [if_neg c, if_neg (by rw [l8]; omega), if_pos (by omega)]
  rw [hp]
  by_cases d : 55296 ≤ n ∧ n < 57344
  · rw [if_pos d, if_pos d]
  · rw [if_neg d, if_neg d]
    show textF 8 (q1 great n) 7 ([] ++ Lib.encodeRuneZ n) = _
    rw [text_end _ _ _ _ g7 (by omega), List.nil_append, if_pos (U_enc n h0 (by omega) (by omega))]
theorem q2_text (great : Bool) (r : Int) (h0 : 65536 ≤ r) (h1 : r ≤ 1114111) : textV (q2 great (55296 + (r - 65536) / 1024) (56320 + (r - 65536) % 1024)) 0 = some (Lib.encodeRuneZ r, 14) := by
  obtain ⟨n, hn⟩ : ∃ n, 55296 + (r - 65536) / 1024 = n := ⟨_, rfl⟩
  obtain ⟨m, hm⟩ : ∃ m, 56320 + (r - 65536) % 1024 = m := ⟨_, rfl⟩
  rw [hn, hm]
  have hu : unitV (q2 great n m) 3 = some n := by
    show unitF [dg great (n / 4096 % 16), dg great (n / 256 % 16), dg great (n / 16 % 16), dg great (n % 16)] 0 = some n
    exact unitF_dg great n (by omega) (by omega)
  have hv : unitV (q2 great n m) 9 = some m := by
    show unitF [dg great (m / 4096 % 16), dg great (m / 256 % 16), dg great (m / 16 % 16), dg great (m % 16)] 0 = some m
    exact unitF_dg great m (by omega) (by omega)
  have l14 : (q2 great n m).length = 14 := rfl
  have g0 : hereB (q2 great n m) 0 = 34 := rfl
  have g1 : hereB (q2 great n m) 1 = 92 := rfl
  have g2 : hereB (q2 great n m) 2 = 117 := rfl
  have g7 : hereB (q2 great n m) 7 = 92 := rfl
  have g8 : hereB (q2 great n m) 8 = 117 := rfl
  have g13 : hereB (q2 great n m) 13 = 34 := rfl
  rw [textV_go _ g0, l14, text_esc _ _ _ _ g1 (by omega), esc_u _ _ g2]
  have hp : pairV (q2 great n m) 2 = some (r, 13) := by
    unfold pairV
    rw [hu]
    dsimp only
    rw [if_neg (by omega), if_neg (by omega), if_pos ⟨by rw [l14]; omega, g7, g8⟩, hv]
    dsimp only
    rw [if_pos (by omega)]
    congr 2; omega
  rw [hp]
  show textF 14 (q2 great n m) 13 ([] ++ Lib.encodeRuneZ r) = _
  rw [text_end _ _ _ _ g13 (by omega), List.nil_append, if_pos (U_enc r (by omega) h1 (by omega))]
end Go.Proofs.Ytonekmigcpgdeaa.Hand
