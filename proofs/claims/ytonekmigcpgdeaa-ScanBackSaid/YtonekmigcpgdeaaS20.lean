/- Layer 13, scan: a text in quotes as it is written is read as it; plain Lean. -/
import Derived.Test.YtonekmigcpgdeaaS19
import Derived.Laws.Cover4
namespace Go.Proofs.Ytonekmigcpgdeaa.Hand
open Go.RowKit Go.Proofs.Ytonekmigcpgdeaa.QAll Go.Proofs.YtonekmigcpgdeaaW.PrintWords Go.Proofs.YtonekmigcpgdeaaW.PrintLast Go.Proofs.YtonekmigcpgdeaaW.PrintMore Go.Proofs.Ytonekmigcpgdeaa.Runes
set_option linter.unusedVariables false
set_option linter.unusedSimpArgs false
theorem here_drop {b t : List Int} {i : Nat} {y : Int} (h : b.drop i = y :: t) : hereB b i = y ∧ i < b.length ∧ b.drop (i + 1) = t := by
  have hi : i < b.length := by
    rcases Nat.lt_or_ge i b.length with h' | h'
    · exact h'
    · rw [List.drop_of_length_le h'] at h; cases h
  rw [List.drop_eq_getElem_cons hi] at h
  injection h with h1 h2
  exact ⟨by unfold hereB; rw [dif_pos hi, h1], hi, h2⟩
theorem unit_drop {b t : List Int} {i : Nat} {p q r s : Int} (h : b.drop i = p :: q :: r :: s :: t) : unitV b i = unitF [p, q, r, s] 0 := by
  have hl : i + 4 ≤ b.length := by
    have := congrArg List.length h
    simp at this; omega
  unfold unitV
  rw [if_pos hl, h]; rfl
theorem enc_small (x : Int) (h0 : 0 ≤ x) (h1 : x < 128) : Lib.encodeRuneZ x = [x] := Lib.encodeRuneZ_one h0 (by omega)
theorem kx_case (x : Int) (h : kx x < 7) : (x = 34 ∧ kx x = 0) ∨ (x = 92 ∧ kx x = 1) ∨ (x = 8 ∧ kx x = 2) ∨ (x = 9 ∧ kx x = 3) ∨ (x = 10 ∧ kx x = 4) ∨ (x = 12 ∧ kx x = 5) ∨ (x = 13 ∧ kx x = 6) := by
  unfold kx at h ⊢
  repeat' split at h
  all_goals first
    | omega
    | simp_all
theorem kx_ne (x : Int) (h : ¬ kx x < 7) : x ≠ 34 ∧ x ≠ 92 := by
  constructor
  · intro e; subst e; exact h (by decide)
  · intro e; subst e; exact h (by decide)
theorem quoted_read (b : List Int) (behind : List Int) : ∀ (l : List Int) (k i : Nat) (out : List Int), (∀ x ∈ l, 0 ≤ x ∧ x < 256) → l.length < k → b.drop i = qfs l ++ (34 :: behind) → U (out ++ l).length (out ++ l) = none →
    textF k b i out = some (out ++ l, i + (qfs l).length + 1)
  | [], k, i, out, _, hk, hd, hU => by
    obtain ⟨k, rfl⟩ : ∃ m, k = m + 1 := ⟨k - 1, by omega⟩
    rw [List.append_nil] at hU ⊢
    obtain ⟨h1, h2, _⟩ := here_drop (b := b) (i := i) (y := 34) (t := behind) hd
    rw [text_end b out k i h1 h2, if_pos hU]; rfl
  | x :: t, k, i, out, hb, hk, hd, hU => by
    obtain ⟨k, rfl⟩ : ∃ m, k = m + 1 := ⟨k - 1, by omega⟩
    have hx := hb x List.mem_cons_self
    have hbt : ∀ y ∈ t, 0 ≤ y ∧ y < 256 := fun y hy => hb y (List.mem_cons_of_mem _ hy)
    have hkt : t.length < k := by simp at hk; omega
    have e1 : out ++ x :: t = (out ++ [x]) ++ t := by simp
    rw [e1] at hU ⊢
    simp only [qfs] at hd ⊢
    rw [List.append_assoc] at hd
    unfold qf at hd ⊢
    by_cases h7 : kx x < 7
    · rw [if_pos h7] at hd
      rw [if_pos h7]
      obtain ⟨a1, a2, a3⟩ := here_drop (b := b) (i := i) (y := 92) hd
      obtain ⟨c1, c2, c3⟩ := here_drop (b := b) (i := i + 1) (y := toL (kx x)) a3
      have he : escV b (i + 1) = some (x, i + 2) := by
        unfold escV
        rw [c1]
        rcases kx_case x h7 with ⟨rfl, e⟩ | ⟨rfl, e⟩ | ⟨rfl, e⟩ | ⟨rfl, e⟩ | ⟨rfl, e⟩ | ⟨rfl, e⟩ | ⟨rfl, e⟩ <;> rw [e] <;> rfl
      rw [text_esc b out k i a1 a2, he]
      dsimp only
      have hx2 : x < 128 := by rcases kx_case x h7 with ⟨e, _⟩ | ⟨e, _⟩ | ⟨e, _⟩ | ⟨e, _⟩ | ⟨e, _⟩ | ⟨e, _⟩ | ⟨e, _⟩ <;> omega
      rw [enc_small x hx.1 hx2, quoted_read b behind t k (i + 2) (out ++ [x]) hbt hkt c3 hU]
      simp; omega
    · rw [if_neg h7] at hd
      rw [if_neg h7]
      have hne := kx_ne x h7
      by_cases h32 : x < 32
      · rw [if_pos h32] at hd
        rw [if_pos h32]
        obtain ⟨a1, a2, a3⟩ := here_drop (b := b) (i := i) (y := 92) hd
        obtain ⟨c1, c2, c3⟩ := here_drop (b := b) (i := i + 1) (y := 117) a3
        have hu : unitV b (i + 1 + 1) = some x := by
          rw [unit_drop c3]
          simp only [unitF, hexV_dg false (x / 16) (by omega) (by omega), hexV_dg false (x % 16) (by omega) (by omega), Option.bind_some, show hexV 48 = some 0 from rfl]
          congr 1; omega
        have hdd : b.drop (i + 6) = qfs t ++ 34 :: behind := by
          have := congrArg (List.drop 4) c3
          rw [List.drop_drop] at this
          rw [show i + 1 + 1 + 4 = i + 6 by omega] at this
          rw [this]; rfl
        have he : escV b (i + 1) = some (x, i + 6) := by
          rw [esc_u b (i + 1) c1]
          unfold pairV
          rw [hu]
          dsimp only
          rw [if_neg (by omega), if_pos (by omega)]
        rw [text_esc b out k i a1 a2, he]
        dsimp only
        rw [enc_small x hx.1 (by omega), quoted_read b behind t k (i + 6) (out ++ [x]) hbt hkt hdd hU]
        simp; omega
      · rw [if_neg h32] at hd
        rw [if_neg h32]
        obtain ⟨a1, a2, a3⟩ := here_drop (b := b) (i := i) (y := x) hd
        rw [text_byte b out k i x a1 a2 (by omega) hne.1 hne.2, quoted_read b behind t k (i + 1) (out ++ [x]) hbt hkt a3 hU]
        simp; omega
/-- The law's own text. -/
def backL (l behind : List Int) : List Int := 32 :: 9 :: (quoted l ++ behind)
theorem back_text (l behind : List Int) (hb : ∀ x ∈ l, 0 ≤ x ∧ x < 256) (hU : U l.length l = none) : textV (backL l behind) 0 = some (l, (quoted l).length + 2) := by
  have hlen : (backL l behind).length = (qfs l).length + behind.length + 4 := by unfold backL quoted; simp; omega
  obtain ⟨b, hbb⟩ : ∃ b, backL l behind = b := ⟨_, rfl⟩
  have h0 : hereB b 0 = 32 := by rw [← hbb]; rfl
  have h1 : hereB b 1 = 9 := by rw [← hbb]; rfl
  have h2 : hereB b 2 = 34 := by rw [← hbb]; rfl
  have hd : b.drop 3 = qfs l ++ (34 :: behind) := by rw [← hbb]; unfold backL quoted; simp
  rw [hbb] at hlen ⊢
  have hs : skip b 0 = 2 := by
    unfold skip
    rw [hlen]
    rw [show (qfs l).length + behind.length + 4 + 1 = ((qfs l).length + behind.length + 2) + 1 + 1 + 1 by omega]
    rw [skipF, h0, if_pos (by decide), skipF, show 0 + 1 = 1 from rfl, h1, if_pos (by decide), skipF, show 1 + 1 = 2 from rfl, h2, if_neg (by decide)]
  have hsg : signB b 0 34 = true := by unfold signB; rw [hs, h2, decide_eq_true (by omega)]; rfl
  unfold textV
  rw [if_pos hsg, hs]
  have h := quoted_read b behind l (b.length + 1) 3 [] hb (by
    have : l.length ≤ (qfs l).length := by
      clear hU hb hd hs hsg hlen hbb h0 h1 h2
      induction l with
      | nil => simp
      | cons x t ih => have := qf_length x; simp only [qfs, List.length_append, List.length_cons]; omega
    omega) hd (by simpa using hU)
  rw [show 2 + 1 = 3 from rfl, h]
  unfold quoted
  simp; omega
/-- Runes as bytes. -/
def flatR : List Int → List Int
  | [] => []
  | n :: t => Lib.encodeRuneZ n ++ flatR t
theorem enc_sign_any (c : Int) (t : List Int) : wsign (Lib.encodeRuneZ c ++ t) = (Lib.encodeRuneZ c).length := by
  by_cases h : 0 ≤ c ∧ c ≤ 1114111 ∧ (c < 55296 ∨ 57343 < c)
  · exact enc_sign c h.1 h.2.1 h.2.2 t
  · have e1 : Lib.encodeRuneZ c = [239, 191, 189] := Lib.encodeRuneZ_bad (by omega)
    have e2 : Lib.encodeRuneZ 65533 = [239, 191, 189] := by decide
    rw [e1, ← e2]
    exact enc_sign 65533 (by decide) (by decide) (by decide) t
theorem U_flat : ∀ (ns : List Int) (m : Nat), (flatR ns).length ≤ m → U m (flatR ns) = none
  | [], m, _ => by cases m <;> rfl
  | n :: t, m, h => by
    have hl := Lib.encodeRuneZ_length n
    simp only [flatR, List.length_append] at h ⊢
    obtain ⟨m, rfl⟩ : ∃ k, m = k + 1 := ⟨m - 1, by omega⟩
    rw [U_sign _ _ _ (by intro e; rw [e] at hl; simp at hl) (enc_sign_any n _), U_flat t m (by omega)]
    rfl
theorem flatR_byte : ∀ (ns : List Int), ∀ x ∈ flatR ns, 0 ≤ x ∧ x < 256
  | [], x, h => by cases h
  | n :: t, x, h => by
    simp only [flatR, List.mem_append] at h
    rcases h with h | h
    · exact Lib.encodeRuneZ_byte n x h
    · exact flatR_byte t x h
theorem flatR_length : ∀ (ns : List Int), (flatR ns).length ≤ 4 * ns.length
  | [] => by simp [flatR]
  | n :: t => by
    have := flatR_length t
    have := Lib.encodeRuneZ_length n
    simp only [flatR, List.length_append, List.length_cons]; omega
theorem enc_str_any (c : Int) : Utf8.encode c = strOfNums (Lib.encodeRuneZ c) := by
  by_cases h : 0 ≤ c ∧ c ≤ 1114111 ∧ (c < 55296 ∨ 57343 < c)
  · exact enc_str c h.1 h.2.1 h.2.2
  · have e1 : Lib.encodeRuneZ c = [239, 191, 189] := Lib.encodeRuneZ_bad (by omega)
    have hv : Utf8.valid c = false := by rw [validRune_eq, validRune]; simp; omega
    rw [e1]
    unfold Utf8.encode
    simp only [hv, Bool.false_eq_true, if_false]
    rfl
theorem runes_str (ns : List Int) : runesBytes ns = strOfNums (flatR ns) := by
  have key : ∀ (ns : List Int) (r : List Int), ns.foldl (fun r n => r ++ Utf8.encode n) (strOfNums r) = strOfNums (r ++ flatR ns) := by
    intro ns
    induction ns with
    | nil => intro r; simp [flatR]
    | cons n t ih =>
      intro r
      rw [List.foldl_cons, enc_str_any, str_app, ih]
      simp [flatR]
  unfold runesBytes
  exact key ns []
end Go.Proofs.Ytonekmigcpgdeaa.Hand
