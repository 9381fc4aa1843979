/- Texts joined: C12. -/
import Derived.Laws.BitsAllLaws
import Derived.Test.YtjgjidehlldfhaaZC26
section
/- Layer 8, capread: the law Sections, in plain Lean: a struct of one number of two bytes, with more words than it needs, or none. -/
namespace Go.Proofs.Ytjgjidehlldfhaa.Hand
open Go.RowKit Go.Proofs.Ytjgjidehlldfhaa.QAll Go.Proofs.YtjgjidehlldfhaaW.PrintWords Go.Proofs.YtjgjidehlldfhaaW.PrintLast Go.Proofs.YtjgjidehlldfhaaW.PrintMore Go.Proofs.Ytjgjidehlldfhaa.Nums Go.Proofs.Ytjgjidehlldfhaa.Runes
set_option linter.unusedVariables false
set_option linter.unusedSimpArgs false
/-- A message's head, and its root's pointer. -/
def hsec (n : Int) : List Int := [0, 0, 0, 0, 1 + n, 0, 0, 0, 0, 0, 0, 0, n, 0, 0, 0]
/-- The message. -/
def bsec (n : Nat) (lo hi : Int) : List Int := if n = 0 then [0, 0, 0, 0, 1, 0, 0, 0, 252, 255, 255, 255, 0, 0, 0, 0] else hsec n ++ lo :: hi :: List.replicate (8 * n - 2) 165
theorem bsec_len (n : Nat) (lo hi : Int) : (bsec n lo hi).length = 16 + 8 * n := by
  unfold bsec
  split
  · rename_i h; subst h; rfl
  · simp [hsec]; omega
theorem bsec_bytes {n : Nat} (hn : n < 5) {lo hi : Int} (h0 : 0 ≤ lo ∧ lo < 256) (h1 : 0 ≤ hi ∧ hi < 256) : ∀ x ∈ bsec n lo hi, 0 ≤ x ∧ x < 256 := by
  intro x hx
  unfold bsec at hx
  split at hx
  · revert x; exact bytes_u8 (by decide)
  · simp only [hsec, List.mem_append, List.mem_cons, List.mem_replicate, List.not_mem_nil, or_false] at hx
    omega
theorem n_cases {n : Nat} (hn : n < 5) : n = 0 ∨ n = 1 ∨ n = 2 ∨ n = 3 ∨ n = 4 := by omega
theorem sec_head {n : Nat} (hn : n < 5) (lo hi : Int) : headM (bsec n lo hi) = true := by
  rcases n_cases hn with rfl | rfl | rfl | rfl | rfl
  · kernel_rfl
  · rfl
  · rfl
  · rfl
  · rfl
theorem sec_cnt {n : Nat} (hn : n < 5) (lo hi : Int) : (loadV (bsec n lo hi) 4 4).1 = 1 + n := by
  rcases n_cases hn with rfl | rfl | rfl | rfl | rfl <;> rfl
/-- The root: where it is, how many words of numbers. -/
def secP (n : Nat) : Ptr := if n = 0 then ⟨false, false, 0, 0, 0, 0, 0⟩ else ⟨false, false, 1, n, 0, 0, 0⟩
theorem sec_root {n : Nat} (hn : n < 5) (lo hi : Int) (df : Int) : rootM (msgM [rX 7 df] [] 0 (bsec n lo hi)) = (secP n, true) := by
  have e : rootM (msgM [rX 7 df] [] 0 (bsec n lo hi)) = pointerM (loadV (bsec n lo hi) 4 4).1 (wordM ((bsec n lo hi).drop 8) 0) 0 := rfl
  rw [e, sec_cnt hn]
  have hw : wordM ((bsec n lo hi).drop 8) 0 = if n = 0 then 4294967292 else 4294967296 * n := by
    rcases n_cases hn with rfl | rfl | rfl | rfl | rfl <;> rfl
  rw [hw]
  rcases n_cases hn with rfl | rfl | rfl | rfl | rfl <;> rfl
theorem sec_read {n : Nat} (hn : n < 5) (lo hi : Int) (df : Int) : (readM (msgM [rX 7 df] [] 0 (bsec n lo hi)) noT ⟨0, 1099511627776, false⟩).1 = true := by
  have hc := sec_cnt hn lo hi
  refine read_one_true 7 df _ _ (secP n) (by decide) (by decide) (by decide) (sec_root hn lo hi df) (by unfold secP; split <;> rfl) (by unfold secP; split <;> rfl) ?_ ?_
  · rw [hc]; rcases n_cases hn with rfl | rfl | rfl | rfl | rfl <;> decide
  · rcases n_cases hn with rfl | rfl | rfl | rfl | rfl <;> decide
/-- A number of two bytes. -/
theorem value7 (y : Int) (h0 : 0 ≤ y) (h1 : y < 18446744073709551616) : valueM 7 y = y % 65536 := by
  have e : valueM 7 y = Go.bits .and .u64 y 65535 := by
    unfold valueM capread_value.f
    rw [at_rounds (fun k' => layout_Bits.mono 7 k') (show 6 ≤ 10 by decide) (bits_f 7)]
    have hb : bitsM 7 = 16 := by decide
    have hm : IntKind.u64.wrap ((shl .u64 1 16) - 1) = 65535 := by decide
    have hs : wire_Sign.f 7 = some false := by decide
    rw [hb]
    simp only [Option.bind_some]
    rw [if_pos (by decide), if_pos (by decide), hm]
    simp only [capread_value.j0, hs, Option.bind_some]
    rfl
  rw [e]
  have := U.and_u64 16 (by decide) y h0 h1
  simpa using this
theorem xor_low (a b c : Nat) (hb : b < 65536) : ((a + 65536 * c) ^^^ b) % 65536 = (a ^^^ b) % 65536 := by
  have e : (65536 : Nat) = 2 ^ 16 := by decide
  rw [e, Nat.xor_mod_two_pow, Nat.xor_mod_two_pow (a := a)]
  congr 1
  omega
theorem sec_num0 (df : Int) (h0 : 0 ≤ df ∧ df < 256) (lo hi : Int) : numM (msgM [rX 7 df] [] 0 (bsec 0 lo hi)).b 7 df 0 0 0 = df := by
  have e : numM (msgM [rX 7 df] [] 0 (bsec 0 lo hi)).b 7 df 0 0 0 = valueM 7 (Go.bits .xor .u64 0 df) := rfl
  obtain ⟨d, rfl⟩ := Int.eq_ofNat_of_zero_le h0.1
  have hx : Go.bits .xor .u64 0 (d : Int) = (d : Int) := by
    have := u64_xor_nat 0 d (by decide) (by omega)
    simpa using this
  rw [e, hx, value7 _ (by omega) (by omega)]
  omega
theorem sec_num {n : Nat} (hn : n < 5) (hp : 0 < n) (x df : Int) (hx : 0 ≤ x ∧ x < 65536) (h0 : 0 ≤ df ∧ df < 256) (raw : Int) (hraw : raw = Go.bits .xor .u16 x df) :
    numM (msgM [rX 7 df] [] 0 (bsec n (raw % 256) (raw / 256))).b 7 df 1 n 0 = x := by
  obtain ⟨d, rfl⟩ := Int.eq_ofNat_of_zero_le h0.1
  obtain ⟨xn, rfl⟩ := Int.eq_ofNat_of_zero_le hx.1
  rw [u16_xor_nat xn d (by omega) (by omega)] at hraw
  have hr : xn ^^^ d < 65536 := Nat.xor_lt_two_pow (n := 16) (by omega) (by omega)
  subst hraw
  obtain ⟨r, hrr⟩ : ∃ r, xn ^^^ d = r := ⟨_, rfl⟩
  rw [hrr] at hr ⊢
  have hw : wordM ((bsec n ((r : Int) % 256) ((r : Int) / 256)).drop 8) 1 = ((r + 65536 * 182130867283365 : Nat) : Int) := by
    have : wordM ((bsec n ((r : Int) % 256) ((r : Int) / 256)).drop 8) 1 = (r : Int) % 256 + 256 * ((r : Int) / 256 + 256 * (165 + 256 * (165 + 256 * (165 + 256 * (165 + 256 * (165 + 256 * (165 + 256 * 0))))))) := by
      rcases n_cases hn with rfl | rfl | rfl | rfl | rfl
      · omega
      all_goals rfl
    rw [this]; omega
  have e : numM (msgM [rX 7 d] [] 0 (bsec n ((r : Int) % 256) ((r : Int) / 256))).b 7 d 1 n 0 = valueM 7 (Go.bits .xor .u64 (wordM ((bsec n ((r : Int) % 256) ((r : Int) / 256)).drop 8) 1) d) := by
    unfold numM
    rw [if_pos (by show (0 : Int) + 16 ≤ 64 * n; omega)]
    congr 2
    show wordM _ (1 + 0 / 64) / 2 ^ (0 % 64 : Int).toNat = _
    simp
    rfl
  rw [e, hw, u64_xor_nat _ _ (by omega) (by omega), value7 _ (Int.natCast_nonneg _) (by
    have : (r + 65536 * 182130867283365) ^^^ d < 2 ^ 64 := Nat.xor_lt_two_pow (by omega) (by omega)
    omega)]
  have h := xor_low r d 182130867283365 (by omega)
  have hd : (r ^^^ d) % 65536 = xn := by
    rw [← hrr, Nat.xor_assoc, Nat.xor_self, Nat.xor_zero]; omega
  omega
end Go.Proofs.Ytjgjidehlldfhaa.Hand
end
