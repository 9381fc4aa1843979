/- WireRunes, ahead of the walk: numbers of 32 bits, a rune's string as bytes. -/
import Derived.Test.YtgabfoafchnpiaaRunes
import Derived.Test.YtgabfoafchnpiaaWalkWireBack
import Derived.Laws.Runes
namespace Go.Proofs.Ytgabfoafchnpiaa.Runes
open Go.RowKit Go.Proofs.Ytgabfoafchnpiaa.QAll Go.Proofs.YtgabfoafchnpiaaW.PrintWords Go.Proofs.YtgabfoafchnpiaaW.PrintLast Go.Proofs.YtgabfoafchnpiaaW.PrintMore Go.Proofs.Ytgabfoafchnpiaa.Nums Go.Proofs.Ytgabfoafchnpiaa.Hand
set_option linter.unusedSimpArgs false

theorem and_i32 (x : Int) : Go.bits .and .i32 x 2097151 = x % 2097152 := by
  have h2 : (BitVec.ofInt 32 (2097151 : Int)).toNat = 2 ^ 21 - 1 := by decide
  simp only [Go.bits]
  rw [show IntKind.i32.bits = 32 from rfl, BitVec.toNat_and, h2, Nat.and_two_pow_sub_one_eq_mod, BitVec.toNat_ofInt, IntKind.wrap_i32]
  have e : (((x % ((2 ^ 32 : Nat) : Int)).toNat % 2 ^ 21 : Nat) : Int) = x % 2097152 := by
    rw [show ((2 ^ 32 : Nat) : Int) = 4294967296 from rfl]; omega
  rw [e]; omega
theorem and15_i32 (x : Int) (h0 : 0 ≤ x) (h1 : x < 2097152) : Go.bits .and .i32 x 15 = x % 16 := bits_mask .i32 31 (by decide) wraps_i32 4 (by decide) x h0 (by omega)
theorem and63_i32 (x : Int) (h0 : 0 ≤ x) (h1 : x < 2097152) : Go.bits .and .i32 x 63 = x % 64 := bits_mask .i32 31 (by decide) wraps_i32 6 (by decide) x h0 (by omega)
theorem and7_i32 (x : Int) (h0 : 0 ≤ x) (h1 : x < 2097152) : Go.bits .and .i32 x 7 = x % 8 := bits_mask .i32 31 (by decide) wraps_i32 3 (by decide) x h0 (by omega)
theorem or224 (y : Int) (h0 : 0 ≤ y) (h1 : y < 16) : Go.bits .or .u8 224 y = 224 + y := bits_join .u8 8 (by decide) wraps_u8 4 224 y (by decide) (by decide) (by decide) h0 h1 (by omega)
theorem or240 (y : Int) (h0 : 0 ≤ y) (h1 : y < 8) : Go.bits .or .u8 240 y = 240 + y := bits_join .u8 8 (by decide) wraps_u8 3 240 y (by decide) (by decide) (by decide) h0 h1 (by omega)

theorem enc_bytes (c : Int) (h0 : 0 ≤ c) (h1 : c ≤ 1114111) (h2 : c < 55296 ∨ 57343 < c) : bytesOf (Utf8.encode c) = enc c := by
  have hv : Utf8.valid c = true := by rw [validRune_eq, validRune]; simp; omega
  obtain ⟨n, rfl⟩ := Int.eq_ofNat_of_zero_le h0
  have u : ∀ k : Nat, k < 256 → ((UInt8.ofNat k).toNat : Int) = (k : Int) := by intro k hk; simp; omega
  unfold Utf8.encode enc
  simp only [hv, if_true, Int.toNat_natCast]
  by_cases e1 : n < 128
  · rw [if_pos e1, if_pos (show (n : Int) < 128 by omega)]; simp only [bytesOf, List.map_cons, List.map_nil]; rw [u _ (by omega)]
  rw [if_neg e1, if_neg (show ¬ (n : Int) < 128 by omega)]
  by_cases e2 : n < 2048
  · rw [if_pos e2, if_pos (show (n : Int) < 2048 by omega)]; simp only [bytesOf, List.map_cons, List.map_nil]; rw [u _ (by omega), u _ (by omega)]; simp
  rw [if_neg e2, if_neg (show ¬ (n : Int) < 2048 by omega)]
  by_cases e3 : n < 65536
  · rw [if_pos e3, if_pos (show (n : Int) < 65536 by omega)]; simp only [bytesOf, List.map_cons, List.map_nil]; rw [u _ (by omega), u _ (by omega), u _ (by omega)]; simp
  rw [if_neg e3, if_neg (show ¬ (n : Int) < 65536 by omega)]
  simp only [bytesOf, List.map_cons, List.map_nil]; rw [u _ (by omega), u _ (by omega), u _ (by omega), u _ (by omega)]; simp
theorem encode_small (c : Int) : (Utf8.encode c).size ≤ 4 := by
  unfold Utf8.encode
  simp only
  split
  · split
    · show 1 ≤ 4; omega
    · split
      · show 2 ≤ 4; omega
      · split
        · show 3 ≤ 4; omega
        · show 4 ≤ 4; omega
  · decide

/-- A short string as bytes: a row of its own. -/
theorem to_bytes (s : ByteArray) (hs : s.size ≤ 4) (W : World) : ∃ (cap : Nat) (W2 : World), (convert 9 23 (.string s)).run Try.prog W = .ok (.slice (some ⟨W.heap.size, 0, none⟩) s.size cap) W2 ∧
    Kd.C (Kd.int .u8) W2 (some ⟨W.heap.size, 0, none⟩) s.size (bytesOf s) ∧ s.size ≤ cap ∧ Below W.heap.size W W2 ∧ (bytesOf s).length = s.size :=
  ⟨_, _, print_bytes (P := Try.prog) 9 23 5 Try.underlying9 Try.underlying23 Try.underlying5 s W, Kd.C_of_reads (d := (0 : Int)) (h1 := fun _ => rfl) (bytes_reads W 5 s (by omega)), grownCap_ge _ _ _ _, bytes_below (Below.refl _ _) (Nat.le_refl _) 5 s, bytesOf_length s⟩
/-- A short row of bytes that the walk laid. -/
theorem raw_own3 (a b c : Int) (W : World) : Kd.R (Kd.int .u8) 5 (W.alloc (.cells #[.int .u8 a, .int .u8 b, .int .u8 c] 5)) W.heap.size (fun _ => True) (.slice (some ⟨W.heap.size, 0, none⟩) 3 3) [a, b, c] :=
  Kd.R_of_own (enc := Value.int .u8) (h1 := fun _ => rfl) ⟨rfl, .inr ⟨W.heap.size, 3, #[.int .u8 a, .int .u8 b, .int .u8 c], rfl, Nat.le_refl _, heap_alloc_new W _, Nat.le_refl _, by decide, rfl, rfl⟩⟩ (fun _ _ => trivial)
theorem raw_own4 (a b c d : Int) (W : World) : Kd.R (Kd.int .u8) 5 (W.alloc (.cells #[.int .u8 a, .int .u8 b, .int .u8 c, .int .u8 d] 5)) W.heap.size (fun _ => True) (.slice (some ⟨W.heap.size, 0, none⟩) 4 4) [a, b, c, d] :=
  Kd.R_of_own (enc := Value.int .u8) (h1 := fun _ => rfl) ⟨rfl, .inr ⟨W.heap.size, 4, #[.int .u8 a, .int .u8 b, .int .u8 c, .int .u8 d], rfl, Nat.le_refl _, heap_alloc_new W _, Nat.le_refl _, by decide, rfl, rfl⟩⟩ (fun _ _ => trivial)
end Go.Proofs.Ytgabfoafchnpiaa.Runes
