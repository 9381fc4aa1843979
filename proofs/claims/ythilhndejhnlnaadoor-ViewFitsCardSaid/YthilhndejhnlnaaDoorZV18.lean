/- Texts joined: M0 M1. -/
import Derived.Test.YthilhndejhnlnaaDoorZV14
import Derived.Test.YthilhndejhnlnaaDoorZV15
import Derived.Test.YthilhndejhnlnaaDoorZV16
import Derived.Test.YthilhndejhnlnaaDoorZV17
section
/- The makers' plain law, 0: the document's signed numbers are the program's; sizes. -/
namespace Go.Proofs.YthilhndejhnlnaaDoor.Mk
open Go.RowKit Go.Proofs.YthilhndejhnlnaaDoor.QAll Go.Proofs.YthilhndejhnlnaaDoorW.PrintWords Go.Proofs.YthilhndejhnlnaaDoorW.PrintLast Go.Proofs.YthilhndejhnlnaaDoorW.PrintMore Go.Proofs.YthilhndejhnlnaaDoor.Hand
theorem mask_sign (i : Nat) (hi0 : 1 ≤ i) (hi : i ≤ 63) (a : Int) (h0 : 0 ≤ a) (h1 : a < 18446744073709551616) :
    (if (Go.bits .and .u64 a (2 ^ i - 1)) / 2 ^ (i - 1) = 1 then Go.bits .or .u64 (Go.bits .and .u64 a (2 ^ i - 1)) (18446744073709551616 - 2 ^ i) else Go.bits .and .u64 a (2 ^ i - 1))
      = if a % 2 ^ i < 2 ^ (i - 1) then a % 2 ^ i else a % 2 ^ i + (18446744073709551616 - 2 ^ i) := by
  rw [U.and_u64 i (by omega) a h0 h1]
  have hp : (0 : Int) < 2 ^ i := Int.pow_pos (by decide)
  have hq : (0 : Int) < 2 ^ (i - 1) := Int.pow_pos (by decide)
  have hd : (2 : Int) ^ i = 2 * 2 ^ (i - 1) := by
    obtain ⟨j, rfl⟩ : ∃ j, i = j + 1 := ⟨i - 1, by omega⟩
    rw [Nat.add_sub_cancel, Int.pow_succ]; omega
  have hle : (2 : Int) ^ i ≤ 2 ^ 63 := by
    have : (2 : Nat) ^ i ≤ 2 ^ 63 := Nat.pow_le_pow_right (by decide) hi
    exact_mod_cast this
  have hm0 := Int.emod_nonneg a (Int.ne_of_gt hp)
  have hm1 := Int.emod_lt_of_pos a hp
  have hdiv : (18446744073709551616 - 2 ^ i : Int) % 2 ^ i = 0 := by
    have : (18446744073709551616 : Int) = 2 ^ (64 - i) * 2 ^ i := by
      rw [← Int.pow_add, show 64 - i + i = 64 by omega]; rfl
    rw [Int.sub_emod, this, Int.mul_emod_left, Int.emod_self]; rfl
  by_cases hb : a % 2 ^ i < 2 ^ (i - 1)
  · rw [if_pos hb, if_neg]
    rw [Int.ediv_eq_zero_of_lt hm0 hb]; decide
  · rw [if_neg hb, if_pos]
    · rw [U.or_comm_u64, U.or_u64 i _ _ (by omega) hdiv (by omega) hm0 hm1 (by omega)]
      omega
    · have : 1 * 2 ^ (i - 1) ≤ a % 2 ^ i := by omega
      have h2 : a % 2 ^ i / 2 ^ (i - 1) < 2 := Int.ediv_lt_of_lt_mul hq (by omega)
      have h3 : 1 ≤ a % 2 ^ i / 2 ^ (i - 1) := (Int.le_ediv_iff_mul_le hq).2 this
      omega

theorem signed_one (a : Int) (h0 : 0 ≤ a) (h1 : a < 18446744073709551616) (s : Int) (k : Nat) : transomref01_Signed.f (k + 1) a s = wire_Signed.f a s := by
  unfold transomref01_Signed.f wire_Signed.f
  have w8 : wrap64 (8 * 1) = 8 := by unfold wrap64; omega
  have w16 : wrap64 (8 * 2) = 16 := by unfold wrap64; omega
  have w32 : wrap64 (8 * 4) = 32 := by unfold wrap64; omega
  have w7 : wrap64 (8 - 1) = 7 := by unfold wrap64; omega
  have w15 : wrap64 (16 - 1) = 15 := by unfold wrap64; omega
  have w31 : wrap64 (32 - 1) = 31 := by unfold wrap64; omega
  have e8 : IntKind.u64.wrap (shl .u64 1 8 - 1) = 2 ^ 8 - 1 := by decide +kernel
  have e16 : IntKind.u64.wrap (shl .u64 1 16 - 1) = 2 ^ 16 - 1 := by decide +kernel
  have e32 : IntKind.u64.wrap (shl .u64 1 32 - 1) = 2 ^ 32 - 1 := by decide +kernel
  have g8 : shl .u64 18446744073709551615 8 = 18446744073709551616 - 2 ^ 8 := by decide +kernel
  have g16 : shl .u64 18446744073709551615 16 = 18446744073709551616 - 2 ^ 16 := by decide +kernel
  have g32 : shl .u64 18446744073709551615 32 = 18446744073709551616 - 2 ^ 32 := by decide +kernel
  have r7 : ∀ x : Int, shr .u64 x 7 = x / 2 ^ 7 := fun _ => rfl
  have r15 : ∀ x : Int, shr .u64 x 15 = x / 2 ^ 15 := fun _ => rfl
  have r31 : ∀ x : Int, shr .u64 x 31 = x / 2 ^ 31 := fun _ => rfl
  have s8 := mask_sign 8 (by decide) (by decide) a h0 h1
  have s16 := mask_sign 16 (by decide) (by decide) a h0 h1
  have s32 := mask_sign 32 (by decide) (by decide) a h0 h1
  have push : ∀ (c : Prop) [Decidable c] (x y : Int), (if c then some x else some y) = some (if c then x else y) := by intro c _ x y; split <;> rfl
  by_cases e1 : s = 1
  · subst e1
    simp only [if_true, transomref01_Signed.j0, w8, w7, e8, g8, r7]
    rw [if_neg (by decide), if_pos (by decide), if_pos (by decide), push]
    rw [show (8 - 1 : Nat) = 7 from rfl] at s8
    rw [s8, U.wrap_u64, U.wrap_i8]; unfold wrap64
    split <;> (congr 1; omega)
  · rw [if_neg e1, if_neg e1]
    by_cases e2 : s = 2
    · subst e2
      simp only [if_true, transomref01_Signed.j0, w16, w15, e16, g16, r15]
      rw [if_neg (by decide), if_pos (by decide), if_pos (by decide), push]
      rw [show (16 - 1 : Nat) = 15 from rfl] at s16
      rw [s16, U.wrap_u64, U.wrap_i16]; unfold wrap64
      split <;> (congr 1; omega)
    · rw [if_neg e2, if_neg e2]
      by_cases e4 : s = 4
      · subst e4
        simp only [if_true, transomref01_Signed.j0, w32, w31, e32, g32, r31]
        rw [if_neg (by decide), if_pos (by decide), if_pos (by decide), push]
        rw [show (32 - 1 : Nat) = 31 from rfl] at s32
        rw [s32, U.wrap_u64]; unfold wrap64 wrap32
        split <;> (congr 1; omega)
      · have : (s != 4) = true := by simpa using e4
        rw [if_neg e4, this]; simp only [transomref01_Signed.j0, if_true]

theorem size_one (c : Int) (h0 : 0 ≤ c) (h1 : c < 256) : ∃ r, wire_Size.f 5 c = some r ∧ transomref01_Size.f 5 c = some r := by
  have : ∀ n : Fin 256, wire_Size.f 5 (n.val : Int) = transomref01_Size.f 5 (n.val : Int) ∧ (wire_Size.f 5 (n.val : Int)).isSome = true := by decide +kernel
  obtain ⟨n, rfl⟩ := Int.eq_ofNat_of_zero_le h0
  obtain ⟨h, hs⟩ := this ⟨n, by omega⟩
  obtain ⟨r, hr⟩ := Option.isSome_iff_exists.1 hs
  exact ⟨r, hr, h ▸ hr⟩

end Go.Proofs.YthilhndejhnlnaaDoor.Mk
end

section
/- The makers' plain law, 1: a number of a type, out of any bits, is one of it. -/
namespace Go.Proofs.YthilhndejhnlnaaDoor.Mk
open Go.RowKit Go.Proofs.YthilhndejhnlnaaDoor.QAll Go.Proofs.YthilhndejhnlnaaDoorW.PrintWords Go.Proofs.YthilhndejhnlnaaDoorW.PrintLast Go.Proofs.YthilhndejhnlnaaDoorW.PrintMore Go.Proofs.YthilhndejhnlnaaDoor.Hand
set_option linter.unusedVariables false
theorem rsize_f (c : Int) (h0 : 0 ≤ c) (h1 : c < 256) : transomref01_Size.f 6 c = some (szB c) := by
  obtain ⟨r, h, g⟩ := size_one c h0 h1
  rw [at_rounds (wire_Size.mono c) (show 5 ≤ 6 by decide) h |>.symm.trans (size_f c) |> Option.some.inj] at g
  exact at_rounds (transomref01_Size.mono c) (show 5 ≤ 6 by decide) g
theorem w64 (c : Int) (h0 : 0 ≤ c) (h1 : c < 256) : wrap64 c = c := by unfold wrap64; omega
theorem isnum_f (kd rf ls : Int) (h0 : 0 ≤ kd) (h1 : kd < 256) : transomref05_IsNum.f 6 kd rf ls = some (decide (ls = 0 ∧ 0 < szB kd)) := by
  unfold transomref05_IsNum.f
  rw [w64 kd h0 h1, rsize_f kd h0 h1]
  by_cases h : ls = 0
  · rw [if_pos h]; simp [h]
  · rw [if_neg h]; simp [h]
/-- The names of an enum: some, and not many. -/
def EnOk (en : List S58) : Prop := en.length ≤ 8 ∧ ∀ c ∈ en, 1 ≤ c.f1.length ∧ c.f1.length ≤ 32
theorem rd_en {en : List S58} (h : EnOk en) (rf : Int) (h0 : 0 ≤ rf) (h1 : rf < en.length) : 1 ≤ (rd_T58 en rf).f1.length ∧ (rd_T58 en rf).f1.length ≤ 32 := by
  have hk : rf.toNat < en.length := by omega
  have e : rd_T58 en rf = en[rf.toNat] := by unfold rd_T58; rw [List.getD_eq_getElem?_getD, List.getElem?_eq_getElem hk]; rfl
  rw [e]; exact h.2 _ (List.getElem_mem hk)
theorem wu (n : Nat) (h : n ≤ 32) : IntKind.u64.wrap (n : Int) = n := by rw [IntKind.wrap_u64]; omega
theorem tm (a b : Int) (h0 : 0 ≤ a) (hb : 0 < b) : Int.tmod a b = a % b := Int.tmod_eq_emod_of_nonneg h0
theorem signed_idem (a s : Int) : ∃ b, wire_Signed.f a s = some b ∧ wire_Signed.f b s = some b ∨ s ≠ 1 ∧ s ≠ 2 ∧ s ≠ 4 ∧ wire_Signed.f a s = some a := by
  unfold wire_Signed.f
  by_cases e1 : s = 1
  · subst e1; refine ⟨_, .inl ⟨rfl, ?_⟩⟩
    simp only [if_true, IntKind.wrap_u64, U.wrap_i8]; unfold wrap64; congr 1; omega
  · by_cases e2 : s = 2
    · subst e2; refine ⟨_, .inl ⟨rfl, ?_⟩⟩
      simp only [if_true, IntKind.wrap_u64, U.wrap_i16]; unfold wrap64
      (repeat rw [if_neg (by decide)])
      congr 1; omega
    · by_cases e4 : s = 4
      · subst e4; refine ⟨_, .inl ⟨rfl, ?_⟩⟩
        simp only [if_true, IntKind.wrap_u64]; unfold wrap64 wrap32
        (repeat rw [if_neg (by decide)])
        congr 1; omega
      · exact ⟨a, .inr ⟨e1, e2, e4, by rw [if_neg e1, if_neg e2, if_neg e4]⟩⟩
theorem wsig (a s : Int) (h0 : 0 ≤ a) (h1 : a < 18446744073709551616) : ∃ b, wire_Signed.f a s = some b ∧ wire_Signed.f b s = some b ∧ 0 ≤ b ∧ b < 18446744073709551616 := by
  obtain ⟨b, ⟨h, g⟩ | ⟨e1, e2, e4, h⟩⟩ := signed_idem a s
  · refine ⟨b, h, g, ?_⟩
    unfold wire_Signed.f at h
    simp only [IntKind.wrap_u64] at h
    split at h
    · injection h with h; omega
    split at h
    · injection h with h; omega
    split at h
    · injection h with h; omega
    · injection h with h; omega
  · refine ⟨a, h, ?_, h0, h1⟩
    exact h
theorem szB_in (kd : Int) (h : 1 ≤ kd) (h2 : kd ≤ 10) : (szB kd = 1 ∨ szB kd = 2 ∨ szB kd = 4) ∨ szB kd = 8 := by
  unfold szB
  split
  · simp
  split
  · simp
  split
  · simp
  split
  · simp
  · omega
theorem fits_at (st : List S50) (en : List S58) (root kd rf m : Int) (h : 1 ≤ kd) (h2 : kd ≤ 10) : schema_Fits.f 10 st en root kd rf 0 m = schema_Fits.j0 10 m (szB kd) false st en root kd rf 0 := by
  unfold schema_Fits.f
  rw [at_rounds (wire_Size.mono kd) (show 6 ≤ 10 by decide) (size_f kd)]
  simp only [Option.bind_some]
  rw [if_neg (by have := szB_in kd h h2; omega)]; rfl
theorem num_of (st : List S50) (en : List S58) (root kd rf m : Int) (h : 1 ≤ kd) (h2 : kd ≤ 10) (b : Bool) (hb : schema_Fits.j0 10 m (szB kd) false st en root kd rf 0 = some b) : numB st en root kd rf 0 m = b := by
  unfold numB; rw [fits_at st en root kd rf m h h2, hb]; rfl
/-- A number that is made is one of its type. -/
theorem number_ok {en : List S58} (hE : EnOk en) (kd rf n : Int) (h1 : 1 ≤ kd) (h2 : kd ≤ 10) (hr : kd = 10 → 0 ≤ rf ∧ rf < en.length) (n0 : 0 ≤ n) (n1 : n < 18446744073709551616) (ls : Int) :
    ∃ m, (∀ st root, transomhand05_Number.f 7 st en root kd rf ls n = some m) ∧ (∀ st root, numB st en root kd rf 0 m = true) ∧ 0 ≤ m ∧ m < 18446744073709551616 := by
  have hz : transomref01_Size.f 7 (wrap64 kd) = some (szB kd) := by
    rw [w64 kd (by omega) (by omega)]; exact at_rounds (transomref01_Size.mono kd) (show 6 ≤ 7 by decide) (rsize_f kd (by omega) (by omega))
  by_cases k1 : kd = 1
  · subst k1
    refine ⟨n % 2, fun st root => ?_, fun st root => num_of _ _ _ _ _ _ (by decide) (by decide) _ ?_, by omega, by omega⟩
    · unfold transomhand05_Number.f; rw [hz]; simp only [Option.bind_some, if_true]; rw [tm n 2 n0 (by decide)]
    · simp only [schema_Fits.j0, if_true]; rw [if_neg (by decide), decide_eq_true (by omega)]
  by_cases k10 : kd = 10
  · subst k10
    obtain ⟨r0, r1⟩ := hr rfl
    obtain ⟨l1, l2⟩ := rd_en hE rf r0 r1
    have hw := wu _ l2
    have e : Int.tmod n ((rd_T58 en rf).f1.length : Int) = n % ((rd_T58 en rf).f1.length : Int) := tm _ _ n0 (by omega)
    have b0 := Int.emod_nonneg n (b := ((rd_T58 en rf).f1.length : Int)) (by omega)
    have b1 := Int.emod_lt_of_pos n (b := ((rd_T58 en rf).f1.length : Int)) (by omega)
    refine ⟨n % ((rd_T58 en rf).f1.length : Int), fun st root => ?_, fun st root => num_of _ _ _ _ _ _ (by decide) (by decide) _ ?_, b0, by omega⟩
    · unfold transomhand05_Number.f; rw [hz]; simp only [Option.bind_some]
      rw [if_neg (by decide), if_pos trivial, if_pos r0, if_pos r1, hw, if_neg (by omega), e]
    · simp only [schema_Fits.j0]; rw [if_neg (by decide), if_neg (by decide), if_pos trivial, if_pos r0, if_pos r1, if_pos r0, hw, decide_eq_true b1]
  -- a plain number: cut to its width, then with its sign
  have hn : ∃ a, (0 ≤ a ∧ a < 18446744073709551616) ∧ (∀ st root, transomhand05_Number.f 7 st en root kd rf ls n = transomhand05_Number.j0 7 a (szB kd) kd rf ls) ∧ (5 < kd → shr .u64 a (wrap64 (8 * szB kd)) = 0 ∨ szB kd = 8) := by
    rcases szB_in kd h1 h2 with hs | hs
    · have hs8 : szB kd < 8 := by omega
      have hw : (0 : Int) ≤ wrap64 (8 * szB kd) := by unfold wrap64; rcases hs with e | e | e <;> rw [e] <;> decide
      have hsh : ∃ M : Int, shl .u64 1 (wrap64 (8 * szB kd)) = M ∧ 0 < M ∧ M ≤ 4294967296 ∧ ∀ a, 0 ≤ a → a < M → shr .u64 a (wrap64 (8 * szB kd)) = 0 := by
        rcases hs with e | e | e
        · rw [e]; exact ⟨256, by decide +kernel, by decide, by decide, fun a x y => by rw [show wrap64 (8 * 1) = 8 from by unfold wrap64; omega]; show a / 2 ^ 8 = 0; omega⟩
        · rw [e]; exact ⟨65536, by decide +kernel, by decide, by decide, fun a x y => by rw [show wrap64 (8 * 2) = 16 from by unfold wrap64; omega]; show a / 2 ^ 16 = 0; omega⟩
        · rw [e]; exact ⟨4294967296, by decide +kernel, by decide, by decide, fun a x y => by rw [show wrap64 (8 * 4) = 32 from by unfold wrap64; omega]; show a / 2 ^ 32 = 0; omega⟩
      obtain ⟨M, hM, M0, M1, hz0⟩ := hsh
      have a0 := Int.emod_nonneg n (b := M) (by omega)
      have a1 := Int.emod_lt_of_pos n M0
      refine ⟨n % M, ⟨a0, by omega⟩, fun st root => ?_, fun _ => .inl (hz0 _ a0 a1)⟩
      unfold transomhand05_Number.f; rw [hz]; simp only [Option.bind_some]
      rw [if_neg k1, if_neg k10, if_pos hs8, if_pos hw, hM, if_neg (by omega), tm n M n0 M0]
    · refine ⟨n, ⟨n0, n1⟩, fun st root => ?_, fun _ => .inr hs⟩
      unfold transomhand05_Number.f; rw [hz]; simp only [Option.bind_some]
      rw [if_neg k1, if_neg k10, if_neg (by omega)]
  obtain ⟨a, ⟨a0, a1⟩, hN, hU⟩ := hn
  have hsg : transomref01_Sign.f (wrap64 kd) = some (decide (2 ≤ kd ∧ kd ≤ 5)) := by
    rw [w64 kd (by omega) (by omega)]; unfold transomref01_Sign.f
    rw [if_pos (show kd ≥ 2 by omega)]; congr 1; simp; omega
  have hsw : wire_Sign.f kd = some (decide (2 ≤ kd ∧ kd ≤ 5)) := by
    unfold wire_Sign.f
    rw [if_pos (show kd ≥ 2 by omega)]; congr 1; simp; omega
  obtain ⟨b, hb, hbb, b0, b1⟩ := wsig a (szB kd) a0 a1
  have hre : transomref01_Signed.f 6 a (szB kd) = some b := (signed_one a a0 a1 (szB kd) 5).trans hb
  have hw : (0 : Int) ≤ wrap64 (8 * szB kd) := by unfold wrap64; rcases szB_or kd with e | e | e | e | e <;> rw [e] <;> decide
  by_cases hs : 2 ≤ kd ∧ kd ≤ 5
  · refine ⟨b, fun st root => ?_, fun st root => num_of _ _ _ _ _ _ h1 h2 _ ?_, b0, b1⟩
    · rw [hN]; simp only [transomhand05_Number.j0, hsg, Option.bind_some, decide_eq_true hs, if_true, hre]
    · simp only [schema_Fits.j0, hsw, Option.bind_some, decide_eq_true hs, if_true, hbb]
      rw [if_neg (by decide), if_neg k1, if_neg k10]; simp
  · refine ⟨a, fun st root => ?_, fun st root => num_of _ _ _ _ _ _ h1 h2 _ ?_, a0, a1⟩
    · rw [hN]; simp only [transomhand05_Number.j0, hsg, Option.bind_some, decide_eq_false hs]; rfl
    · simp only [schema_Fits.j0, hsw, Option.bind_some, decide_eq_false hs]
      rw [if_neg (by decide), if_neg k1, if_neg k10, if_neg (by decide)]
      rcases hU (by omega) with e | e
      · by_cases e8 : szB kd = 8
        · rw [if_pos e8]
        · rw [if_neg e8, if_pos hw, e]; rfl
      · rw [if_pos e]
end Go.Proofs.YthilhndejhnlnaaDoor.Mk
end
