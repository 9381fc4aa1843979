/- WireSigns: of any number and any size the program's sign and the document's are one; so are a kind's size and its sign. For every input. -/
import Derived.Test.YtgabfoafchnpiaaQAllx6
import Derived.Test.YtgabfoafchnpiaaU
namespace Go.Proofs.Ytgabfoafchnpiaa.Pure
open Go.RowKit Go.Proofs.Ytgabfoafchnpiaa.QAll Go.Proofs.YtgabfoafchnpiaaW.PrintWords Go.Proofs.YtgabfoafchnpiaaW.PrintLast Go.Proofs.YtgabfoafchnpiaaW.PrintMore

theorem awake01 : transomlaw01_Awake.f 20 = some true := by decide +kernel

theorem mask_sign (i : Nat) (hi0 : 1 ≤ i) (hi : i ≤ 63) (a : Int) (h0 : 0 ≤ a) (h1 : a < 18446744073709551616) :
    (if (Go.bits .and .u64 a (2 ^ i - 1)) / 2 ^ (i - 1) = 1 then Go.bits .or .u64 (Go.bits .and .u64 a (2 ^ i - 1)) (18446744073709551616 - 2 ^ i) else Go.bits .and .u64 a (2 ^ i - 1))
      = if a % 2 ^ i < 2 ^ (i - 1) then a % 2 ^ i else a % 2 ^ i + (18446744073709551616 - 2 ^ i) := by
  rw [U.and_u64 i (by omega) a h0 h1]
  have hp : (0 : Int) < 2 ^ i := Int.pow_pos (by decide)
  have hq : (0 : Int) < 2 ^ (i - 1) := Int.pow_pos (by decide)
  have hd : (2 : Int) ^ i = 2 * 2 ^ (i - 1) := by
    obtain ⟨j, rfl⟩ : ∃ j, i = j + 1 := ⟨i - 1, by omega⟩
    rw [Nat.add_sub_cancel, Int.pow_succ]; omega
  have hle : (2 : Int) ^ i ≤ 2 ^ 63 := by
    have : (2 : Nat) ^ i ≤ 2 ^ 63 := Nat.pow_le_pow_right (by decide) hi
    exact_mod_cast this
  have hm0 := Int.emod_nonneg a (Int.ne_of_gt hp)
  have hm1 := Int.emod_lt_of_pos a hp
  have hdiv : (18446744073709551616 - 2 ^ i : Int) % 2 ^ i = 0 := by
    have : (18446744073709551616 : Int) = 2 ^ (64 - i) * 2 ^ i := by
      rw [← Int.pow_add, show 64 - i + i = 64 by omega]; rfl
    rw [Int.sub_emod, this, Int.mul_emod_left, Int.emod_self]; rfl
  by_cases hb : a % 2 ^ i < 2 ^ (i - 1)
  · rw [if_pos hb, if_neg]
    rw [Int.ediv_eq_zero_of_lt hm0 hb]; decide
  · rw [if_neg hb, if_pos]
    · rw [U.or_comm_u64, U.or_u64 i _ _ (by omega) hdiv (by omega) hm0 hm1 (by omega)]
      omega
    · have : 1 * 2 ^ (i - 1) ≤ a % 2 ^ i := by omega
      have h2 : a % 2 ^ i / 2 ^ (i - 1) < 2 := Int.ediv_lt_of_lt_mul hq (by omega)
      have h3 : 1 ≤ a % 2 ^ i / 2 ^ (i - 1) := (Int.le_ediv_iff_mul_le hq).2 this
      omega

theorem signed_one (a : Int) (h0 : 0 ≤ a) (h1 : a < 18446744073709551616) (s : Int) (k : Nat) : transomref01_Signed.f (k + 1) a s = wire_Signed.f a s := by
  unfold transomref01_Signed.f wire_Signed.f
  have w8 : wrap64 (8 * 1) = 8 := by unfold wrap64; omega
  have w16 : wrap64 (8 * 2) = 16 := by unfold wrap64; omega
  have w32 : wrap64 (8 * 4) = 32 := by unfold wrap64; omega
  have w7 : wrap64 (8 - 1) = 7 := by unfold wrap64; omega
  have w15 : wrap64 (16 - 1) = 15 := by unfold wrap64; omega
  have w31 : wrap64 (32 - 1) = 31 := by unfold wrap64; omega
  have e8 : IntKind.u64.wrap (shl .u64 1 8 - 1) = 2 ^ 8 - 1 := by decide +kernel
  have e16 : IntKind.u64.wrap (shl .u64 1 16 - 1) = 2 ^ 16 - 1 := by decide +kernel
  have e32 : IntKind.u64.wrap (shl .u64 1 32 - 1) = 2 ^ 32 - 1 := by decide +kernel
  have g8 : shl .u64 18446744073709551615 8 = 18446744073709551616 - 2 ^ 8 := by decide +kernel
  have g16 : shl .u64 18446744073709551615 16 = 18446744073709551616 - 2 ^ 16 := by decide +kernel
  have g32 : shl .u64 18446744073709551615 32 = 18446744073709551616 - 2 ^ 32 := by decide +kernel
  have r7 : ∀ x : Int, shr .u64 x 7 = x / 2 ^ 7 := fun _ => rfl
  have r15 : ∀ x : Int, shr .u64 x 15 = x / 2 ^ 15 := fun _ => rfl
  have r31 : ∀ x : Int, shr .u64 x 31 = x / 2 ^ 31 := fun _ => rfl
  have s8 := mask_sign 8 (by decide) (by decide) a h0 h1
  have s16 := mask_sign 16 (by decide) (by decide) a h0 h1
  have s32 := mask_sign 32 (by decide) (by decide) a h0 h1
  have push : ∀ (c : Prop) [Decidable c] (x y : Int), (if c then some x else some y) = some (if c then x else y) := by intro c _ x y; split <;> rfl
  by_cases e1 : s = 1
  · subst e1
    simp only [if_true, transomref01_Signed.j0, w8, w7, e8, g8, r7]
    rw [if_neg (by decide), if_pos (by decide), if_pos (by decide), push]
    rw [show (8 - 1 : Nat) = 7 from rfl] at s8
    rw [s8, U.wrap_u64, U.wrap_i8]; unfold wrap64
    split <;> (congr 1; omega)
  · rw [if_neg e1, if_neg e1]
    by_cases e2 : s = 2
    · subst e2
      simp only [if_true, transomref01_Signed.j0, w16, w15, e16, g16, r15]
      rw [if_neg (by decide), if_pos (by decide), if_pos (by decide), push]
      rw [show (16 - 1 : Nat) = 15 from rfl] at s16
      rw [s16, U.wrap_u64, U.wrap_i16]; unfold wrap64
      split <;> (congr 1; omega)
    · rw [if_neg e2, if_neg e2]
      by_cases e4 : s = 4
      · subst e4
        simp only [if_true, transomref01_Signed.j0, w32, w31, e32, g32, r31]
        rw [if_neg (by decide), if_pos (by decide), if_pos (by decide), push]
        rw [show (32 - 1 : Nat) = 31 from rfl] at s32
        rw [s32, U.wrap_u64]; unfold wrap64 wrap32
        split <;> (congr 1; omega)
      · have : (s != 4) = true := by simpa using e4
        rw [if_neg e4, this]; simp only [transomref01_Signed.j0, if_true]

theorem size_one (c : Int) (h0 : 0 ≤ c) (h1 : c < 256) : ∃ r, wire_Size.f 5 c = some r ∧ transomref01_Size.f 5 c = some r := by
  have : ∀ n : Fin 256, wire_Size.f 5 (n.val : Int) = transomref01_Size.f 5 (n.val : Int) ∧ (wire_Size.f 5 (n.val : Int)).isSome = true := by decide +kernel
  obtain ⟨n, rfl⟩ := Int.eq_ofNat_of_zero_le h0
  obtain ⟨h, hs⟩ := this ⟨n, by omega⟩
  obtain ⟨r, hr⟩ := Option.isSome_iff_exists.1 hs
  exact ⟨r, hr, h ▸ hr⟩

theorem WireSigns : transomlaw01_WireSigns.Pure := by
  intro a s c ha _ hc
  obtain ⟨h0, h1⟩ := U.wf_u64 ha
  obtain ⟨c0, c1⟩ := U.wf_u8 hc
  refine ⟨20, ?_⟩
  have hw : wrap64 c = c := by unfold wrap64; omega
  obtain ⟨r, hr, hr'⟩ := size_one c c0 c1
  have m1 : wire_Size.f 20 c = some r := at_rounds (wire_Size.mono c) (by decide) hr
  have m2 : transomref01_Size.f 20 c = some r := at_rounds (transomref01_Size.mono c) (by decide) hr'
  have hs : ∃ x, wire_Signed.f a s = some x := by
    unfold wire_Signed.f; split; · exact ⟨_, rfl⟩
    split; · exact ⟨_, rfl⟩
    split; · exact ⟨_, rfl⟩
    exact ⟨_, rfl⟩
  obtain ⟨x, hx⟩ := hs
  have hx' : transomref01_Signed.f 20 a s = some x := (signed_one a h0 h1 s 19).trans hx
  unfold transomlaw01_WireSigns.f
  rw [awake01]; simp only [Option.bind_some, if_true]
  rw [hx, hx']; simp only [Option.bind_some, if_true, hw]
  rw [m1, m2]; simp only [Option.bind_some, if_true]
  have : wire_Sign.f c = transomref01_Sign.f c := rfl
  rw [← this]
  unfold wire_Sign.f; split <;> simp

end Go.Proofs.Ytgabfoafchnpiaa.Pure
