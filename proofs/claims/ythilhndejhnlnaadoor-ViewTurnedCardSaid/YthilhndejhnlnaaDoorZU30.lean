/- Texts joined: W1. -/
import Derived.Test.YthilhndejhnlnaaDoorZU24
section
/- The document's answer on numbers of a type is the program's. -/
namespace Go.Proofs.YthilhndejhnlnaaDoor.Hand
open Go.RowKit Go.Proofs.YthilhndejhnlnaaDoor.QAll Go.Proofs.YthilhndejhnlnaaDoorW.PrintWords Go.Proofs.YthilhndejhnlnaaDoorW.PrintLast Go.Proofs.YthilhndejhnlnaaDoorW.PrintMore Go.Proofs.YthilhndejhnlnaaDoor.Mk
set_option linter.unusedVariables false
set_option linter.unusedSimpArgs false
theorem reffits_f (st : List S50) (en : List S58) (root kd rf n : Int) (h1 : 1 ≤ kd) (h2 : kd ≤ 10) (n0 : 0 ≤ n) (n1 : n < 18446744073709551616) : transomref05_Fits.f 6 st en root kd rf 0 n = some (numB st en root kd rf 0 n) := by
  have hsz : 0 < szB kd := by have := szB_in kd h1 h2; omega
  have hi : transomref05_IsNum.f 6 kd rf 0 = some true := by rw [isnum_f kd rf 0 (by omega) (by omega)]; simp [hsz]
  have hz : transomref01_Size.f 6 (wrap64 kd) = some (szB kd) := by rw [w64 kd (by omega) (by omega)]; exact rsize_f kd (by omega) (by omega)
  have hf := fits_at st en root kd rf n h1 h2
  rw [num_f] at hf
  rw [hf]
  unfold transomref05_Fits.f
  rw [hi]; simp only [Option.bind_some, if_true]
  rw [hz]; simp only [Option.bind_some, schema_Fits.j0]
  rw [if_neg (show ¬ (false = true) by decide)]
  by_cases k1 : kd = 1
  · rw [if_pos k1, if_pos k1]; exact congrArg some (decide_eq_decide.2 (by omega))
  rw [if_neg k1, if_neg k1]
  by_cases k10 : kd = 10
  · rw [if_pos k10, if_pos k10]
  rw [if_neg k10, if_neg k10]
  have hsg : transomref01_Sign.f (wrap64 kd) = some (decide (2 ≤ kd ∧ kd ≤ 5)) := by
    rw [w64 kd (by omega) (by omega)]; unfold transomref01_Sign.f
    rw [if_pos (show kd ≥ 2 by omega)]; congr 1; simp; omega
  have hsw : wire_Sign.f kd = some (decide (2 ≤ kd ∧ kd ≤ 5)) := by
    unfold wire_Sign.f
    rw [if_pos (show kd ≥ 2 by omega)]; congr 1; simp; omega
  rw [hsg, hsw]; simp only [Option.bind_some]
  by_cases hs : 2 ≤ kd ∧ kd ≤ 5
  · rw [decide_eq_true hs, if_pos (show true = true from rfl), if_pos (show true = true from rfl), signed_one n n0 n1 (szB kd) 5]
  · rw [decide_eq_false hs, if_neg (show ¬ (false = true) by decide), if_neg (show ¬ (false = true) by decide)]
    by_cases h8 : szB kd = 8
    · rw [if_pos h8, if_pos h8]
    · rw [if_neg h8, if_neg h8]
      have hw : (0 : Int) ≤ wrap64 (8 * szB kd) := by unfold wrap64; rcases szB_or kd with e | e | e | e | e <;> rw [e] <;> decide
      rw [if_pos hw, if_pos hw]
      have key : ∀ (M W : Int), wrap64 (8 * szB kd) = W → shl .u64 1 W = M → shr .u64 n W = n / M → 0 < M → some (decide (n < shl .u64 1 (wrap64 (8 * szB kd)))) = some (shr .u64 n (wrap64 (8 * szB kd)) == 0) := by
        intro M W e1 e2 e3 hM
        rw [e1, e2, e3]; congr 1
        rw [Bool.eq_iff_iff, decide_eq_true_iff, beq_iff_eq]
        constructor
        · intro h; exact Int.ediv_eq_zero_of_lt n0 h
        · intro h
          have := Int.emod_add_mul_ediv n M
          have := Int.emod_lt_of_pos n hM
          rw [h] at *; simp at *; omega
      rcases szB_in kd h1 h2 with (e | e | e) | e
      · exact key 256 8 (by rw [e]; unfold wrap64; omega) (by decide +kernel) rfl (by decide)
      · exact key 65536 16 (by rw [e]; unfold wrap64; omega) (by decide +kernel) rfl (by decide)
      · exact key 4294967296 32 (by rw [e]; unfold wrap64; omega) (by decide +kernel) rfl (by decide)
      · exact absurd e h8
end Go.Proofs.YthilhndejhnlnaaDoor.Hand
end
