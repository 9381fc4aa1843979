/- Texts joined: QSi5a. -/
import Derived.Test.YthilhndejhnlnaaDoorZV13
import Derived.Test.YthilhndejhnlnaaDoorZV14
import Derived.Test.YthilhndejhnlnaaDoorZV15
section
-- written by a program of this session (turned from a print)
namespace Go.Proofs.YthilhndejhnlnaaDoor.QAll
open Go.RowKit Go.Proofs.YthilhndejhnlnaaDoorW.PrintWords Go.Proofs.YthilhndejhnlnaaDoorW.PrintLast Go.Proofs.YthilhndejhnlnaaDoorW.PrintMore
attribute [local go_sem] max2_int min2_int max_two min_two max_three min_three max_four min_four   -- for this text's walks alone
set_option linter.unusedVariables false
set_option linter.unusedSimpArgs false

/-! ### transomhand05_Made: function 6 -/
mutual
def transomhand05_Made.j0 : Nat → Bool → List Int → List (List (S61)) → Int → Bool → Option ((List (S50)) × (List (S58)) × Int × Bool)
  | 0, _, _, _, _, _ => none
  | k + 1, x29, x160000, x160001, x160002, x160003 => if x29 = true then (some (([] : List (S50)), ([] : List (S58)), 0, false)) else (if (x160001.length : Int) = 0 then (none) else (transomhand05_Made.l0 k 0 x160000 x160001 x160002 x160003 ([] : List (S58)) (Int.tmod (wrap64 (x160002)) (x160001.length : Int))))
def transomhand05_Made.l0 : Nat → Int → List Int → List (List (S61)) → Int → Bool → List (S58) → Int → Option ((List (S50)) × (List (S58)) × Int × Bool)
  | 0, _, _, _, _, _, _, _ => none
  | k + 1, x5, x160000, x160001, x160002, x160003, x162001, x162002 => if x5 < (x160000.length : Int) then ((some (([(wrap64 (97 + x5)) % 256] : List Int) : List Int)).bind fun y162 => (if 1 + (strOfNums y162).size ≤ 9223372036854775807 then (transomhand05_Made.l1 k x5 0 x160000 x160001 x160002 x160003 x162001 x162002 ((⟨#[69]⟩ : ByteArray) ++ (strOfNums y162)) ([] : List ByteArray)) else (none))) else (transomhand05_Made.l2 k 0 x160000 x160001 x160002 x160003 ([] : List (S50)) x162001 x162002)
def transomhand05_Made.l1 : Nat → Int → Int → List Int → List (List (S61)) → Int → Bool → List (S58) → Int → ByteArray → List ByteArray → Option ((List (S50)) × (List (S58)) × Int × Bool)
  | 0, _, _, _, _, _, _, _, _, _, _ => none
  | k + 1, x5, x7, x160000, x160001, x160002, x160003, x162001, x162002, x166000, x166001 => if 0 ≤ x5 then (if x5 < (x160000.length : Int) then (if x7 ≤ (Int.tmod (wrap64 (rd x160000 x5)) 32) then ((some (([(wrap64 (97 + (Int.tmod x7 26))) % 256, (wrap64 (97 + (wrap64 (Int.tdiv x7 26)))) % 256] : List Int) : List Int)).bind fun y167 => (if 1 + (strOfNums y167).size ≤ 9223372036854775807 then (if x166001.length < 8796093022208 then (transomhand05_Made.l1 k x5 (wrap64 (x7 + 1)) x160000 x160001 x160002 x160003 x162001 x162002 x166000 (x166001 ++ [(⟨#[118]⟩ : ByteArray) ++ (strOfNums y167)])) else (none)) else (none))) else (if x162001.length < 3518437208883 then (transomhand05_Made.l0 k (wrap64 (x5 + 1)) x160000 x160001 x160002 x160003 (x162001 ++ [(⟨x166000, x166001⟩ : S58)]) x162002) else (none))) else (none)) else (none)
def transomhand05_Made.l2 : Nat → Int → List Int → List (List (S61)) → Int → Bool → List (S50) → List (S58) → Int → Option ((List (S50)) × (List (S58)) × Int × Bool)
  | 0, _, _, _, _, _, _, _, _ => none
  | k + 1, x8, x160000, x160001, x160002, x160003, x162000, x162001, x162002 => if x8 < (x160001.length : Int) then (if 0 ≤ x8 then (if ((rd_L14 x160001 x8).length : Int) < 1 then (transomhand05_Made.j4 k x8 (rd_L14 x160001 x8) true x160000 x160001 x160002 x160003 x162000 x162001 x162002) else (transomhand05_Made.j4 k x8 (rd_L14 x160001 x8) (decide (((rd_L14 x160001 x8).length : Int) > 16)) x160000 x160001 x160002 x160003 x162000 x162001 x162002)) else (none)) else (some (x162000, x162001, x162002, true))
def transomhand05_Made.j4 : Nat → Int → List (S61) → Bool → List Int → List (List (S61)) → Int → Bool → List (S50) → List (S58) → Int → Option ((List (S50)) × (List (S58)) × Int × Bool)
  | 0, _, _, _, _, _, _, _, _, _, _ => none
  | k + 1, x8, x9, x105, x160000, x160001, x160002, x160003, x162000, x162001, x162002 => if x105 = true then (some (([] : List (S50)), ([] : List (S58)), 0, false)) else ((some (([(wrap64 (97 + x8)) % 256] : List Int) : List Int)).bind fun y177 => (if 1 + (strOfNums y177).size ≤ 9223372036854775807 then (transomhand05_Made.l3 k x8 x9 0 x160000 x160001 x160002 x160003 x162000 x162001 x162002 ((⟨#[83]⟩ : ByteArray) ++ (strOfNums y177)) ([] : List (S47))) else (none)))
def transomhand05_Made.l3 : Nat → Int → List (S61) → Int → List Int → List (List (S61)) → Int → Bool → List (S50) → List (S58) → Int → ByteArray → List (S47) → Option ((List (S50)) × (List (S58)) × Int × Bool)
  | 0, _, _, _, _, _, _, _, _, _, _, _, _ => none
  | k + 1, x8, x9, x11, x160000, x160001, x160002, x160003, x162000, x162001, x162002, x181000, x181001 => if x11 < (x9.length : Int) then (if 0 ≤ x11 then (if (((Int.tmod ((rd_T61 x9 x11).f0) 13) + 1) % 256) = 10 then (transomhand05_Made.j6 k x8 x9 x11 ((x162001.length : Int) == 0) x160000 x160001 x160002 x160003 x162000 x162001 x162002 x181000 x181001 (((Int.tmod ((rd_T61 x9 x11).f0) 13) + 1) % 256) 0 (wrap64 (Int.tmod ((rd_T61 x9 x11).f1) 4))) else (transomhand05_Made.j6 k x8 x9 x11 false x160000 x160001 x160002 x160003 x162000 x162001 x162002 x181000 x181001 (((Int.tmod ((rd_T61 x9 x11).f0) 13) + 1) % 256) 0 (wrap64 (Int.tmod ((rd_T61 x9 x11).f1) 4)))) else (none)) else (if x162000.length < 3518437208883 then (transomhand05_Made.l2 k (wrap64 (x8 + 1)) x160000 x160001 x160002 x160003 (x162000 ++ [(⟨x181000, x181001⟩ : S50)]) x162001 x162002) else (none))
def transomhand05_Made.j6 : Nat → Int → List (S61) → Int → Bool → List Int → List (List (S61)) → Int → Bool → List (S50) → List (S58) → Int → ByteArray → List (S47) → Int → Int → Int → Option ((List (S50)) × (List (S58)) × Int × Bool)
  | 0, _, _, _, _, _, _, _, _, _, _, _, _, _, _, _, _ => none
  | k + 1, x8, x9, x11, x143, x160000, x160001, x160002, x160003, x162000, x162001, x162002, x181000, x181001, x187000, x187001, x187002 => if x143 = true then (transomhand05_Made.j7 k x8 x9 x11 x160000 x160001 x160002 x160003 x162000 x162001 x162002 x181000 x181001 7 x187001 x187002) else (transomhand05_Made.j7 k x8 x9 x11 x160000 x160001 x160002 x160003 x162000 x162001 x162002 x181000 x181001 x187000 x187001 x187002)
def transomhand05_Made.j7 : Nat → Int → List (S61) → Int → List Int → List (List (S61)) → Int → Bool → List (S50) → List (S58) → Int → ByteArray → List (S47) → Int → Int → Int → Option ((List (S50)) × (List (S58)) × Int × Bool)
  | 0, _, _, _, _, _, _, _, _, _, _, _, _, _, _, _ => none
  | k + 1, x8, x9, x11, x160000, x160001, x160002, x160003, x162000, x162001, x162002, x181000, x181001, x187000, x187001, x187002 => if x187000 = 10 then (if 0 ≤ x11 then (if x11 < (x9.length : Int) then (if (x162001.length : Int) = 0 then (none) else (transomhand05_Made.j8 k x8 x9 x11 x160000 x160001 x160002 x160003 x162000 x162001 x162002 x181000 x181001 x187000 (Int.tmod (wrap64 ((rd_T61 x9 x11).f2)) (x162001.length : Int)) x187002)) else (none)) else (none)) else (transomhand05_Made.j8 k x8 x9 x11 x160000 x160001 x160002 x160003 x162000 x162001 x162002 x181000 x181001 x187000 x187001 x187002)
def transomhand05_Made.j8 : Nat → Int → List (S61) → Int → List Int → List (List (S61)) → Int → Bool → List (S50) → List (S58) → Int → ByteArray → List (S47) → Int → Int → Int → Option ((List (S50)) × (List (S58)) × Int × Bool)
  | 0, _, _, _, _, _, _, _, _, _, _, _, _, _, _, _ => none
  | k + 1, x8, x9, x11, x160000, x160001, x160002, x160003, x162000, x162001, x162002, x181000, x181001, x187000, x187001, x187002 => if x187000 = 13 then (if x160003 = true then (transomhand05_Made.j9 k x8 x9 x11 ((wrap64 (x8 + 1)) == (x160001.length : Int)) x160000 x160001 x160002 x160003 x162000 x162001 x162002 x181000 x181001 x187000 x187001 x187002) else (transomhand05_Made.j9 k x8 x9 x11 false x160000 x160001 x160002 x160003 x162000 x162001 x162002 x181000 x181001 x187000 x187001 x187002)) else (transomhand05_Made.j9 k x8 x9 x11 false x160000 x160001 x160002 x160003 x162000 x162001 x162002 x181000 x181001 x187000 x187001 x187002)
def transomhand05_Made.j9 : Nat → Int → List (S61) → Int → Bool → List Int → List (List (S61)) → Int → Bool → List (S50) → List (S58) → Int → ByteArray → List (S47) → Int → Int → Int → Option ((List (S50)) × (List (S58)) × Int × Bool)
  | 0, _, _, _, _, _, _, _, _, _, _, _, _, _, _, _, _ => none
  | k + 1, x8, x9, x11, x173, x160000, x160001, x160002, x160003, x162000, x162001, x162002, x181000, x181001, x187000, x187001, x187002 => if x173 = true then (transomhand05_Made.j10 k x8 x9 x11 x160000 x160001 x160002 x160003 x162000 x162001 x162002 x181000 x181001 11 x187001 x187002) else (transomhand05_Made.j10 k x8 x9 x11 x160000 x160001 x160002 x160003 x162000 x162001 x162002 x181000 x181001 x187000 x187001 x187002)
def transomhand05_Made.j10 : Nat → Int → List (S61) → Int → List Int → List (List (S61)) → Int → Bool → List (S50) → List (S58) → Int → ByteArray → List (S47) → Int → Int → Int → Option ((List (S50)) × (List (S58)) × Int × Bool)
  | 0, _, _, _, _, _, _, _, _, _, _, _, _, _, _, _ => none
  | k + 1, x8, x9, x11, x160000, x160001, x160002, x160003, x162000, x162001, x162002, x181000, x181001, x187000, x187001, x187002 => if x187000 = 13 then (if 0 ≤ x11 then (if x11 < (x9.length : Int) then (if (x160001.length : Int) = 0 then (none) else (if x160003 = true then (if (wrap64 ((wrap64 ((x160001.length : Int) - x8)) - 1)) = 0 then (none) else (transomhand05_Made.j11 k x8 x9 x11 x160000 x160001 x160002 x160003 x162000 x162001 x162002 x181000 x181001 x187000 (wrap64 ((wrap64 (x8 + 1)) + (Int.tmod (wrap64 ((rd_T61 x9 x11).f2)) (wrap64 ((wrap64 ((x160001.length : Int) - x8)) - 1))))) x187002)) else (transomhand05_Made.j11 k x8 x9 x11 x160000 x160001 x160002 x160003 x162000 x162001 x162002 x181000 x181001 x187000 (Int.tmod (wrap64 ((rd_T61 x9 x11).f2)) (x160001.length : Int)) x187002))) else (none)) else (none)) else (transomhand05_Made.j11 k x8 x9 x11 x160000 x160001 x160002 x160003 x162000 x162001 x162002 x181000 x181001 x187000 x187001 x187002)
def transomhand05_Made.j11 : Nat → Int → List (S61) → Int → List Int → List (List (S61)) → Int → Bool → List (S50) → List (S58) → Int → ByteArray → List (S47) → Int → Int → Int → Option ((List (S50)) × (List (S58)) × Int × Bool)
  | 0, _, _, _, _, _, _, _, _, _, _, _, _, _, _, _ => none
  | k + 1, x8, x9, x11, x160000, x160001, x160002, x160003, x162000, x162001, x162002, x181000, x181001, x187000, x187001, x187002 => if 0 ≤ x11 then (if x11 < (x9.length : Int) then ((transomhand05_label.f ((rd_T61 x9 x11).f3) x11).bind fun t191 => ((transomref05_IsNum.f k x187000 x187001 x187002).bind fun t193 => (if t193 = true then ((transomhand05_Number.f k x162000 x162001 x162002 x187000 x187001 x187002 ((rd_T61 x9 x11).f4)).bind fun t195 => (if x181001.length < 2932031007402 then (transomhand05_Made.l3 k x8 x9 (wrap64 (x11 + 1)) x160000 x160001 x160002 x160003 x162000 x162001 x162002 x181000 (x181001 ++ [(⟨t191, (⟨x187000, x187001, x187002⟩ : S45), t195⟩ : S47)])) else (none))) else (if x181001.length < 2932031007402 then (transomhand05_Made.l3 k x8 x9 (wrap64 (x11 + 1)) x160000 x160001 x160002 x160003 x162000 x162001 x162002 x181000 (x181001 ++ [(⟨t191, (⟨x187000, x187001, x187002⟩ : S45), 0⟩ : S47)])) else (none))))) else (none)) else (none)
end
def transomhand05_Made.f (k : Nat) (l0_0 : List Int) (l0_1 : List (List (S61))) (a0_2 : Int) (a0_3 : Bool) : Option ((List (S50)) × (List (S58)) × Int × Bool) := if (l0_1.length : Int) < 1 then (transomhand05_Made.j0 k true l0_0 l0_1 a0_2 a0_3) else (if (l0_1.length : Int) > 16 then (transomhand05_Made.j0 k true l0_0 l0_1 a0_2 a0_3) else (transomhand05_Made.j0 k (decide ((l0_0.length : Int) > 8)) l0_0 l0_1 a0_2 a0_3))
theorem transomhand05_Made.mono_l : ∀ k, (∀ y0 y1 y2 y3 y4, LeO (transomhand05_Made.j0 k y0 y1 y2 y3 y4) (transomhand05_Made.j0 (k + 1) y0 y1 y2 y3 y4)) ∧ (∀ y0 y1 y2 y3 y4 y5 y6, LeO (transomhand05_Made.l0 k y0 y1 y2 y3 y4 y5 y6) (transomhand05_Made.l0 (k + 1) y0 y1 y2 y3 y4 y5 y6)) ∧ (∀ y0 y1 y2 y3 y4 y5 y6 y7 y8 y9, LeO (transomhand05_Made.l1 k y0 y1 y2 y3 y4 y5 y6 y7 y8 y9) (transomhand05_Made.l1 (k + 1) y0 y1 y2 y3 y4 y5 y6 y7 y8 y9)) ∧ (∀ y0 y1 y2 y3 y4 y5 y6 y7, LeO (transomhand05_Made.l2 k y0 y1 y2 y3 y4 y5 y6 y7) (transomhand05_Made.l2 (k + 1) y0 y1 y2 y3 y4 y5 y6 y7)) ∧ (∀ y0 y1 y2 y3 y4 y5 y6 y7 y8 y9, LeO (transomhand05_Made.j4 k y0 y1 y2 y3 y4 y5 y6 y7 y8 y9) (transomhand05_Made.j4 (k + 1) y0 y1 y2 y3 y4 y5 y6 y7 y8 y9)) ∧ (∀ y0 y1 y2 y3 y4 y5 y6 y7 y8 y9 y10 y11, LeO (transomhand05_Made.l3 k y0 y1 y2 y3 y4 y5 y6 y7 y8 y9 y10 y11) (transomhand05_Made.l3 (k + 1) y0 y1 y2 y3 y4 y5 y6 y7 y8 y9 y10 y11)) ∧ (∀ y0 y1 y2 y3 y4 y5 y6 y7 y8 y9 y10 y11 y12 y13 y14 y15, LeO (transomhand05_Made.j6 k y0 y1 y2 y3 y4 y5 y6 y7 y8 y9 y10 y11 y12 y13 y14 y15) (transomhand05_Made.j6 (k + 1) y0 y1 y2 y3 y4 y5 y6 y7 y8 y9 y10 y11 y12 y13 y14 y15)) ∧ (∀ y0 y1 y2 y3 y4 y5 y6 y7 y8 y9 y10 y11 y12 y13 y14, LeO (transomhand05_Made.j7 k y0 y1 y2 y3 y4 y5 y6 y7 y8 y9 y10 y11 y12 y13 y14) (transomhand05_Made.j7 (k + 1) y0 y1 y2 y3 y4 y5 y6 y7 y8 y9 y10 y11 y12 y13 y14)) ∧ (∀ y0 y1 y2 y3 y4 y5 y6 y7 y8 y9 y10 y11 y12 y13 y14, LeO (transomhand05_Made.j8 k y0 y1 y2 y3 y4 y5 y6 y7 y8 y9 y10 y11 y12 y13 y14) (transomhand05_Made.j8 (k + 1) y0 y1 y2 y3 y4 y5 y6 y7 y8 y9 y10 y11 y12 y13 y14)) ∧ (∀ y0 y1 y2 y3 y4 y5 y6 y7 y8 y9 y10 y11 y12 y13 y14 y15, LeO (transomhand05_Made.j9 k y0 y1 y2 y3 y4 y5 y6 y7 y8 y9 y10 y11 y12 y13 y14 y15) (transomhand05_Made.j9 (k + 1) y0 y1 y2 y3 y4 y5 y6 y7 y8 y9 y10 y11 y12 y13 y14 y15)) ∧ (∀ y0 y1 y2 y3 y4 y5 y6 y7 y8 y9 y10 y11 y12 y13 y14, LeO (transomhand05_Made.j10 k y0 y1 y2 y3 y4 y5 y6 y7 y8 y9 y10 y11 y12 y13 y14) (transomhand05_Made.j10 (k + 1) y0 y1 y2 y3 y4 y5 y6 y7 y8 y9 y10 y11 y12 y13 y14)) ∧ (∀ y0 y1 y2 y3 y4 y5 y6 y7 y8 y9 y10 y11 y12 y13 y14, LeO (transomhand05_Made.j11 k y0 y1 y2 y3 y4 y5 y6 y7 y8 y9 y10 y11 y12 y13 y14) (transomhand05_Made.j11 (k + 1) y0 y1 y2 y3 y4 y5 y6 y7 y8 y9 y10 y11 y12 y13 y14))
  | 0 => ⟨fun _ _ _ _ _ r h => by simp [transomhand05_Made.j0] at h, fun _ _ _ _ _ _ _ r h => by simp [transomhand05_Made.l0] at h, fun _ _ _ _ _ _ _ _ _ _ r h => by simp [transomhand05_Made.l1] at h, fun _ _ _ _ _ _ _ _ r h => by simp [transomhand05_Made.l2] at h, fun _ _ _ _ _ _ _ _ _ _ r h => by simp [transomhand05_Made.j4] at h, fun _ _ _ _ _ _ _ _ _ _ _ _ r h => by simp [transomhand05_Made.l3] at h, fun _ _ _ _ _ _ _ _ _ _ _ _ _ _ _ _ r h => by simp [transomhand05_Made.j6] at h, fun _ _ _ _ _ _ _ _ _ _ _ _ _ _ _ r h => by simp [transomhand05_Made.j7] at h, fun _ _ _ _ _ _ _ _ _ _ _ _ _ _ _ r h => by simp [transomhand05_Made.j8] at h, fun _ _ _ _ _ _ _ _ _ _ _ _ _ _ _ _ r h => by simp [transomhand05_Made.j9] at h, fun _ _ _ _ _ _ _ _ _ _ _ _ _ _ _ r h => by simp [transomhand05_Made.j10] at h, fun _ _ _ _ _ _ _ _ _ _ _ _ _ _ _ r h => by simp [transomhand05_Made.j11] at h⟩
  | k + 1 => by
    obtain ⟨ih0, ih1, ih2, ih3, ih4, ih5, ih6, ih7, ih8, ih9, ih10, ih11⟩ := transomhand05_Made.mono_l k
    refine ⟨?_, ?_, ?_, ?_, ?_, ?_, ?_, ?_, ?_, ?_, ?_, ?_⟩
    · intro y0 y1 y2 y3 y4
      unfold transomhand05_Made.j0
      repeat' first
      | (with_reducible exact ih0 _ _ _ _ _)
      | (with_reducible exact ih1 _ _ _ _ _ _ _)
      | (with_reducible exact ih2 _ _ _ _ _ _ _ _ _ _)
      | (with_reducible exact ih3 _ _ _ _ _ _ _ _)
      | (with_reducible exact ih4 _ _ _ _ _ _ _ _ _ _)
      | (with_reducible exact ih5 _ _ _ _ _ _ _ _ _ _ _ _)
      | (with_reducible exact ih6 _ _ _ _ _ _ _ _ _ _ _ _ _ _ _ _)
      | (with_reducible exact ih7 _ _ _ _ _ _ _ _ _ _ _ _ _ _ _)
      | (with_reducible exact ih8 _ _ _ _ _ _ _ _ _ _ _ _ _ _ _)
      | (with_reducible exact ih9 _ _ _ _ _ _ _ _ _ _ _ _ _ _ _ _)
      | (with_reducible exact ih10 _ _ _ _ _ _ _ _ _ _ _ _ _ _ _)
      | (with_reducible exact ih11 _ _ _ _ _ _ _ _ _ _ _ _ _ _ _)
      | (with_reducible exact transomhand05_Number.mono _ _ _ _ _ _ _ _)
      | (with_reducible exact transomref05_IsNum.mono _ _ _ _)
      | (with_reducible exact LeO.refl _)
      | (with_reducible exact LeO.none _)
      | (with_reducible refine LeO.ite ?_ ?_)
      | (with_reducible refine LeO.bind ?_ (fun _ => ?_))
      | exact ih0 _ _ _ _ _
      | exact ih1 _ _ _ _ _ _ _
      | exact ih2 _ _ _ _ _ _ _ _ _ _
      | exact ih3 _ _ _ _ _ _ _ _
      | exact ih4 _ _ _ _ _ _ _ _ _ _
      | exact ih5 _ _ _ _ _ _ _ _ _ _ _ _
      | exact ih6 _ _ _ _ _ _ _ _ _ _ _ _ _ _ _ _
      | exact ih7 _ _ _ _ _ _ _ _ _ _ _ _ _ _ _
      | exact ih8 _ _ _ _ _ _ _ _ _ _ _ _ _ _ _
      | exact ih9 _ _ _ _ _ _ _ _ _ _ _ _ _ _ _ _
      | exact ih10 _ _ _ _ _ _ _ _ _ _ _ _ _ _ _
      | exact ih11 _ _ _ _ _ _ _ _ _ _ _ _ _ _ _
      | exact transomhand05_Number.mono _ _ _ _ _ _ _ _
      | exact transomref05_IsNum.mono _ _ _ _
      | exact LeO.none _
      | refine LeO.ite ?_ ?_
      | refine LeO.bind ?_ (fun _ => ?_)
    · intro y0 y1 y2 y3 y4 y5 y6
      unfold transomhand05_Made.l0
      repeat' first
      | (with_reducible exact ih0 _ _ _ _ _)
      | (with_reducible exact ih1 _ _ _ _ _ _ _)
      | (with_reducible exact ih2 _ _ _ _ _ _ _ _ _ _)
      | (with_reducible exact ih3 _ _ _ _ _ _ _ _)
      | (with_reducible exact ih4 _ _ _ _ _ _ _ _ _ _)
      | (with_reducible exact ih5 _ _ _ _ _ _ _ _ _ _ _ _)
      | (with_reducible exact ih6 _ _ _ _ _ _ _ _ _ _ _ _ _ _ _ _)
      | (with_reducible exact ih7 _ _ _ _ _ _ _ _ _ _ _ _ _ _ _)
      | (with_reducible exact ih8 _ _ _ _ _ _ _ _ _ _ _ _ _ _ _)
      | (with_reducible exact ih9 _ _ _ _ _ _ _ _ _ _ _ _ _ _ _ _)
      | (with_reducible exact ih10 _ _ _ _ _ _ _ _ _ _ _ _ _ _ _)
      | (with_reducible exact ih11 _ _ _ _ _ _ _ _ _ _ _ _ _ _ _)
      | (with_reducible exact transomhand05_Number.mono _ _ _ _ _ _ _ _)
      | (with_reducible exact transomref05_IsNum.mono _ _ _ _)
      | (with_reducible exact LeO.refl _)
      | (with_reducible exact LeO.none _)
      | (with_reducible refine LeO.ite ?_ ?_)
      | (with_reducible refine LeO.bind ?_ (fun _ => ?_))
      | exact ih0 _ _ _ _ _
      | exact ih1 _ _ _ _ _ _ _
      | exact ih2 _ _ _ _ _ _ _ _ _ _
      | exact ih3 _ _ _ _ _ _ _ _
      | exact ih4 _ _ _ _ _ _ _ _ _ _
      | exact ih5 _ _ _ _ _ _ _ _ _ _ _ _
      | exact ih6 _ _ _ _ _ _ _ _ _ _ _ _ _ _ _ _
      | exact ih7 _ _ _ _ _ _ _ _ _ _ _ _ _ _ _
      | exact ih8 _ _ _ _ _ _ _ _ _ _ _ _ _ _ _
      | exact ih9 _ _ _ _ _ _ _ _ _ _ _ _ _ _ _ _
      | exact ih10 _ _ _ _ _ _ _ _ _ _ _ _ _ _ _
      | exact ih11 _ _ _ _ _ _ _ _ _ _ _ _ _ _ _
      | exact transomhand05_Number.mono _ _ _ _ _ _ _ _
      | exact transomref05_IsNum.mono _ _ _ _
      | exact LeO.none _
      | refine LeO.ite ?_ ?_
      | refine LeO.bind ?_ (fun _ => ?_)
    · intro y0 y1 y2 y3 y4 y5 y6 y7 y8 y9
      unfold transomhand05_Made.l1
      repeat' first
      | (with_reducible exact ih0 _ _ _ _ _)
      | (with_reducible exact ih1 _ _ _ _ _ _ _)
      | (with_reducible exact ih2 _ _ _ _ _ _ _ _ _ _)
      | (with_reducible exact ih3 _ _ _ _ _ _ _ _)
      | (with_reducible exact ih4 _ _ _ _ _ _ _ _ _ _)
      | (with_reducible exact ih5 _ _ _ _ _ _ _ _ _ _ _ _)
      | (with_reducible exact ih6 _ _ _ _ _ _ _ _ _ _ _ _ _ _ _ _)
      | (with_reducible exact ih7 _ _ _ _ _ _ _ _ _ _ _ _ _ _ _)
      | (with_reducible exact ih8 _ _ _ _ _ _ _ _ _ _ _ _ _ _ _)
      | (with_reducible exact ih9 _ _ _ _ _ _ _ _ _ _ _ _ _ _ _ _)
      | (with_reducible exact ih10 _ _ _ _ _ _ _ _ _ _ _ _ _ _ _)
      | (with_reducible exact ih11 _ _ _ _ _ _ _ _ _ _ _ _ _ _ _)
      | (with_reducible exact transomhand05_Number.mono _ _ _ _ _ _ _ _)
      | (with_reducible exact transomref05_IsNum.mono _ _ _ _)
      | (with_reducible exact LeO.refl _)
      | (with_reducible exact LeO.none _)
      | (with_reducible refine LeO.ite ?_ ?_)
      | (with_reducible refine LeO.bind ?_ (fun _ => ?_))
      | exact ih0 _ _ _ _ _
      | exact ih1 _ _ _ _ _ _ _
      | exact ih2 _ _ _ _ _ _ _ _ _ _
      | exact ih3 _ _ _ _ _ _ _ _
      | exact ih4 _ _ _ _ _ _ _ _ _ _
      | exact ih5 _ _ _ _ _ _ _ _ _ _ _ _
      | exact ih6 _ _ _ _ _ _ _ _ _ _ _ _ _ _ _ _
      | exact ih7 _ _ _ _ _ _ _ _ _ _ _ _ _ _ _
      | exact ih8 _ _ _ _ _ _ _ _ _ _ _ _ _ _ _
      | exact ih9 _ _ _ _ _ _ _ _ _ _ _ _ _ _ _ _
      | exact ih10 _ _ _ _ _ _ _ _ _ _ _ _ _ _ _
      | exact ih11 _ _ _ _ _ _ _ _ _ _ _ _ _ _ _
      | exact transomhand05_Number.mono _ _ _ _ _ _ _ _
      | exact transomref05_IsNum.mono _ _ _ _
      | exact LeO.none _
      | refine LeO.ite ?_ ?_
      | refine LeO.bind ?_ (fun _ => ?_)
    · intro y0 y1 y2 y3 y4 y5 y6 y7
      unfold transomhand05_Made.l2
      repeat' first
      | (with_reducible exact ih0 _ _ _ _ _)
      | (with_reducible exact ih1 _ _ _ _ _ _ _)
      | (with_reducible exact ih2 _ _ _ _ _ _ _ _ _ _)
      | (with_reducible exact ih3 _ _ _ _ _ _ _ _)
      | (with_reducible exact ih4 _ _ _ _ _ _ _ _ _ _)
      | (with_reducible exact ih5 _ _ _ _ _ _ _ _ _ _ _ _)
      | (with_reducible exact ih6 _ _ _ _ _ _ _ _ _ _ _ _ _ _ _ _)
      | (with_reducible exact ih7 _ _ _ _ _ _ _ _ _ _ _ _ _ _ _)
      | (with_reducible exact ih8 _ _ _ _ _ _ _ _ _ _ _ _ _ _ _)
      | (with_reducible exact ih9 _ _ _ _ _ _ _ _ _ _ _ _ _ _ _ _)
      | (with_reducible exact ih10 _ _ _ _ _ _ _ _ _ _ _ _ _ _ _)
      | (with_reducible exact ih11 _ _ _ _ _ _ _ _ _ _ _ _ _ _ _)
      | (with_reducible exact transomhand05_Number.mono _ _ _ _ _ _ _ _)
      | (with_reducible exact transomref05_IsNum.mono _ _ _ _)
      | (with_reducible exact LeO.refl _)
      | (with_reducible exact LeO.none _)
      | (with_reducible refine LeO.ite ?_ ?_)
      | (with_reducible refine LeO.bind ?_ (fun _ => ?_))
      | exact ih0 _ _ _ _ _
      | exact ih1 _ _ _ _ _ _ _
      | exact ih2 _ _ _ _ _ _ _ _ _ _
      | exact ih3 _ _ _ _ _ _ _ _
      | exact ih4 _ _ _ _ _ _ _ _ _ _
      | exact ih5 _ _ _ _ _ _ _ _ _ _ _ _
      | exact ih6 _ _ _ _ _ _ _ _ _ _ _ _ _ _ _ _
      | exact ih7 _ _ _ _ _ _ _ _ _ _ _ _ _ _ _
      | exact ih8 _ _ _ _ _ _ _ _ _ _ _ _ _ _ _
      | exact ih9 _ _ _ _ _ _ _ _ _ _ _ _ _ _ _ _
      | exact ih10 _ _ _ _ _ _ _ _ _ _ _ _ _ _ _
      | exact ih11 _ _ _ _ _ _ _ _ _ _ _ _ _ _ _
      | exact transomhand05_Number.mono _ _ _ _ _ _ _ _
      | exact transomref05_IsNum.mono _ _ _ _
      | exact LeO.none _
      | refine LeO.ite ?_ ?_
      | refine LeO.bind ?_ (fun _ => ?_)
    · intro y0 y1 y2 y3 y4 y5 y6 y7 y8 y9
      unfold transomhand05_Made.j4
      repeat' first
      | (with_reducible exact ih0 _ _ _ _ _)
      | (with_reducible exact ih1 _ _ _ _ _ _ _)
      | (with_reducible exact ih2 _ _ _ _ _ _ _ _ _ _)
      | (with_reducible exact ih3 _ _ _ _ _ _ _ _)
      | (with_reducible exact ih4 _ _ _ _ _ _ _ _ _ _)
      | (with_reducible exact ih5 _ _ _ _ _ _ _ _ _ _ _ _)
      | (with_reducible exact ih6 _ _ _ _ _ _ _ _ _ _ _ _ _ _ _ _)
      | (with_reducible exact ih7 _ _ _ _ _ _ _ _ _ _ _ _ _ _ _)
      | (with_reducible exact ih8 _ _ _ _ _ _ _ _ _ _ _ _ _ _ _)
      | (with_reducible exact ih9 _ _ _ _ _ _ _ _ _ _ _ _ _ _ _ _)
      | (with_reducible exact ih10 _ _ _ _ _ _ _ _ _ _ _ _ _ _ _)
      | (with_reducible exact ih11 _ _ _ _ _ _ _ _ _ _ _ _ _ _ _)
      | (with_reducible exact transomhand05_Number.mono _ _ _ _ _ _ _ _)
      | (with_reducible exact transomref05_IsNum.mono _ _ _ _)
      | (with_reducible exact LeO.refl _)
      | (with_reducible exact LeO.none _)
      | (with_reducible refine LeO.ite ?_ ?_)
      | (with_reducible refine LeO.bind ?_ (fun _ => ?_))
      | exact ih0 _ _ _ _ _
      | exact ih1 _ _ _ _ _ _ _
      | exact ih2 _ _ _ _ _ _ _ _ _ _
      | exact ih3 _ _ _ _ _ _ _ _
      | exact ih4 _ _ _ _ _ _ _ _ _ _
      | exact ih5 _ _ _ _ _ _ _ _ _ _ _ _
      | exact ih6 _ _ _ _ _ _ _ _ _ _ _ _ _ _ _ _
      | exact ih7 _ _ _ _ _ _ _ _ _ _ _ _ _ _ _
      | exact ih8 _ _ _ _ _ _ _ _ _ _ _ _ _ _ _
      | exact ih9 _ _ _ _ _ _ _ _ _ _ _ _ _ _ _ _
      | exact ih10 _ _ _ _ _ _ _ _ _ _ _ _ _ _ _
      | exact ih11 _ _ _ _ _ _ _ _ _ _ _ _ _ _ _
      | exact transomhand05_Number.mono _ _ _ _ _ _ _ _
      | exact transomref05_IsNum.mono _ _ _ _
      | exact LeO.none _
      | refine LeO.ite ?_ ?_
      | refine LeO.bind ?_ (fun _ => ?_)
    · intro y0 y1 y2 y3 y4 y5 y6 y7 y8 y9 y10 y11
      unfold transomhand05_Made.l3
      repeat' first
      | (with_reducible exact ih0 _ _ _ _ _)
      | (with_reducible exact ih1 _ _ _ _ _ _ _)
      | (with_reducible exact ih2 _ _ _ _ _ _ _ _ _ _)
      | (with_reducible exact ih3 _ _ _ _ _ _ _ _)
      | (with_reducible exact ih4 _ _ _ _ _ _ _ _ _ _)
      | (with_reducible exact ih5 _ _ _ _ _ _ _ _ _ _ _ _)
      | (with_reducible exact ih6 _ _ _ _ _ _ _ _ _ _ _ _ _ _ _ _)
      | (with_reducible exact ih7 _ _ _ _ _ _ _ _ _ _ _ _ _ _ _)
      | (with_reducible exact ih8 _ _ _ _ _ _ _ _ _ _ _ _ _ _ _)
      | (with_reducible exact ih9 _ _ _ _ _ _ _ _ _ _ _ _ _ _ _ _)
      | (with_reducible exact ih10 _ _ _ _ _ _ _ _ _ _ _ _ _ _ _)
      | (with_reducible exact ih11 _ _ _ _ _ _ _ _ _ _ _ _ _ _ _)
      | (with_reducible exact transomhand05_Number.mono _ _ _ _ _ _ _ _)
      | (with_reducible exact transomref05_IsNum.mono _ _ _ _)
      | (with_reducible exact LeO.refl _)
      | (with_reducible exact LeO.none _)
      | (with_reducible refine LeO.ite ?_ ?_)
      | (with_reducible refine LeO.bind ?_ (fun _ => ?_))
      | exact ih0 _ _ _ _ _
      | exact ih1 _ _ _ _ _ _ _
      | exact ih2 _ _ _ _ _ _ _ _ _ _
      | exact ih3 _ _ _ _ _ _ _ _
      | exact ih4 _ _ _ _ _ _ _ _ _ _
      | exact ih5 _ _ _ _ _ _ _ _ _ _ _ _
      | exact ih6 _ _ _ _ _ _ _ _ _ _ _ _ _ _ _ _
      | exact ih7 _ _ _ _ _ _ _ _ _ _ _ _ _ _ _
      | exact ih8 _ _ _ _ _ _ _ _ _ _ _ _ _ _ _
      | exact ih9 _ _ _ _ _ _ _ _ _ _ _ _ _ _ _ _
      | exact ih10 _ _ _ _ _ _ _ _ _ _ _ _ _ _ _
      | exact ih11 _ _ _ _ _ _ _ _ _ _ _ _ _ _ _
      | exact transomhand05_Number.mono _ _ _ _ _ _ _ _
      | exact transomref05_IsNum.mono _ _ _ _
      | exact LeO.none _
      | refine LeO.ite ?_ ?_
      | refine LeO.bind ?_ (fun _ => ?_)
    · intro y0 y1 y2 y3 y4 y5 y6 y7 y8 y9 y10 y11 y12 y13 y14 y15
      unfold transomhand05_Made.j6
      repeat' first
      | (with_reducible exact ih0 _ _ _ _ _)
      | (with_reducible exact ih1 _ _ _ _ _ _ _)
      | (with_reducible exact ih2 _ _ _ _ _ _ _ _ _ _)
      | (with_reducible exact ih3 _ _ _ _ _ _ _ _)
      | (with_reducible exact ih4 _ _ _ _ _ _ _ _ _ _)
      | (with_reducible exact ih5 _ _ _ _ _ _ _ _ _ _ _ _)
      | (with_reducible exact ih6 _ _ _ _ _ _ _ _ _ _ _ _ _ _ _ _)
      | (with_reducible exact ih7 _ _ _ _ _ _ _ _ _ _ _ _ _ _ _)
      | (with_reducible exact ih8 _ _ _ _ _ _ _ _ _ _ _ _ _ _ _)
      | (with_reducible exact ih9 _ _ _ _ _ _ _ _ _ _ _ _ _ _ _ _)
      | (with_reducible exact ih10 _ _ _ _ _ _ _ _ _ _ _ _ _ _ _)
      | (with_reducible exact ih11 _ _ _ _ _ _ _ _ _ _ _ _ _ _ _)
      | (with_reducible exact transomhand05_Number.mono _ _ _ _ _ _ _ _)
      | (with_reducible exact transomref05_IsNum.mono _ _ _ _)
      | (with_reducible exact LeO.refl _)
      | (with_reducible exact LeO.none _)
      | (with_reducible refine LeO.ite ?_ ?_)
      | (with_reducible refine LeO.bind ?_ (fun _ => ?_))
      | exact ih0 _ _ _ _ _
      | exact ih1 _ _ _ _ _ _ _
      | exact ih2 _ _ _ _ _ _ _ _ _ _
      | exact ih3 _ _ _ _ _ _ _ _
      | exact ih4 _ _ _ _ _ _ _ _ _ _
      | exact ih5 _ _ _ _ _ _ _ _ _ _ _ _
      | exact ih6 _ _ _ _ _ _ _ _ _ _ _ _ _ _ _ _
      | exact ih7 _ _ _ _ _ _ _ _ _ _ _ _ _ _ _
      | exact ih8 _ _ _ _ _ _ _ _ _ _ _ _ _ _ _
      | exact ih9 _ _ _ _ _ _ _ _ _ _ _ _ _ _ _ _
      | exact ih10 _ _ _ _ _ _ _ _ _ _ _ _ _ _ _
      | exact ih11 _ _ _ _ _ _ _ _ _ _ _ _ _ _ _
      | exact transomhand05_Number.mono _ _ _ _ _ _ _ _
      | exact transomref05_IsNum.mono _ _ _ _
      | exact LeO.none _
      | refine LeO.ite ?_ ?_
      | refine LeO.bind ?_ (fun _ => ?_)
    · intro y0 y1 y2 y3 y4 y5 y6 y7 y8 y9 y10 y11 y12 y13 y14
      unfold transomhand05_Made.j7
      repeat' first
      | (with_reducible exact ih0 _ _ _ _ _)
      | (with_reducible exact ih1 _ _ _ _ _ _ _)
      | (with_reducible exact ih2 _ _ _ _ _ _ _ _ _ _)
      | (with_reducible exact ih3 _ _ _ _ _ _ _ _)
      | (with_reducible exact ih4 _ _ _ _ _ _ _ _ _ _)
      | (with_reducible exact ih5 _ _ _ _ _ _ _ _ _ _ _ _)
      | (with_reducible exact ih6 _ _ _ _ _ _ _ _ _ _ _ _ _ _ _ _)
      | (with_reducible exact ih7 _ _ _ _ _ _ _ _ _ _ _ _ _ _ _)
      | (with_reducible exact ih8 _ _ _ _ _ _ _ _ _ _ _ _ _ _ _)
      | (with_reducible exact ih9 _ _ _ _ _ _ _ _ _ _ _ _ _ _ _ _)
      | (with_reducible exact ih10 _ _ _ _ _ _ _ _ _ _ _ _ _ _ _)
      | (with_reducible exact ih11 _ _ _ _ _ _ _ _ _ _ _ _ _ _ _)
      | (with_reducible exact transomhand05_Number.mono _ _ _ _ _ _ _ _)
      | (with_reducible exact transomref05_IsNum.mono _ _ _ _)
      | (with_reducible exact LeO.refl _)
      | (with_reducible exact LeO.none _)
      | (with_reducible refine LeO.ite ?_ ?_)
      | (with_reducible refine LeO.bind ?_ (fun _ => ?_))
      | exact ih0 _ _ _ _ _
      | exact ih1 _ _ _ _ _ _ _
      | exact ih2 _ _ _ _ _ _ _ _ _ _
      | exact ih3 _ _ _ _ _ _ _ _
      | exact ih4 _ _ _ _ _ _ _ _ _ _
      | exact ih5 _ _ _ _ _ _ _ _ _ _ _ _
      | exact ih6 _ _ _ _ _ _ _ _ _ _ _ _ _ _ _ _
      | exact ih7 _ _ _ _ _ _ _ _ _ _ _ _ _ _ _
      | exact ih8 _ _ _ _ _ _ _ _ _ _ _ _ _ _ _
      | exact ih9 _ _ _ _ _ _ _ _ _ _ _ _ _ _ _ _
      | exact ih10 _ _ _ _ _ _ _ _ _ _ _ _ _ _ _
      | exact ih11 _ _ _ _ _ _ _ _ _ _ _ _ _ _ _
      | exact transomhand05_Number.mono _ _ _ _ _ _ _ _
      | exact transomref05_IsNum.mono _ _ _ _
      | exact LeO.none _
      | refine LeO.ite ?_ ?_
      | refine LeO.bind ?_ (fun _ => ?_)
    · intro y0 y1 y2 y3 y4 y5 y6 y7 y8 y9 y10 y11 y12 y13 y14
      unfold transomhand05_Made.j8
      repeat' first
      | (with_reducible exact ih0 _ _ _ _ _)
      | (with_reducible exact ih1 _ _ _ _ _ _ _)
      | (with_reducible exact ih2 _ _ _ _ _ _ _ _ _ _)
      | (with_reducible exact ih3 _ _ _ _ _ _ _ _)
      | (with_reducible exact ih4 _ _ _ _ _ _ _ _ _ _)
      | (with_reducible exact ih5 _ _ _ _ _ _ _ _ _ _ _ _)
      | (with_reducible exact ih6 _ _ _ _ _ _ _ _ _ _ _ _ _ _ _ _)
      | (with_reducible exact ih7 _ _ _ _ _ _ _ _ _ _ _ _ _ _ _)
      | (with_reducible exact ih8 _ _ _ _ _ _ _ _ _ _ _ _ _ _ _)
      | (with_reducible exact ih9 _ _ _ _ _ _ _ _ _ _ _ _ _ _ _ _)
      | (with_reducible exact ih10 _ _ _ _ _ _ _ _ _ _ _ _ _ _ _)
      | (with_reducible exact ih11 _ _ _ _ _ _ _ _ _ _ _ _ _ _ _)
      | (with_reducible exact transomhand05_Number.mono _ _ _ _ _ _ _ _)
      | (with_reducible exact transomref05_IsNum.mono _ _ _ _)
      | (with_reducible exact LeO.refl _)
      | (with_reducible exact LeO.none _)
      | (with_reducible refine LeO.ite ?_ ?_)
      | (with_reducible refine LeO.bind ?_ (fun _ => ?_))
      | exact ih0 _ _ _ _ _
      | exact ih1 _ _ _ _ _ _ _
      | exact ih2 _ _ _ _ _ _ _ _ _ _
      | exact ih3 _ _ _ _ _ _ _ _
      | exact ih4 _ _ _ _ _ _ _ _ _ _
      | exact ih5 _ _ _ _ _ _ _ _ _ _ _ _
      | exact ih6 _ _ _ _ _ _ _ _ _ _ _ _ _ _ _ _
      | exact ih7 _ _ _ _ _ _ _ _ _ _ _ _ _ _ _
      | exact ih8 _ _ _ _ _ _ _ _ _ _ _ _ _ _ _
      | exact ih9 _ _ _ _ _ _ _ _ _ _ _ _ _ _ _ _
      | exact ih10 _ _ _ _ _ _ _ _ _ _ _ _ _ _ _
      | exact ih11 _ _ _ _ _ _ _ _ _ _ _ _ _ _ _
      | exact transomhand05_Number.mono _ _ _ _ _ _ _ _
      | exact transomref05_IsNum.mono _ _ _ _
      | exact LeO.none _
      | refine LeO.ite ?_ ?_
      | refine LeO.bind ?_ (fun _ => ?_)
    · intro y0 y1 y2 y3 y4 y5 y6 y7 y8 y9 y10 y11 y12 y13 y14 y15
      unfold transomhand05_Made.j9
      repeat' first
      | (with_reducible exact ih0 _ _ _ _ _)
      | (with_reducible exact ih1 _ _ _ _ _ _ _)
      | (with_reducible exact ih2 _ _ _ _ _ _ _ _ _ _)
      | (with_reducible exact ih3 _ _ _ _ _ _ _ _)
      | (with_reducible exact ih4 _ _ _ _ _ _ _ _ _ _)
      | (with_reducible exact ih5 _ _ _ _ _ _ _ _ _ _ _ _)
      | (with_reducible exact ih6 _ _ _ _ _ _ _ _ _ _ _ _ _ _ _ _)
      | (with_reducible exact ih7 _ _ _ _ _ _ _ _ _ _ _ _ _ _ _)
      | (with_reducible exact ih8 _ _ _ _ _ _ _ _ _ _ _ _ _ _ _)
      | (with_reducible exact ih9 _ _ _ _ _ _ _ _ _ _ _ _ _ _ _ _)
      | (with_reducible exact ih10 _ _ _ _ _ _ _ _ _ _ _ _ _ _ _)
      | (with_reducible exact ih11 _ _ _ _ _ _ _ _ _ _ _ _ _ _ _)
      | (with_reducible exact transomhand05_Number.mono _ _ _ _ _ _ _ _)
      | (with_reducible exact transomref05_IsNum.mono _ _ _ _)
      | (with_reducible exact LeO.refl _)
      | (with_reducible exact LeO.none _)
      | (with_reducible refine LeO.ite ?_ ?_)
      | (with_reducible refine LeO.bind ?_ (fun _ => ?_))
      | exact ih0 _ _ _ _ _
      | exact ih1 _ _ _ _ _ _ _
      | exact ih2 _ _ _ _ _ _ _ _ _ _
      | exact ih3 _ _ _ _ _ _ _ _
      | exact ih4 _ _ _ _ _ _ _ _ _ _
      | exact ih5 _ _ _ _ _ _ _ _ _ _ _ _
      | exact ih6 _ _ _ _ _ _ _ _ _ _ _ _ _ _ _ _
      | exact ih7 _ _ _ _ _ _ _ _ _ _ _ _ _ _ _
      | exact ih8 _ _ _ _ _ _ _ _ _ _ _ _ _ _ _
      | exact ih9 _ _ _ _ _ _ _ _ _ _ _ _ _ _ _ _
      | exact ih10 _ _ _ _ _ _ _ _ _ _ _ _ _ _ _
      | exact ih11 _ _ _ _ _ _ _ _ _ _ _ _ _ _ _
      | exact transomhand05_Number.mono _ _ _ _ _ _ _ _
      | exact transomref05_IsNum.mono _ _ _ _
      | exact LeO.none _
      | refine LeO.ite ?_ ?_
      | refine LeO.bind ?_ (fun _ => ?_)
    · intro y0 y1 y2 y3 y4 y5 y6 y7 y8 y9 y10 y11 y12 y13 y14
      unfold transomhand05_Made.j10
      repeat' first
      | (with_reducible exact ih0 _ _ _ _ _)
      | (with_reducible exact ih1 _ _ _ _ _ _ _)
      | (with_reducible exact ih2 _ _ _ _ _ _ _ _ _ _)
      | (with_reducible exact ih3 _ _ _ _ _ _ _ _)
      | (with_reducible exact ih4 _ _ _ _ _ _ _ _ _ _)
      | (with_reducible exact ih5 _ _ _ _ _ _ _ _ _ _ _ _)
      | (with_reducible exact ih6 _ _ _ _ _ _ _ _ _ _ _ _ _ _ _ _)
      | (with_reducible exact ih7 _ _ _ _ _ _ _ _ _ _ _ _ _ _ _)
      | (with_reducible exact ih8 _ _ _ _ _ _ _ _ _ _ _ _ _ _ _)
      | (with_reducible exact ih9 _ _ _ _ _ _ _ _ _ _ _ _ _ _ _ _)
      | (with_reducible exact ih10 _ _ _ _ _ _ _ _ _ _ _ _ _ _ _)
      | (with_reducible exact ih11 _ _ _ _ _ _ _ _ _ _ _ _ _ _ _)
      | (with_reducible exact transomhand05_Number.mono _ _ _ _ _ _ _ _)
      | (with_reducible exact transomref05_IsNum.mono _ _ _ _)
      | (with_reducible exact LeO.refl _)
      | (with_reducible exact LeO.none _)
      | (with_reducible refine LeO.ite ?_ ?_)
      | (with_reducible refine LeO.bind ?_ (fun _ => ?_))
      | exact ih0 _ _ _ _ _
      | exact ih1 _ _ _ _ _ _ _
      | exact ih2 _ _ _ _ _ _ _ _ _ _
      | exact ih3 _ _ _ _ _ _ _ _
      | exact ih4 _ _ _ _ _ _ _ _ _ _
      | exact ih5 _ _ _ _ _ _ _ _ _ _ _ _
      | exact ih6 _ _ _ _ _ _ _ _ _ _ _ _ _ _ _ _
      | exact ih7 _ _ _ _ _ _ _ _ _ _ _ _ _ _ _
      | exact ih8 _ _ _ _ _ _ _ _ _ _ _ _ _ _ _
      | exact ih9 _ _ _ _ _ _ _ _ _ _ _ _ _ _ _ _
      | exact ih10 _ _ _ _ _ _ _ _ _ _ _ _ _ _ _
      | exact ih11 _ _ _ _ _ _ _ _ _ _ _ _ _ _ _
      | exact transomhand05_Number.mono _ _ _ _ _ _ _ _
      | exact transomref05_IsNum.mono _ _ _ _
      | exact LeO.none _
      | refine LeO.ite ?_ ?_
      | refine LeO.bind ?_ (fun _ => ?_)
    · intro y0 y1 y2 y3 y4 y5 y6 y7 y8 y9 y10 y11 y12 y13 y14
      unfold transomhand05_Made.j11
      repeat' first
      | (with_reducible exact ih0 _ _ _ _ _)
      | (with_reducible exact ih1 _ _ _ _ _ _ _)
      | (with_reducible exact ih2 _ _ _ _ _ _ _ _ _ _)
      | (with_reducible exact ih3 _ _ _ _ _ _ _ _)
      | (with_reducible exact ih4 _ _ _ _ _ _ _ _ _ _)
      | (with_reducible exact ih5 _ _ _ _ _ _ _ _ _ _ _ _)
      | (with_reducible exact ih6 _ _ _ _ _ _ _ _ _ _ _ _ _ _ _ _)
      | (with_reducible exact ih7 _ _ _ _ _ _ _ _ _ _ _ _ _ _ _)
      | (with_reducible exact ih8 _ _ _ _ _ _ _ _ _ _ _ _ _ _ _)
      | (with_reducible exact ih9 _ _ _ _ _ _ _ _ _ _ _ _ _ _ _ _)
      | (with_reducible exact ih10 _ _ _ _ _ _ _ _ _ _ _ _ _ _ _)
      | (with_reducible exact ih11 _ _ _ _ _ _ _ _ _ _ _ _ _ _ _)
      | (with_reducible exact transomhand05_Number.mono _ _ _ _ _ _ _ _)
      | (with_reducible exact transomref05_IsNum.mono _ _ _ _)
      | (with_reducible exact LeO.refl _)
      | (with_reducible exact LeO.none _)
      | (with_reducible refine LeO.ite ?_ ?_)
      | (with_reducible refine LeO.bind ?_ (fun _ => ?_))
      | exact ih0 _ _ _ _ _
      | exact ih1 _ _ _ _ _ _ _
      | exact ih2 _ _ _ _ _ _ _ _ _ _
      | exact ih3 _ _ _ _ _ _ _ _
      | exact ih4 _ _ _ _ _ _ _ _ _ _
      | exact ih5 _ _ _ _ _ _ _ _ _ _ _ _
      | exact ih6 _ _ _ _ _ _ _ _ _ _ _ _ _ _ _ _
      | exact ih7 _ _ _ _ _ _ _ _ _ _ _ _ _ _ _
      | exact ih8 _ _ _ _ _ _ _ _ _ _ _ _ _ _ _
      | exact ih9 _ _ _ _ _ _ _ _ _ _ _ _ _ _ _ _
      | exact ih10 _ _ _ _ _ _ _ _ _ _ _ _ _ _ _
      | exact ih11 _ _ _ _ _ _ _ _ _ _ _ _ _ _ _
      | exact transomhand05_Number.mono _ _ _ _ _ _ _ _
      | exact transomref05_IsNum.mono _ _ _ _
      | exact LeO.none _
      | refine LeO.ite ?_ ?_
      | refine LeO.bind ?_ (fun _ => ?_)
theorem transomhand05_Made.mono : ∀ a0 a1 a2 a3 k, LeO (transomhand05_Made.f k a0 a1 a2 a3) (transomhand05_Made.f (k + 1) a0 a1 a2 a3) := by
  intro a0 a1 a2 a3 k
  obtain ⟨ih0, ih1, ih2, ih3, ih4, ih5, ih6, ih7, ih8, ih9, ih10, ih11⟩ := transomhand05_Made.mono_l k
  unfold transomhand05_Made.f
  repeat' first
      | (with_reducible exact ih0 _ _ _ _ _)
      | (with_reducible exact ih1 _ _ _ _ _ _ _)
      | (with_reducible exact ih2 _ _ _ _ _ _ _ _ _ _)
      | (with_reducible exact ih3 _ _ _ _ _ _ _ _)
      | (with_reducible exact ih4 _ _ _ _ _ _ _ _ _ _)
      | (with_reducible exact ih5 _ _ _ _ _ _ _ _ _ _ _ _)
      | (with_reducible exact ih6 _ _ _ _ _ _ _ _ _ _ _ _ _ _ _ _)
      | (with_reducible exact ih7 _ _ _ _ _ _ _ _ _ _ _ _ _ _ _)
      | (with_reducible exact ih8 _ _ _ _ _ _ _ _ _ _ _ _ _ _ _)
      | (with_reducible exact ih9 _ _ _ _ _ _ _ _ _ _ _ _ _ _ _ _)
      | (with_reducible exact ih10 _ _ _ _ _ _ _ _ _ _ _ _ _ _ _)
      | (with_reducible exact ih11 _ _ _ _ _ _ _ _ _ _ _ _ _ _ _)
      | (with_reducible exact transomhand05_Number.mono _ _ _ _ _ _ _ _)
      | (with_reducible exact transomref05_IsNum.mono _ _ _ _)
      | (with_reducible exact LeO.refl _)
      | (with_reducible exact LeO.none _)
      | (with_reducible refine LeO.ite ?_ ?_)
      | (with_reducible refine LeO.bind ?_ (fun _ => ?_))
      | exact ih0 _ _ _ _ _
      | exact ih1 _ _ _ _ _ _ _
      | exact ih2 _ _ _ _ _ _ _ _ _ _
      | exact ih3 _ _ _ _ _ _ _ _
      | exact ih4 _ _ _ _ _ _ _ _ _ _
      | exact ih5 _ _ _ _ _ _ _ _ _ _ _ _
      | exact ih6 _ _ _ _ _ _ _ _ _ _ _ _ _ _ _ _
      | exact ih7 _ _ _ _ _ _ _ _ _ _ _ _ _ _ _
      | exact ih8 _ _ _ _ _ _ _ _ _ _ _ _ _ _ _
      | exact ih9 _ _ _ _ _ _ _ _ _ _ _ _ _ _ _ _
      | exact ih10 _ _ _ _ _ _ _ _ _ _ _ _ _ _ _
      | exact ih11 _ _ _ _ _ _ _ _ _ _ _ _ _ _ _
      | exact transomhand05_Number.mono _ _ _ _ _ _ _ _
      | exact transomref05_IsNum.mono _ _ _ _
      | exact LeO.none _
      | refine LeO.ite ?_ ?_
      | refine LeO.bind ?_ (fun _ => ?_)
def transomhand05_Made.T23 : Bool × List (List Nat × List Nat) := (true, [([], []), ([], []), ([0, 1], [0, 1]), ([2], [2]), ([3], [3]), ([4], [4]), ([5], [5]), ([], []), ([], []), ([7, 8], [7, 8]), ([9], [9]), ([10], [10]), ([11], [11]), ([12], [12]), ([6, 13], [6, 13]), ([], []), ([15, 14, 0, 1, 2, 3, 4, 5, 6, 7, 8, 9, 10, 11, 12, 13, 14, 15], [14, 15])])
def transomhand05_Made.B23 : List Nat := [0, 0, 3, 7, 15, 31, 63, 0, 0, 384, 896, 1920, 3968, 8064, 16383, 0, 65535]
def transomhand05_Made.T27 : Bool × List (List Nat × List Nat) := (true, [([], []), ([], []), ([0, 1], [0, 1]), ([2], [2]), ([3], [3]), ([4], [4]), ([], []), ([6], [6]), ([7], [7]), ([5, 8], [5, 8]), ([0, 1, 2, 3, 4, 5, 6, 7, 8, 9], []), ([10, 9, 0, 1, 2, 3, 4, 5, 6, 7, 8, 9], [9, 10])])
def transomhand05_Made.B27 : List Nat := [0, 0, 3, 7, 15, 31, 0, 64, 192, 511, 1023, 2047]
def transomhand05_Made.T31 : Bool × List (List Nat × List Nat) := (true, [([], []), ([], []), ([0, 1], [0, 1]), ([2], [2]), ([3], [3]), ([4], [4]), ([], []), ([6], [6]), ([7], [7]), ([5, 8], [5, 8]), ([0, 1, 2, 3, 4, 5, 6, 7, 8, 9], []), ([10, 9, 0, 1, 2, 3, 4, 5, 6, 7, 8, 9], [9, 10])])
def transomhand05_Made.B31 : List Nat := [0, 0, 3, 7, 15, 31, 0, 64, 192, 511, 1023, 2047]
def transomhand05_Made.T33 : Bool × List (List Nat × List Nat) := (true, [([], []), ([0], [0]), ([], []), ([], []), ([2, 3], [2, 3]), ([4], [4]), ([5], [5]), ([6], [6]), ([], []), ([8], [8]), ([9], [9]), ([], []), ([10, 11], [10, 11]), ([12], [12]), ([7, 13], [7, 13]), ([1, 14], [1, 14]), ([0, 1, 2, 3, 4, 5, 6, 7, 8, 9, 10, 11, 12, 13, 14, 15], []), ([16, 15, 0, 1, 2, 3, 4, 5, 6, 7, 8, 9, 10, 11, 12, 13, 14, 15], [15, 16])])
def transomhand05_Made.B33 : List Nat := [0, 1, 0, 0, 12, 28, 60, 124, 0, 256, 768, 0, 3840, 7936, 16380, 32767, 65535, 131071]
def transomhand05_Made.T34 : Bool × List (List Nat × List Nat) := (true, [([], []), ([], []), ([0, 1], [0, 1]), ([2], [2]), ([3], [3]), ([], []), ([4, 5], [4, 5]), ([], []), ([6, 7], [6, 7]), ([], []), ([9, 8, 6, 0, 1, 2, 3, 4, 5, 6, 7, 8, 9], [8, 9])])
def transomhand05_Made.B34 : List Nat := [0, 0, 3, 7, 15, 0, 63, 0, 255, 0, 1023]
def transomhand05_Made.T36 : Bool × List (List Nat × List Nat) := (true, [([], []), ([], []), ([], []), ([], []), ([2, 3], [2, 3]), ([4], [4]), ([5], [5]), ([0, 1, 6], [0, 1, 6]), ([0, 1, 2, 3, 4, 5, 6, 7], []), ([8, 7, 7, 0, 1, 2, 3, 4, 5, 6, 7], [7, 8])])
def transomhand05_Made.B36 : List Nat := [0, 0, 0, 0, 12, 28, 60, 127, 255, 511]
end Go.Proofs.YthilhndejhnlnaaDoor.QAll
end
