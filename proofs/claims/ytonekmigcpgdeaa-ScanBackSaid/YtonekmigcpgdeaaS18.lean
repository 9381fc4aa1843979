/- Layer 13, scan: a text in quotes as the document writes it; plain Lean. -/
import Derived.Test.YtonekmigcpgdeaaS14
namespace Go.Proofs.Ytonekmigcpgdeaa.Hand
open Go.RowKit Go.Proofs.Ytonekmigcpgdeaa.QAll Go.Proofs.YtonekmigcpgdeaaW.PrintWords Go.Proofs.YtonekmigcpgdeaaW.PrintLast Go.Proofs.YtonekmigcpgdeaaW.PrintMore Go.Proofs.Ytonekmigcpgdeaa.Runes
set_option linter.unusedVariables false
set_option linter.unusedSimpArgs false
/-- Which of the seven bytes that are written behind a backslash; 7: none. -/
def kx (x : Int) : Nat := if x = 34 then 0 else if x = 92 then 1 else if x = 8 then 2 else if x = 9 then 3 else if x = 10 then 4 else if x = 12 then 5 else if x = 13 then 6 else 7
/-- What is written for it. -/
def toL (k : Nat) : Int := if k = 0 then 34 else if k = 1 then 92 else if k = 2 then 98 else if k = 3 then 116 else if k = 4 then 110 else if k = 5 then 102 else 114
def qf (x : Int) : List Int := if kx x < 7 then [92, toL (kx x)] else if x < 32 then [92, 117, 48, 48, dg false (x / 16), dg false (x % 16)] else [x]
def qfs : List Int → List Int
  | [] => []
  | x :: t => qf x ++ qfs t
def quoted (l : List Int) : List Int := 34 :: (qfs l ++ [34])
theorem kx_le (x : Int) : kx x ≤ 7 := by
  unfold kx; repeat' split
  all_goals omega
theorem qfs_append (a b : List Int) : qfs (a ++ b) = qfs a ++ qfs b := by
  induction a with
  | nil => rfl
  | cons x t ih => simp [qfs, ih]
theorem qf_length (x : Int) : (qf x).length ≤ 6 ∧ 1 ≤ (qf x).length := by
  unfold qf; split
  · simp
  · split <;> simp
theorem qfs_length (l : List Int) : (qfs l).length ≤ 6 * l.length := by
  induction l with
  | nil => simp [qfs]
  | cons x t ih => have := qf_length x; simp only [qfs, List.length_append, List.length_cons]; omega
def fromS : ByteArray := ⟨#[34, 92, 8, 9, 10, 12, 13]⟩
def toS : ByteArray := ⟨#[34, 92, 98, 116, 110, 102, 114]⟩
theorem toS_at (k : Nat) (h : k < 7) : bt toS (k : Int) = toL k := by
  have : k = 0 ∨ k = 1 ∨ k = 2 ∨ k = 3 ∨ k = 4 ∨ k = 5 ∨ k = 6 := by omega
  rcases this with rfl | rfl | rfl | rfl | rfl | rfl | rfl <;> decide +kernel
theorem fromS_at (x : Int) (k : Nat) (h : k < 7) (hk : k ≤ kx x) : (bt fromS (k : Int) = x ↔ k = kx x) := by
  have e : k = 0 ∨ k = 1 ∨ k = 2 ∨ k = 3 ∨ k = 4 ∨ k = 5 ∨ k = 6 := by omega
  have b0 : bt fromS ((0 : Nat) : Int) = 34 := by decide +kernel
  have b1 : bt fromS ((1 : Nat) : Int) = 92 := by decide +kernel
  have b2 : bt fromS ((2 : Nat) : Int) = 8 := by decide +kernel
  have b3 : bt fromS ((3 : Nat) : Int) = 9 := by decide +kernel
  have b4 : bt fromS ((4 : Nat) : Int) = 10 := by decide +kernel
  have b5 : bt fromS ((5 : Nat) : Int) = 12 := by decide +kernel
  have b6 : bt fromS ((6 : Nat) : Int) = 13 := by decide +kernel
  unfold kx at hk ⊢
  rcases e with rfl | rfl | rfl | rfl | rfl | rfl | rfl
  · rw [b0]; repeat' split
    all_goals omega
  · rw [b1]; repeat' split at hk
    all_goals (repeat' split) <;> omega
  · rw [b2]; repeat' split at hk
    all_goals (repeat' split) <;> omega
  · rw [b3]; repeat' split at hk
    all_goals (repeat' split) <;> omega
  · rw [b4]; repeat' split at hk
    all_goals (repeat' split) <;> omega
  · rw [b5]; repeat' split at hk
    all_goals (repeat' split) <;> omega
  · rw [b6]; repeat' split at hk
    all_goals (repeat' split) <;> omega
end Go.Proofs.Ytonekmigcpgdeaa.Hand
