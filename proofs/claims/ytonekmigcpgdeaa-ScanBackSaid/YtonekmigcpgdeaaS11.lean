/- Layer 13, scan: a sign as units of four digits. -/
import Derived.Test.YtonekmigcpgdeaaS9
import Derived.Lib.ConvBytes
import Derived.Laws.BitsLemmas
namespace Go.Proofs.Ytonekmigcpgdeaa.Hand
open Go.RowKit Go.Proofs.Ytonekmigcpgdeaa.QAll Go.Proofs.YtonekmigcpgdeaaW.PrintWords Go.Proofs.YtonekmigcpgdeaaW.PrintLast Go.Proofs.YtonekmigcpgdeaaW.PrintMore Go.Proofs.Ytonekmigcpgdeaa.Runes
set_option linter.unusedVariables false
set_option linter.unusedSimpArgs false
/-- A digit of base sixteen, small or great. -/
def dg (great : Bool) (k : Int) : Int := if k < 10 then 48 + k else if great = true then 55 + k else 87 + k
def uL (great : Bool) (n : Int) : List Int := [92, 117, dg great (n / 4096 % 16), dg great (n / 256 % 16), dg great (n / 16 % 16), dg great (n % 16)]
def dstr (great : Bool) : ByteArray := if great = true then ⟨#[48, 49, 50, 51, 52, 53, 54, 55, 56, 57, 65, 66, 67, 68, 69, 70]⟩ else ⟨#[48, 49, 50, 51, 52, 53, 54, 55, 56, 57, 97, 98, 99, 100, 101, 102]⟩
theorem dstr_size (great : Bool) : (dstr great).size = 16 := by cases great <;> rfl
theorem dstr_at (great : Bool) (k : Int) (h0 : 0 ≤ k) (h1 : k < 16) : bt (dstr great) k = dg great k := by
  have : k = 0 ∨ k = 1 ∨ k = 2 ∨ k = 3 ∨ k = 4 ∨ k = 5 ∨ k = 6 ∨ k = 7 ∨ k = 8 ∨ k = 9 ∨ k = 10 ∨ k = 11 ∨ k = 12 ∨ k = 13 ∨ k = 14 ∨ k = 15 := by omega
  rcases this with rfl | rfl | rfl | rfl | rfl | rfl | rfl | rfl | rfl | rfl | rfl | rfl | rfl | rfl | rfl | rfl <;> cases great <;> decide +kernel
theorem and15 (x : Int) (h0 : 0 ≤ x) (h1 : x < 2097152) : Go.bits .and .i32 x 15 = x % 16 := by
  have h := bits_mask .i32 31 (by decide) (fun x h0 h1 => by rw [IntKind.wrap_i32]; omega) 4 (by decide) x h0 (by omega)
  simpa using h
set_option maxHeartbeats 3200000 in
set_option maxRecDepth 100000 in
theorem unit_clos {w : World} {p : Nat} (great : Bool) (n : Int) (hc : w.cell? ⟨p, 0, none⟩ = some (.string (dstr great))) (h0 : 0 ≤ n) (h1 : n ≤ 2097151) :
    Calls Try.prog 9 #[.int .i32 n, .pointer (some ⟨p, 0, none⟩)] w fun e w' => e = .returned (.string (strOfNums (uL great n))) ∧ Below w.heap.size w w' := by
  have m0 := and15 (n / 4096) (by omega) (by omega)
  have m1 := and15 (n / 256) (by omega) (by omega)
  have m2 := and15 (n / 16) (by omega) (by omega)
  have m3 := and15 n h0 (by omega)
  have hz := dstr_size great
  obtain ⟨S, hS⟩ : ∃ S, dstr great = S := ⟨_, rfl⟩
  rw [hS] at hc hz
  have k0 : 0 ≤ n / 4096 % 16 ∧ n / 4096 % 16 < 16 := by omega
  have k1 : 0 ≤ n / 256 % 16 ∧ n / 256 % 16 < 16 := by omega
  have k2 : 0 ≤ n / 16 % 16 ∧ n / 16 % 16 < 16 := by omega
  have k3 : 0 ≤ n % 16 ∧ n % 16 < 16 := by omega
  obtain ⟨a0, ha0⟩ : ∃ a, n / 4096 % 16 = a := ⟨_, rfl⟩
  obtain ⟨a1, ha1⟩ : ∃ a, n / 256 % 16 = a := ⟨_, rfl⟩
  obtain ⟨a2, ha2⟩ : ∃ a, n / 16 % 16 = a := ⟨_, rfl⟩
  obtain ⟨a3, ha3⟩ : ∃ a, n % 16 = a := ⟨_, rfl⟩
  rw [ha0] at m0 k0
  rw [ha1] at m1 k1
  rw [ha2] at m2 k2
  rw [ha3] at m3 k3
  obtain ⟨k00, k01⟩ := k0
  obtain ⟨k10, k11⟩ := k1
  obtain ⟨k20, k21⟩ := k2
  obtain ⟨k30, k31⟩ := k3
  have x0 := bt_at S a0
  have x1 := bt_at S a1
  have x2 := bt_at S a2
  have x3 := bt_at S a3
  have HL : Aside0 ([92, 117, bt S a0, bt S a1, bt S a2, bt S a3] = uL great n) := ⟨by
    unfold uL; rw [ha0, ha1, ha2, ha3, ← hS, dstr_at great a0 k00 k01, dstr_at great a1 k10 k11, dstr_at great a2 k20 k21, dstr_at great a3 k30 k31]⟩
  clear hS ha0 ha1 ha2 ha3
  have hz1 : (S.size : Int) = 16 := by omega
  go_enter Try.func9, Try.ntmps9
  go_upto_region 1 with (fail)
  go_still_tail 19, (by kernel_rfl)
  change wpList _ _ _ _ _ w.drew
  have hb : Below w.heap.size w w.drew := below_drew (Below.refl _ _)
  obtain ⟨w1, hw1⟩ : ∃ w1, w.drew = w1 := ⟨_, rfl⟩
  rw [hw1] at hb ⊢
  have HB := Aside0.mk hb
  have vs : (convert 24 9 (.slice (some ⟨w1.heap.size, 0, none⟩) 4 4)).run Try.prog (w1.alloc (.cells #[.int .u8 (bt S a0), .int .u8 (bt S a1), .int .u8 (bt S a2), .int .u8 (bt S a3)] 5)) = .ok (.string (strOfNums [bt S a0, bt S a1, bt S a2, bt S a3])) (w1.alloc (.cells #[.int .u8 (bt S a0), .int .u8 (bt S a1), .int .u8 (bt S a2), .int .u8 (bt S a3)] 5)) :=
    Kd.C_string (P := Try.prog) (c := 4) Try.underlying24 Try.underlying5 Try.underlying9 (C_lit w1 [bt S a0, bt S a1, bt S a2, bt S a3] 4 _ _ rfl rfl (by decide))
  have hsz : (strOfNums [bt S a0, bt S a1, bt S a2, bt S a3]).size = 4 := strOfNums_size _
  clear hw1 hb hz hz1 m0 m1 m2 m3 x0 x1 x2 x3 hc k00 k01 k10 k11 k20 k21 k30 k31
  go_wp2_with (fail)
  go_ret
  refine ⟨?_, below_alloc HB.out _⟩
  rw [← HL.out]
  rfl
end Go.Proofs.Ytonekmigcpgdeaa.Hand
