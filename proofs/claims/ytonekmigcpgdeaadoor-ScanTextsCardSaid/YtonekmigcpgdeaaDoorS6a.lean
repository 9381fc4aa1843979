/- Layer 13, scan: a part of what a slice reads. -/
import Derived.Test.YtonekmigcpgdeaaDoorS5
namespace Go.Proofs.YtonekmigcpgdeaaDoor.Hand
open Go.RowKit Go.Proofs.YtonekmigcpgdeaaDoor.QAll Go.Proofs.YtonekmigcpgdeaaDoorW.PrintWords Go.Proofs.YtonekmigcpgdeaaDoorW.PrintLast Go.Proofs.YtonekmigcpgdeaaDoorW.PrintMore
set_option linter.unusedVariables false
set_option linter.unusedSimpArgs false
theorem C_part {W : World} {ad : Addr} {b : List Int} {k n : Nat} (hk : k + n ≤ b.length) (hn : 0 < n) (h : Kd.C (Kd.int .u8) W (some ad) b.length b) : Kd.C (Kd.int .u8) W (some (ad.add k)) n ((b.drop k).take n) := by
  have hR := Kd.reads_of_C (enc := Value.int .u8) (d := (0 : Int)) (h1 := fun _ => rfl) h
  obtain ⟨ad', e, hc⟩ := hR.2.2 (by omega)
  injection e with e; subst e
  refine Kd.C_of_reads (enc := Value.int .u8) (d := (0 : Int)) (h1 := fun _ => rfl) ⟨by simp; omega, Nat.le_trans (show n ≤ b.length by omega) hR.2.1, fun _ => ⟨_, rfl, fun j hj => ?_⟩⟩
  rw [add_add, hc (k + j) (by omega)]
  rw [List.getD_eq_getElem?_getD, List.getD_eq_getElem?_getD, List.getElem?_take_of_lt hj, List.getElem?_drop]
end Go.Proofs.YtonekmigcpgdeaaDoor.Hand
