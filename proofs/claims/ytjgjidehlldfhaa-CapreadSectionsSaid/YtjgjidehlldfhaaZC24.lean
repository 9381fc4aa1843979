/- Texts joined: Rb. -/
import Derived.StillTailTactics
import Derived.Test.YtjgjidehlldfhaaZC20
section
/- Rows of the call's own, told apart by their blocks' numbers. -/
namespace Go.Proofs.Ytjgjidehlldfhaa.Hand
open Go.RowKit Go.Proofs.Ytjgjidehlldfhaa.QAll Go.Proofs.YtjgjidehlldfhaaW.PrintWords Go.Proofs.YtjgjidehlldfhaaW.PrintLast Go.Proofs.YtjgjidehlldfhaaW.PrintMore
set_option linter.unusedVariables false
section
variable {α : Type} {d : Kd α} {e : Nat} {w w1 : World} {base : Nat} {v : Value} {xs : List α}
/-- A row of the call's own whose blocks are from base on. -/
abbrev Rb (d : Kd α) (e : Nat) (w : World) (base : Nat) (v : Value) (xs : List α) : Prop := d.R e w base (fun _ => True) v xs
theorem Rb.of {ok : Nat → Prop} (h : d.R e w base ok v xs) : Rb d e w base v xs := Kd.R_mono h (fun _ _ => trivial)
theorem Rb.all (h : Rb d e w base v xs) (hm : ∀ k, base ≤ k → k < w.heap.size → w1.heap[k]? = w.heap[k]?) : Rb d e w1 base v xs :=
  Kd.R_mono (Kd.R_move (Kd.R_bound h) (fun k hk => hm k hk.2.1 hk.2.2.1)) (fun _ _ => trivial)
theorem Rb.below (h : Rb d e w base v xs) (hb : Below w.heap.size w w1) : Rb d e w1 base v xs := h.all (fun k _ hl => hb.block k hl)
theorem Rb.set {p : Addr} (h : Rb d e w base v xs) (hp : p.block < base) (u : Value) : Rb d e (w.setCell p u) base v xs := h.all (fun k hb _ => Below.heap_setCell w p u k (by omega))
theorem Rb.nil (d : Kd α) (e : Nat) (w : World) (base : Nat) : Rb d e w base (.slice none 0 0) [] := Kd.R_nil d e w base _
theorem Rb.slice (h : Rb d e w base v xs) : ∃ A c, v = .slice A xs.length c ∧ xs.length ≤ c ∧ d.C w A xs.length xs := Kd.R_reads h
/-- Its blocks are of this world; as a row whose blocks are all from base on, and none another row's. -/
theorem Rb.from (h : Rb d e w base v xs) : d.R e w base (fun k => base ≤ k) v xs := Kd.R_mono (Kd.R_bound h) (fun _ hk => hk.2.1)
theorem Rb.bas (h : Rb d e w base v xs) (k : Nat) (hk : v.ownBlock = some k) : base ≤ k ∧ k < w.heap.size := by
  have := (Kd.R_bound h).1 k hk
  exact ⟨this.2.1, this.2.2.1⟩
end
end Go.Proofs.Ytjgjidehlldfhaa.Hand
end
