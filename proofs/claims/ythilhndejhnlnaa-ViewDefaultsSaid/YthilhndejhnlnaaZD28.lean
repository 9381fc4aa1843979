/- Texts joined: T4. -/
import Derived.Test.YthilhndejhnlnaaZD27
section
/- view: a list of a view as a value. -/
namespace Go.Proofs.Ythilhndejhnlnaa.Hand
open Go.RowKit Go.Proofs.Ythilhndejhnlnaa.QAll Go.Proofs.YthilhndejhnlnaaW.PrintWords Go.Proofs.YthilhndejhnlnaaW.PrintLast Go.Proofs.YthilhndejhnlnaaW.PrintMore Go.Proofs.Ythilhndejhnlnaa.Mk
set_option linter.unusedVariables false
set_option linter.unusedSimpArgs false
/-- list's blocks. -/
structure LR (w W : World) (g1 g2 g3 g4 : Nat) (us ts os : Array Value) : Prop where
  bel : Below w.heap.size w W
  ne : w.heap.size = g1 ∧ g1 + 1 = g2 ∧ g2 + 1 = g3 ∧ g3 + 1 = g4
  s : W.heap[g1]? = some (.cells us 35 (0, 0))
  t : W.heap[g2]? = some (.cells ts 25 (0, 0))
  r : W.heap[g3]? = some (.cells #[.int .u64 0, .slice none 0 0, .slice none 0 0, .bool false] 39 (0, 0))
  o : W.heap[g4]? = some (.cells os 39 (0, 0))
namespace LR
variable {w W W' : World} {g1 g2 g3 g4 : Nat} {us ts os : Array Value}
theorem below (h : LR w W g1 g2 g3 g4 us ts os) (hb : Below W.heap.size W W') : LR w W' g1 g2 g3 g4 us ts os := ⟨below_then h.bel h.bel.size hb, h.ne, (hb.block _ (blk_lt h.s)).trans h.s, (hb.block _ (blk_lt h.t)).trans h.t, (hb.block _ (blk_lt h.r)).trans h.r, (hb.block _ (blk_lt h.o)).trans h.o⟩
theorem grown (h : LR w W g1 g2 g3 g4 us ts os) {row : Option Nat} (hg : W.grownBy W' row) (hr : ∀ k, row = some k → g4 + 1 ≤ k) : LR w W' g1 g2 g3 g4 us ts os :=
  have n := h.ne
  have ne : ∀ k, k ≤ g4 → some k ≠ row := fun k hk e => by have := hr k e.symm; omega
  ⟨h.bel.grown hg h.bel.size (fun k e => by have := hr k e; omega), n, blk_grown h.s hg (ne _ (by omega)), blk_grown h.t hg (ne _ (by omega)), blk_grown h.r hg (ne _ (by omega)), blk_grown h.o hg (ne _ (by omega))⟩
theorem set (h : LR w W g1 g2 g3 g4 us ts os) (q : Nat) (u : Value) : LR w (W.setCell ⟨g4, q, none⟩ u) g1 g2 g3 g4 us ts (os.setIfInBounds q u) :=
  have n := h.ne
  ⟨Below.setCell h.bel (p := ⟨g4, q, none⟩) (by show w.heap.size ≤ g4; omega) u, n, blk_far h.s (p := ⟨g4, q, none⟩) (by show g1 ≠ g4; omega) u, blk_far h.t (p := ⟨g4, q, none⟩) (by show g2 ≠ g4; omega) u, blk_far h.r (p := ⟨g4, q, none⟩) (by show g3 ≠ g4; omega) u, blk_set h.o q u⟩
theorem sett (h : LR w W g1 g2 g3 g4 us ts os) (q : Nat) (u : Value) : LR w (W.setCell ⟨g2, q, none⟩ u) g1 g2 g3 g4 us (ts.setIfInBounds q u) os :=
  have n := h.ne
  ⟨Below.setCell h.bel (p := ⟨g2, q, none⟩) (by show w.heap.size ≤ g2; omega) u, n, blk_far h.s (p := ⟨g2, q, none⟩) (by show g1 ≠ g2; omega) u, blk_set h.t q u, blk_far h.r (p := ⟨g2, q, none⟩) (by show g3 ≠ g2; omega) u, blk_far h.o (p := ⟨g2, q, none⟩) (by show g4 ≠ g2; omega) u⟩
end LR
section
variable {st : List S31} {en : List S61} {root : Int} (v : S39) (us u : Value) (w : World) (hS : IsS w st en root us) (hV : IsV w v u)
end
end Go.Proofs.Ythilhndejhnlnaa.Hand
end
