/- Texts joined: T2 T3. -/
import Derived.Deep.RegionLaw
import Derived.Test.YthilhndejhnlnaaZD25
import Derived.Test.YthilhndejhnlnaaZD26
section
/- view: a view as a value; words, and Tree itself over field. -/
namespace Go.Proofs.Ythilhndejhnlnaa.Hand
open Go.RowKit Go.Proofs.Ythilhndejhnlnaa.QAll Go.Proofs.YthilhndejhnlnaaW.PrintWords Go.Proofs.YthilhndejhnlnaaW.PrintLast Go.Proofs.YthilhndejhnlnaaW.PrintMore Go.Proofs.Ythilhndejhnlnaa.Mk
set_option linter.unusedVariables false
set_option linter.unusedSimpArgs false
/-- A value in new memory. -/
def MkPost (w : World) (v : S39) (e : Ending) (w' : World) : Prop :=
  ∃ v1 v2, e = .returned (.agg #[.int .u64 v.f0, v1, v2, .bool v.f3]) ∧ Rb (Kd.int .u8) 5 w' w.heap.size v1 v.f1 ∧ Rb k39 39 w' w.heap.size v2 v.f2 ∧ Below w.heap.size w w'
abbrev zV : Array Value := #[.int .u64 0, .slice none 0 0, .slice none 0 0, .bool false]
/-- Tree's fixed blocks. -/
structure TR (w W : World) (g1 g2 g3 : Nat) (us os : Array Value) : Prop where
  bel : Below w.heap.size w W
  ne : w.heap.size = g1 ∧ g1 + 1 = g2 ∧ g2 + 1 = g3
  s : W.heap[g1]? = some (.cells us 35 (0, 0))
  r : W.heap[g2]? = some (.cells #[.int .u64 0, .slice none 0 0, .slice none 0 0, .bool false] 39 (0, 0))
  o : W.heap[g3]? = some (.cells os 39 (0, 0))
namespace TR
variable {w W W' : World} {g1 g2 g3 : Nat} {us os : Array Value}
theorem below (h : TR w W g1 g2 g3 us os) (hb : Below W.heap.size W W') : TR w W' g1 g2 g3 us os := ⟨below_then h.bel h.bel.size hb, h.ne, (hb.block _ (blk_lt h.s)).trans h.s, (hb.block _ (blk_lt h.r)).trans h.r, (hb.block _ (blk_lt h.o)).trans h.o⟩
theorem grown (h : TR w W g1 g2 g3 us os) {row : Option Nat} (hg : W.grownBy W' row) (hr : ∀ k, row = some k → g3 + 1 ≤ k) : TR w W' g1 g2 g3 us os :=
  have n := h.ne
  have ne : ∀ k, k ≤ g3 → some k ≠ row := fun k hk e => by have := hr k e.symm; omega
  ⟨h.bel.grown hg h.bel.size (fun k e => by have := hr k e; omega), n, blk_grown h.s hg (ne _ (by omega)), blk_grown h.r hg (ne _ (by omega)), blk_grown h.o hg (ne _ (by omega))⟩
theorem set (h : TR w W g1 g2 g3 us os) (q : Nat) (u : Value) : TR w (W.setCell ⟨g3, q, none⟩ u) g1 g2 g3 us (os.setIfInBounds q u) :=
  have n := h.ne
  ⟨Below.setCell h.bel (p := ⟨g3, q, none⟩) (by show w.heap.size ≤ g3; omega) u, n, blk_far h.s (p := ⟨g3, q, none⟩) (by show g1 ≠ g3; omega) u, blk_far h.r (p := ⟨g3, q, none⟩) (by show g2 ≠ g3; omega) u, blk_set h.o q u⟩
end TR
theorem rd31_get {st : List S31} {q : Nat} (h : q < st.length) : rd_T31 st (q : Int) = st[q] := by
  unfold rd_T31; rw [show ((q : Int)).toNat = q from rfl, List.getD_eq_getElem?_getD, List.getElem?_eq_getElem h]; rfl
end Go.Proofs.Ythilhndejhnlnaa.Hand
end

section
/- view: a field of a view as a value. -/
namespace Go.Proofs.Ythilhndejhnlnaa.Hand
open Go.RowKit Go.Proofs.Ythilhndejhnlnaa.QAll Go.Proofs.YthilhndejhnlnaaW.PrintWords Go.Proofs.YthilhndejhnlnaaW.PrintLast Go.Proofs.YthilhndejhnlnaaW.PrintMore Go.Proofs.Ythilhndejhnlnaa.Mk
set_option linter.unusedVariables false
set_option linter.unusedSimpArgs false
/-- field's blocks. -/
structure FR (w W : World) (g1 g2 g3 : Nat) (us ts : Array Value) : Prop where
  bel : Below w.heap.size w W
  ne : w.heap.size = g1 ∧ g1 + 1 = g2 ∧ g2 + 1 = g3
  s : W.heap[g1]? = some (.cells us 35 (0, 0))
  t : W.heap[g2]? = some (.cells ts 25 (0, 0))
  r : W.heap[g3]? = some (.cells #[.int .u64 0, .slice none 0 0, .slice none 0 0, .bool false] 39 (0, 0))
namespace FR
variable {w W W' : World} {g1 g2 g3 : Nat} {us ts : Array Value}
theorem below (h : FR w W g1 g2 g3 us ts) (hb : Below W.heap.size W W') : FR w W' g1 g2 g3 us ts := ⟨below_then h.bel h.bel.size hb, h.ne, (hb.block _ (blk_lt h.s)).trans h.s, (hb.block _ (blk_lt h.t)).trans h.t, (hb.block _ (blk_lt h.r)).trans h.r⟩
end FR
section
variable {st : List S31} {en : List S61} {root : Int} (v : S39) (us u : Value) (i : Nat) (hi : i < v.f2.length) (w : World) (hS : IsS w st en root us) (hV : IsV w v u)
end
end Go.Proofs.Ythilhndejhnlnaa.Hand
end
