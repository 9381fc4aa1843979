/- Texts joined: DLaid. -/
import Derived.Test.YthilhndejhnlnaaDoorRows
import Derived.Lib.LaidTab
import Derived.Lib.LaidU8
import Derived.Deep.DeepHandedRow
import Derived.Test.YthilhndejhnlnaaDoorZV25
section
/- Go's two tables of UTF-8: what a row that lists them gives; a world in which they lie. -/
namespace Go.Proofs.YthilhndejhnlnaaDoor.Hand
open Go.Lib
theorem first_is : Rows.laid_unicode_utf8_first = firstData := by kernel_rfl
theorem accept_is : (Rows.laid_unicode_utf8_acceptRanges : DataW Unit) = acceptData := by kernel_rfl
theorem tabs_of {W : World} (h : laidMet Tryd.prog [("unicode/utf8.acceptRanges", Rows.laid_unicode_utf8_acceptRanges), ("unicode/utf8.first", Rows.laid_unicode_utf8_first)] W) : Tabs W := by
  have h3 : VarReads Tryd.prog W "unicode/utf8.first" firstData := by
    have := laidMet.reads h (n := "unicode/utf8.first") (d := Rows.laid_unicode_utf8_first) (.tail _ (.head _))
    rw [first_is] at this; exact this
  have h4 : VarReads Tryd.prog W "unicode/utf8.acceptRanges" acceptData := by
    have := laidMet.reads h (n := "unicode/utf8.acceptRanges") (d := Rows.laid_unicode_utf8_acceptRanges) (.head _)
    rw [accept_is] at this; exact this
  clear h
  have n3 : Tryd.prog.globalNamed "unicode/utf8.first" = some 0 := by kernel_rfl
  have n4 : Tryd.prog.globalNamed "unicode/utf8.acceptRanges" = some 1 := by kernel_rfl
  have y3 : (Tryd.prog.globals[0]?).map (·.type) = some 93 := by kernel_rfl
  have y4 : (Tryd.prog.globals[1]?).map (·.type) = some 96 := by kernel_rfl
  have c5 : Tryd.prog.cellsOf 5 = 1 := by kernel_rfl
  have c93 : Tryd.prog.cellsOf 93 = 256 := by kernel_rfl
  have c95 : Tryd.prog.cellsOf 95 = 2 := by kernel_rfl
  refine ⟨fun c hc => ?_, fun i hi => ?_⟩
  · obtain ⟨g, t, cs, fuel, p, hg, hty, hvar, hd⟩ := h3
    obtain rfl := Option.some.inj (n3.symm.trans hg)
    obtain rfl := Option.some.inj (y3.symm.trans hty)
    have hcs := cells_of_tab Tryd.underlying93 Tryd.underlying5 c5 c93 hd
    have := World.var?_cell hg hvar c
    rw [this, ← Array.getElem?_toList, hcs]
    simp [firstTab, hc]
  · obtain ⟨g, t, cs, fuel, p, hg, hty, hvar, hd⟩ := h4
    obtain rfl := Option.some.inj (n4.symm.trans hg)
    obtain rfl := Option.some.inj (y4.symm.trans hty)
    obtain ⟨fuel', d, q, hdi, he⟩ := array_elem Tryd.underlying96 hd i hi
    simp only [List.getElem?_map, List.getElem?_range hi, Option.map_some, Option.some.injEq] at hdi
    subst hdi
    rw [c95] at he
    have hcs := ints_of_struct Tryd.underlying95 (fun j f hj => by
      match j, hj with
      | 0, hj => simp at hj; subst hj; exact ⟨Tryd.underlying5, rfl, c5⟩
      | 1, hj => simp at hj; subst hj; exact ⟨Tryd.underlying5, rfl, c5⟩
      | j + 2, hj => simp at hj) (by rw [c95]; rfl) he
    have e0 := congrArg (·[0]?) hcs
    have e1 := congrArg (·[1]?) hcs
    simp only [List.getElem?_take, List.getElem?_drop] at e0 e1
    constructor
    · rw [World.var?_cell hg hvar (2 * i), ← Array.getElem?_toList]
      simpa [Nat.mul_comm] using e0
    · rw [World.var?_cell hg hvar (2 * i + 1), ← Array.getElem?_toList]
      simpa [Nat.mul_comm] using e1
def put0 : Obj → Obj
  | .cells _ t frozen => .cells (firstTab.map (Value.int .u8)).toArray t frozen
  | o => o
def put1 : Obj → Obj
  | .cells _ t frozen => .cells ((List.range 16).flatMap fun i => [Value.int .u8 (accLo i), Value.int .u8 (accHi i)]).toArray t frozen
  | o => o
/-- The settled world, the two tables holding what their initialisers lay. -/
noncomputable def laidWorld (os : Os) : World :=
  { World.holding Tryd.prog os ⟨#[], #[], []⟩ with heap := ((World.holding Tryd.prog os ⟨#[], #[], []⟩).heap.modify 0 put0).modify 1 put1 }
end Go.Proofs.YthilhndejhnlnaaDoor.Hand
end
