/-
  DERIVED. GIVEN WITH THE SEED: THE CARDS: each row of YthilhndejhnlnaaDoorRows.lean that lists a variable, with what it lists TIED to the program's text (the seventh form; the later family's looks); each row that meets fmt, with fmt's text TOLD by the authors' own Lean function (tested against real Go, not proved from fmt's source: count such statements apart). THE CARD IS WHAT COUNTS. Prove the row's statement (the work); the ties are given (YthilhndejhnlnaaDoorTie.lean); close each card by the builder's one call (the guide's Derived/Test/ToyasCard.lean, 'card_holds'). Laid BY PROGRAM, IN A SANDBOX (cutbox-door.mjs). By AI agents, Wed Nov 11 2026. No macro, syntax, notation, axiom, sorry.
-/
import Derived.Test.YthilhndejhnlnaaDoorRows
import GoSem.ClaimSeven
namespace Go.Proofs.YthilhndejhnlnaaDoor
namespace Rows

/-- THE TIED CARD OF 'transomlaw07.ViewFits'. -/
def viewFitsCard : Claim7 := { stood := { row := viewFitsRow, standIns := [], harness := (true, "da03bdf29b34fb5bfb477792466dcfa19553f07e9f2297ca5ab119259178a439"), looks := false }, kinds := [], alts := [], laidByText := true, laidKinds := [.data, .pinned], laidTests := true, laidLooks := .later }
def ViewFitsCardSaid : Prop := Claim7.holds Tryd.pinned (.plain (OpenSpec.ofChange viewFitsSpec)) viewFitsCard

/-- THE TIED CARD OF 'transomlaw07.ViewTurned'. -/
def viewTurnedCard : Claim7 := { stood := { row := viewTurnedRow, standIns := [], harness := (true, "da03bdf29b34fb5bfb477792466dcfa19553f07e9f2297ca5ab119259178a439"), looks := false }, kinds := [], alts := [], laidByText := true, laidKinds := [.data, .pinned], laidTests := true, laidLooks := .later }
def ViewTurnedCardSaid : Prop := Claim7.holds Tryd.pinned (.plain (OpenSpec.ofChange viewTurnedSpec)) viewTurnedCard

/-- THE SECOND FORM's CARD OF 'transomlaw07.ViewFits'. -/
def viewFitsUptoCard : Claim7 := { stood := { row := viewFitsUptoRow, standIns := [], harness := (true, "da03bdf29b34fb5bfb477792466dcfa19553f07e9f2297ca5ab119259178a439"), looks := false }, kinds := [], alts := [], laidByText := true, laidKinds := [.data, .pinned], laidTests := true, laidLooks := .later }
def ViewFitsUptoCardSaid : Prop := Claim7.holds Tryd.pinned (.plain (OpenSpec.upto viewFitsSpec)) viewFitsUptoCard

/-- THE SECOND FORM's CARD OF 'transomlaw07.ViewTurned'. -/
def viewTurnedUptoCard : Claim7 := { stood := { row := viewTurnedUptoRow, standIns := [], harness := (true, "da03bdf29b34fb5bfb477792466dcfa19553f07e9f2297ca5ab119259178a439"), looks := false }, kinds := [], alts := [], laidByText := true, laidKinds := [.data, .pinned], laidTests := true, laidLooks := .later }
def ViewTurnedUptoCardSaid : Prop := Claim7.holds Tryd.pinned (.plain (OpenSpec.upto viewTurnedSpec)) viewTurnedUptoCard
end Rows
end Go.Proofs.YthilhndejhnlnaaDoor
