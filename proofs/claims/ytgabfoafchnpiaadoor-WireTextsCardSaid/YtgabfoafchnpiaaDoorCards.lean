/-
  DERIVED. GIVEN WITH THE SEED: THE CARDS: each row of YtgabfoafchnpiaaDoorRows.lean that lists a variable, with what it lists TIED to the program's text (the seventh form; the later family's looks); each row that meets fmt, with fmt's text TOLD by the authors' own Lean function (tested against real Go, not proved from fmt's source: count such statements apart). THE CARD IS WHAT COUNTS. Prove the row's statement (the work); the ties are given (YtgabfoafchnpiaaDoorTie.lean); close each card by the builder's one call (the guide's Derived/Test/ToyasCard.lean, 'card_holds'). Laid BY PROGRAM, IN A SANDBOX (cutbox-door.mjs). By AI agents, Wed Nov 11 2026. No macro, syntax, notation, axiom, sorry.
-/
import Derived.Test.YtgabfoafchnpiaaDoorRows
import GoSem.ClaimSeven
namespace Go.Proofs.YtgabfoafchnpiaaDoor
namespace Rows

/-- THE TIED CARD OF 'transomlaw01.WireTexts'. -/
def wireTextsCard : Claim7 := { stood := { row := wireTextsRow, standIns := [], harness := (true, "a8ac7e65f34bbf0e2449fde14c9d1fd4a3187ae4b8fec52529c48eae0ff2f3dd"), looks := false }, kinds := [], alts := [], laidByText := true, laidKinds := [.data, .pinned], laidTests := true, laidLooks := .later }
def WireTextsCardSaid : Prop := Claim7.holds Tryd.pinned (.plain (OpenSpec.ofChange wireTextsSpec)) wireTextsCard

/-- THE SECOND FORM's CARD OF 'transomlaw01.WireTexts'. -/
def wireTextsUptoCard : Claim7 := { stood := { row := wireTextsUptoRow, standIns := [], harness := (true, "a8ac7e65f34bbf0e2449fde14c9d1fd4a3187ae4b8fec52529c48eae0ff2f3dd"), looks := false }, kinds := [], alts := [], laidByText := true, laidKinds := [.data, .pinned], laidTests := true, laidLooks := .later }
def WireTextsUptoCardSaid : Prop := Claim7.holds Tryd.pinned (.plain (OpenSpec.upto wireTextsSpec)) wireTextsUptoCard
end Rows
end Go.Proofs.YtgabfoafchnpiaaDoor
