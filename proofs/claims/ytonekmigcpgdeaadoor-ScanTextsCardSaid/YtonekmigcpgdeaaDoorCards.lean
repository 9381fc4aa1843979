/-
  DERIVED. GIVEN WITH THE SEED: THE CARDS: each row of YtonekmigcpgdeaaDoorRows.lean that lists a variable, with what it lists TIED to the program's text (the seventh form; the later family's looks); each row that meets fmt, with fmt's text TOLD by the authors' own Lean function (tested against real Go, not proved from fmt's source: count such statements apart). THE CARD IS WHAT COUNTS. Prove the row's statement (the work); the ties are given (YtonekmigcpgdeaaDoorTie.lean); close each card by the builder's one call (the guide's Derived/Test/ToyasCard.lean, 'card_holds'). Laid BY PROGRAM, IN A SANDBOX (cutbox-door.mjs). By AI agents, Wed Nov 11 2026. No macro, syntax, notation, axiom, sorry.
-/
import Derived.Test.YtonekmigcpgdeaaDoorRows
import GoSem.ClaimSeven
namespace Go.Proofs.YtonekmigcpgdeaaDoor
namespace Rows

/-- THE TIED CARD OF 'transomlaw13.ScanTexts'. -/
def scanTextsCard : Claim7 := { stood := { row := scanTextsRow, standIns := [], harness := (true, "9086113fc0d48ea58d8c9eae860a2b42fe4f4370d1e90b581c34ae4055f7cb2d"), looks := false }, kinds := [], alts := [], laidByText := true, laidKinds := [.data, .pinned], laidTests := true, laidLooks := .later }
def ScanTextsCardSaid : Prop := Claim7.holds Tryd.pinned (.plain (OpenSpec.ofChange scanTextsSpec)) scanTextsCard

/-- THE SECOND FORM's CARD OF 'transomlaw13.ScanTexts'. -/
def scanTextsUptoCard : Claim7 := { stood := { row := scanTextsUptoRow, standIns := [], harness := (true, "9086113fc0d48ea58d8c9eae860a2b42fe4f4370d1e90b581c34ae4055f7cb2d"), looks := false }, kinds := [], alts := [], laidByText := true, laidKinds := [.data, .pinned], laidTests := true, laidLooks := .later }
def ScanTextsUptoCardSaid : Prop := Claim7.holds Tryd.pinned (.plain (OpenSpec.upto scanTextsSpec)) scanTextsUptoCard
end Rows
end Go.Proofs.YtonekmigcpgdeaaDoor
