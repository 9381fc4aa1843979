/-
  No cell of these rows narrows 'for every input' (looked for: loops, veiled, ifaces, maps, wideKeys, modest, calm, conditions, laid).
  DERIVED. THE GIVEN ROWS OF THIS SEAT. 5 by the template 'for every input the law returns true; each argument reads behind the call as it read before'; 0 by the template 'total and deterministic' (their statements: YtonekmigcpgdeaaTotals.lean).
  GIVEN WITH THE SEED: the statements are not yours to turn. If you find one false, say at which input.
  Laid BY PROGRAM, IN A SANDBOX (cutbox-rows.mjs): the forced cells as the released guide's own fill.sh prints them over the translation 716c66867eb227d7… (all of the seat's roots in one cut). By AI agents, Wed Nov 11 2026. No macro, syntax, notation, axiom, sorry.
-/
import Derived.Test.YtonekmigcpgdeaaChecked
import GoSem.Claim
import GoSem.ClaimJoined
import GoSem.ClaimMapViews
import Derived.JoinedTies
import Derived.KernelRfl
namespace Go.Proofs.Ytonekmigcpgdeaa
/- THE CELL 'sum', in the pinned program and in every row, IS THE sha256 OF THE DUMP (.gsa) THAT YtonekmigcpgdeaaProg.lean LOADS. Nothing in Lean hashes anything: it is a label: what it is worth is what the hold of that sum in a sandbox is worth. -/
noncomputable def Try.pinned : Pinned := { name := "ytonekmigcpgdeaa", sum := "716c66867eb227d7754b543f62450cdcf3b0880753a657d4d7ebced1fd3df5a2", checked := Try.checked }
namespace Rows
def none {H : Type} : Left H := { results := [], args := [] }

/-- 'transomlaw13.ScanUnits': WHATEVER THE INPUT: true; the input reads as it did. -/
def scanUnitsSpec : ChangeSpec := { name := "scanUnits", fn := fun _ => fun
  | [d1, d2] => { results := [.lit (.bool true)], args := [d1, d2] }
  | _ => none }
def scanUnitsRow : OpenClaim := { program := "ytonekmigcpgdeaa", sum := "716c66867eb227d7754b543f62450cdcf3b0880753a657d4d7ebced1fd3df5a2", func := "transom/transomlaw13.ScanUnits", spec := "scanUnits", unfollowed := true, recurses := true, apart := false }
def ScanUnitsSaid : Prop := scanUnitsRow.holds Try.pinned (OpenSpec.ofChange scanUnitsSpec)

/-- ITS FALSE NEIGHBOUR: 'it returns false'. Refute it at one input. -/
def scanUnitsWrong : ChangeSpec := { name := "scanUnits", fn := fun _ => fun
  | [d1, d2] => { results := [.lit (.bool false)], args := [d1, d2] }
  | _ => none }
def ScanUnitsWrongFalsely : Prop := scanUnitsRow.holds Try.pinned (OpenSpec.ofChange scanUnitsWrong)

/-- 'transomlaw13.ScanBack': WHATEVER THE INPUT: true; the input reads as it did. -/
def scanBackSpec : ChangeSpec := { name := "scanBack", fn := fun _ => fun
  | [d1, d2] => { results := [.lit (.bool true)], args := [d1, d2] }
  | _ => none }
def scanBackRow : OpenClaim := { program := "ytonekmigcpgdeaa", sum := "716c66867eb227d7754b543f62450cdcf3b0880753a657d4d7ebced1fd3df5a2", func := "transom/transomlaw13.ScanBack", spec := "scanBack", apart := false }
def ScanBackSaid : Prop := scanBackRow.holds Try.pinned (OpenSpec.ofChange scanBackSpec)

/-- ITS FALSE NEIGHBOUR: 'it returns false'. Refute it at one input. -/
def scanBackWrong : ChangeSpec := { name := "scanBack", fn := fun _ => fun
  | [d1, d2] => { results := [.lit (.bool false)], args := [d1, d2] }
  | _ => none }
def ScanBackWrongFalsely : Prop := scanBackRow.holds Try.pinned (OpenSpec.ofChange scanBackWrong)

/-- 'transomlaw13.ScanHex': WHATEVER THE INPUT: true; the input reads as it did. -/
def scanHexSpec : ChangeSpec := { name := "scanHex", fn := fun _ => fun
  | [d1, d2, d3] => { results := [.lit (.bool true)], args := [d1, d2, d3] }
  | _ => none }
def scanHexRow : OpenClaim := { program := "ytonekmigcpgdeaa", sum := "716c66867eb227d7754b543f62450cdcf3b0880753a657d4d7ebced1fd3df5a2", func := "transom/transomlaw13.ScanHex", spec := "scanHex", apart := false }
def ScanHexSaid : Prop := scanHexRow.holds Try.pinned (OpenSpec.ofChange scanHexSpec)

/-- ITS FALSE NEIGHBOUR: 'it returns false'. Refute it at one input. -/
def scanHexWrong : ChangeSpec := { name := "scanHex", fn := fun _ => fun
  | [d1, d2, d3] => { results := [.lit (.bool false)], args := [d1, d2, d3] }
  | _ => none }
def ScanHexWrongFalsely : Prop := scanHexRow.holds Try.pinned (OpenSpec.ofChange scanHexWrong)

/-- 'transomlaw13.ScanSigns': WHATEVER THE INPUT: true; the input reads as it did. -/
def scanSignsSpec : ChangeSpec := { name := "scanSigns", fn := fun _ => fun
  | [d1, d2, d3] => { results := [.lit (.bool true)], args := [d1, d2, d3] }
  | _ => none }
def scanSignsRow : OpenClaim := { program := "ytonekmigcpgdeaa", sum := "716c66867eb227d7754b543f62450cdcf3b0880753a657d4d7ebced1fd3df5a2", func := "transom/transomlaw13.ScanSigns", spec := "scanSigns", apart := false }
def ScanSignsSaid : Prop := scanSignsRow.holds Try.pinned (OpenSpec.ofChange scanSignsSpec)

/-- ITS FALSE NEIGHBOUR: 'it returns false'. Refute it at one input. -/
def scanSignsWrong : ChangeSpec := { name := "scanSigns", fn := fun _ => fun
  | [d1, d2, d3] => { results := [.lit (.bool false)], args := [d1, d2, d3] }
  | _ => none }
def ScanSignsWrongFalsely : Prop := scanSignsRow.holds Try.pinned (OpenSpec.ofChange scanSignsWrong)

/-- 'transomlaw13.ScanNil': WHATEVER THE INPUT: true; the input reads as it did. -/
def scanNilSpec : ChangeSpec := { name := "scanNil", fn := fun _ => fun
  | [d1, d2] => { results := [.lit (.bool true)], args := [d1, d2] }
  | _ => none }
def scanNilRow : OpenClaim := { program := "ytonekmigcpgdeaa", sum := "716c66867eb227d7754b543f62450cdcf3b0880753a657d4d7ebced1fd3df5a2", func := "transom/transomlaw13.ScanNil", spec := "scanNil", apart := false }
def ScanNilSaid : Prop := scanNilRow.holds Try.pinned (OpenSpec.ofChange scanNilSpec)

/-- ITS FALSE NEIGHBOUR: 'it returns false'. Refute it at one input. -/
def scanNilWrong : ChangeSpec := { name := "scanNil", fn := fun _ => fun
  | [d1, d2] => { results := [.lit (.bool false)], args := [d1, d2] }
  | _ => none }
def ScanNilWrongFalsely : Prop := scanNilRow.holds Try.pinned (OpenSpec.ofChange scanNilWrong)

/- THE SECOND FORM. 'bulk': how many values and letters a reading holds, each counted each time it is reached (what is shared counts as often as it is met; a slice's spare places count too). A statement '..UptoSaid' is the law's where the arguments, and the package variables that the reading takes, are together of bulk at most 1048576: NARROWER than '..Said'. Prove '..Said' where nothing that the law and all that it calls make is longer than what came in: it says more and counts as full. Else prove '..UptoSaid'. A law counts once. -/
mutual
def uptoBulk {H : Type} : DataW H → Nat
  | .lit (.string bytes) => bytes.length + 1
  | .lit _ => 1
  | .nil => 1
  | .ptr d => uptoBulk d + 1
  | .slice elems spare => uptoBulkAll elems + uptoBulkAll spare + 1
  | .agg parts => uptoBulkAll parts + 1
  | .iface _ d => uptoBulk d + 1
  | .map entries => uptoBulkEntries entries + 1
  | .held _ => 1
def uptoBulkAll {H : Type} : List (DataW H) → Nat
  | [] => 0
  | d :: r => uptoBulk d + uptoBulkAll r
def uptoBulkEntries {H : Type} : List (Lit × DataW H) → Nat
  | [] => 0
  | x :: r => uptoBulkEntry x + uptoBulkEntries r
def uptoBulkEntry {H : Type} : Lit × DataW H → Nat
  | (.string bytes, d) => bytes.length + uptoBulk d + 1
  | (_, d) => uptoBulk d + 1
 end
def uptoSmall : (H : Type) → List (DataW H) → Bool := fun _ ds => decide (uptoBulkAll ds ≤ 1048576)
def OpenSpec.upto (s : _root_.Go.ChangeSpec) : _root_.Go.OpenSpec := { _root_.Go.OpenSpec.ofChange s with cond := some uptoSmall }

/-- 'transomlaw13.ScanUnits', WHERE WHAT IT READS IS OF BULK AT MOST 1048576: true; the input reads as it did. -/
def scanUnitsUptoRow : OpenClaim := { program := "ytonekmigcpgdeaa", sum := "716c66867eb227d7754b543f62450cdcf3b0880753a657d4d7ebced1fd3df5a2", func := "transom/transomlaw13.ScanUnits", spec := "scanUnits", unfollowed := true, recurses := true, apart := false, narrowed := true }
def ScanUnitsUptoSaid : Prop := scanUnitsUptoRow.holds Try.pinned (OpenSpec.upto scanUnitsSpec)

/-- 'transomlaw13.ScanBack', WHERE WHAT IT READS IS OF BULK AT MOST 1048576: true; the input reads as it did. -/
def scanBackUptoRow : OpenClaim := { program := "ytonekmigcpgdeaa", sum := "716c66867eb227d7754b543f62450cdcf3b0880753a657d4d7ebced1fd3df5a2", func := "transom/transomlaw13.ScanBack", spec := "scanBack", apart := false, narrowed := true }
def ScanBackUptoSaid : Prop := scanBackUptoRow.holds Try.pinned (OpenSpec.upto scanBackSpec)

/-- 'transomlaw13.ScanHex', WHERE WHAT IT READS IS OF BULK AT MOST 1048576: true; the input reads as it did. -/
def scanHexUptoRow : OpenClaim := { program := "ytonekmigcpgdeaa", sum := "716c66867eb227d7754b543f62450cdcf3b0880753a657d4d7ebced1fd3df5a2", func := "transom/transomlaw13.ScanHex", spec := "scanHex", apart := false, narrowed := true }
def ScanHexUptoSaid : Prop := scanHexUptoRow.holds Try.pinned (OpenSpec.upto scanHexSpec)

/-- 'transomlaw13.ScanSigns', WHERE WHAT IT READS IS OF BULK AT MOST 1048576: true; the input reads as it did. -/
def scanSignsUptoRow : OpenClaim := { program := "ytonekmigcpgdeaa", sum := "716c66867eb227d7754b543f62450cdcf3b0880753a657d4d7ebced1fd3df5a2", func := "transom/transomlaw13.ScanSigns", spec := "scanSigns", apart := false, narrowed := true }
def ScanSignsUptoSaid : Prop := scanSignsUptoRow.holds Try.pinned (OpenSpec.upto scanSignsSpec)

/-- 'transomlaw13.ScanNil', WHERE WHAT IT READS IS OF BULK AT MOST 1048576: true; the input reads as it did. -/
def scanNilUptoRow : OpenClaim := { program := "ytonekmigcpgdeaa", sum := "716c66867eb227d7754b543f62450cdcf3b0880753a657d4d7ebced1fd3df5a2", func := "transom/transomlaw13.ScanNil", spec := "scanNil", apart := false, narrowed := true }
def ScanNilUptoSaid : Prop := scanNilUptoRow.holds Try.pinned (OpenSpec.upto scanNilSpec)

end Rows
end Go.Proofs.Ytonekmigcpgdeaa
