/-
  No cell of these rows narrows 'for every input' (looked for: loops, veiled, ifaces, maps, wideKeys, modest, calm, conditions, laid).
  DERIVED. THE GIVEN ROWS OF THIS SEAT. 9 by the template 'for every input the law returns true; each argument reads behind the call as it read before'; 0 by the template 'total and deterministic' (their statements: YtgabfoafchnpiaaTotals.lean).
  GIVEN WITH THE SEED: the statements are not yours to turn. If you find one false, say at which input.
  Laid BY PROGRAM, IN A SANDBOX (cutbox-rows.mjs): the forced cells as the released guide's own fill.sh prints them over the translation 9a39f0907cb1db06… (all of the seat's roots in one cut). By AI agents, Wed Nov 11 2026. No macro, syntax, notation, axiom, sorry.
-/
import Derived.Test.YtgabfoafchnpiaaChecked
import GoSem.Claim
import GoSem.ClaimJoined
import GoSem.ClaimMapViews
import Derived.JoinedTies
import Derived.KernelRfl
namespace Go.Proofs.Ytgabfoafchnpiaa
/- THE CELL 'sum', in the pinned program and in every row, IS THE sha256 OF THE DUMP (.gsa) THAT YtgabfoafchnpiaaProg.lean LOADS. Nothing in Lean hashes anything: it is a label: what it is worth is what the hold of that sum in a sandbox is worth. -/
noncomputable def Try.pinned : Pinned := { name := "ytgabfoafchnpiaa", sum := "9a39f0907cb1db06a840084a40ad0a41cbdc9c7008e65d1d53db21db9f81b48d", checked := Try.checked }
namespace Rows
def none {H : Type} : Left H := { results := [], args := [] }

/-- 'transomlaw02.ArenaNil': WHATEVER THE INPUT: true; the input reads as it did. -/
def arenaNilSpec : ChangeSpec := { name := "arenaNil", fn := fun _ => fun
  | [d1, d2, d3, d4] => { results := [.lit (.bool true)], args := [d1, d2, d3, d4] }
  | _ => none }
def arenaNilRow : OpenClaim := { program := "ytgabfoafchnpiaa", sum := "9a39f0907cb1db06a840084a40ad0a41cbdc9c7008e65d1d53db21db9f81b48d", func := "transom/transomlaw02.ArenaNil", spec := "arenaNil", apart := false }
def ArenaNilSaid : Prop := arenaNilRow.holds Try.pinned (OpenSpec.ofChange arenaNilSpec)

/-- ITS FALSE NEIGHBOUR: 'it returns false'. Refute it at one input. -/
def arenaNilWrong : ChangeSpec := { name := "arenaNil", fn := fun _ => fun
  | [d1, d2, d3, d4] => { results := [.lit (.bool false)], args := [d1, d2, d3, d4] }
  | _ => none }
def ArenaNilWrongFalsely : Prop := arenaNilRow.holds Try.pinned (OpenSpec.ofChange arenaNilWrong)

/-- 'transomlaw02.ArenaGrows': WHATEVER THE INPUT: true; the input reads as it did. -/
def arenaGrowsSpec : ChangeSpec := { name := "arenaGrows", fn := fun _ => fun
  | [d1, d2] => { results := [.lit (.bool true)], args := [d1, d2] }
  | _ => none }
def arenaGrowsRow : OpenClaim := { program := "ytgabfoafchnpiaa", sum := "9a39f0907cb1db06a840084a40ad0a41cbdc9c7008e65d1d53db21db9f81b48d", func := "transom/transomlaw02.ArenaGrows", spec := "arenaGrows", apart := false }
def ArenaGrowsSaid : Prop := arenaGrowsRow.holds Try.pinned (OpenSpec.ofChange arenaGrowsSpec)

/-- ITS FALSE NEIGHBOUR: 'it returns false'. Refute it at one input. -/
def arenaGrowsWrong : ChangeSpec := { name := "arenaGrows", fn := fun _ => fun
  | [d1, d2] => { results := [.lit (.bool false)], args := [d1, d2] }
  | _ => none }
def ArenaGrowsWrongFalsely : Prop := arenaGrowsRow.holds Try.pinned (OpenSpec.ofChange arenaGrowsWrong)

/-- 'transomlaw01.WireRunes': WHATEVER THE INPUT: true; the input reads as it did. -/
def wireRunesSpec : ChangeSpec := { name := "wireRunes", fn := fun _ => fun
  | [d1, d2] => { results := [.lit (.bool true)], args := [d1, d2] }
  | _ => none }
def wireRunesRow : OpenClaim := { program := "ytgabfoafchnpiaa", sum := "9a39f0907cb1db06a840084a40ad0a41cbdc9c7008e65d1d53db21db9f81b48d", func := "transom/transomlaw01.WireRunes", spec := "wireRunes", apart := false }
def WireRunesSaid : Prop := wireRunesRow.holds Try.pinned (OpenSpec.ofChange wireRunesSpec)

/-- ITS FALSE NEIGHBOUR: 'it returns false'. Refute it at one input. -/
def wireRunesWrong : ChangeSpec := { name := "wireRunes", fn := fun _ => fun
  | [d1, d2] => { results := [.lit (.bool false)], args := [d1, d2] }
  | _ => none }
def WireRunesWrongFalsely : Prop := wireRunesRow.holds Try.pinned (OpenSpec.ofChange wireRunesWrong)

/-- 'transomlaw01.WireMeters': WHATEVER THE INPUT: true; the input reads as it did. -/
def wireMetersSpec : ChangeSpec := { name := "wireMeters", fn := fun _ => fun
  | [d1, d2] => { results := [.lit (.bool true)], args := [d1, d2] }
  | _ => none }
def wireMetersRow : OpenClaim := { program := "ytgabfoafchnpiaa", sum := "9a39f0907cb1db06a840084a40ad0a41cbdc9c7008e65d1d53db21db9f81b48d", func := "transom/transomlaw01.WireMeters", spec := "wireMeters", apart := false }
def WireMetersSaid : Prop := wireMetersRow.holds Try.pinned (OpenSpec.ofChange wireMetersSpec)

/-- ITS FALSE NEIGHBOUR: 'it returns false'. Refute it at one input. -/
def wireMetersWrong : ChangeSpec := { name := "wireMeters", fn := fun _ => fun
  | [d1, d2] => { results := [.lit (.bool false)], args := [d1, d2] }
  | _ => none }
def WireMetersWrongFalsely : Prop := wireMetersRow.holds Try.pinned (OpenSpec.ofChange wireMetersWrong)

/-- 'transomlaw01.WireBack': WHATEVER THE INPUT: true; the input reads as it did. -/
def wireBackSpec : ChangeSpec := { name := "wireBack", fn := fun _ => fun
  | [d1, d2, d3] => { results := [.lit (.bool true)], args := [d1, d2, d3] }
  | _ => none }
def wireBackRow : OpenClaim := { program := "ytgabfoafchnpiaa", sum := "9a39f0907cb1db06a840084a40ad0a41cbdc9c7008e65d1d53db21db9f81b48d", func := "transom/transomlaw01.WireBack", spec := "wireBack", apart := false }
def WireBackSaid : Prop := wireBackRow.holds Try.pinned (OpenSpec.ofChange wireBackSpec)

/-- ITS FALSE NEIGHBOUR: 'it returns false'. Refute it at one input. -/
def wireBackWrong : ChangeSpec := { name := "wireBack", fn := fun _ => fun
  | [d1, d2, d3] => { results := [.lit (.bool false)], args := [d1, d2, d3] }
  | _ => none }
def WireBackWrongFalsely : Prop := wireBackRow.holds Try.pinned (OpenSpec.ofChange wireBackWrong)

/-- 'transomlaw01.WireParts': WHATEVER THE INPUT: true; the input reads as it did. -/
def wirePartsSpec : ChangeSpec := { name := "wireParts", fn := fun _ => fun
  | [d1, d2, d3, d4] => { results := [.lit (.bool true)], args := [d1, d2, d3, d4] }
  | _ => none }
def wirePartsRow : OpenClaim := { program := "ytgabfoafchnpiaa", sum := "9a39f0907cb1db06a840084a40ad0a41cbdc9c7008e65d1d53db21db9f81b48d", func := "transom/transomlaw01.WireParts", spec := "wireParts", apart := false }
def WirePartsSaid : Prop := wirePartsRow.holds Try.pinned (OpenSpec.ofChange wirePartsSpec)

/-- ITS FALSE NEIGHBOUR: 'it returns false'. Refute it at one input. -/
def wirePartsWrong : ChangeSpec := { name := "wireParts", fn := fun _ => fun
  | [d1, d2, d3, d4] => { results := [.lit (.bool false)], args := [d1, d2, d3, d4] }
  | _ => none }
def WirePartsWrongFalsely : Prop := wirePartsRow.holds Try.pinned (OpenSpec.ofChange wirePartsWrong)

/-- 'transomlaw01.WireSigns': WHATEVER THE INPUT: true; the input reads as it did. -/
def wireSignsSpec : ChangeSpec := { name := "wireSigns", fn := fun _ => fun
  | [d1, d2, d3] => { results := [.lit (.bool true)], args := [d1, d2, d3] }
  | _ => none }
def wireSignsRow : OpenClaim := { program := "ytgabfoafchnpiaa", sum := "9a39f0907cb1db06a840084a40ad0a41cbdc9c7008e65d1d53db21db9f81b48d", func := "transom/transomlaw01.WireSigns", spec := "wireSigns", apart := false }
def WireSignsSaid : Prop := wireSignsRow.holds Try.pinned (OpenSpec.ofChange wireSignsSpec)

/-- ITS FALSE NEIGHBOUR: 'it returns false'. Refute it at one input. -/
def wireSignsWrong : ChangeSpec := { name := "wireSigns", fn := fun _ => fun
  | [d1, d2, d3] => { results := [.lit (.bool false)], args := [d1, d2, d3] }
  | _ => none }
def WireSignsWrongFalsely : Prop := wireSignsRow.holds Try.pinned (OpenSpec.ofChange wireSignsWrong)

/-- 'transomlaw02.ArenaPlays': WHATEVER THE INPUT: true; the input reads as it did. -/
def arenaPlaysSpec : ChangeSpec := { name := "arenaPlays", fn := fun _ => fun
  | [d1, d2] => { results := [.lit (.bool true)], args := [d1, d2] }
  | _ => none }
def arenaPlaysRow : OpenClaim := { program := "ytgabfoafchnpiaa", sum := "9a39f0907cb1db06a840084a40ad0a41cbdc9c7008e65d1d53db21db9f81b48d", func := "transom/transomlaw02.ArenaPlays", spec := "arenaPlays", unfollowed := true, recurses := true, apart := false }
def ArenaPlaysSaid : Prop := arenaPlaysRow.holds Try.pinned (OpenSpec.ofChange arenaPlaysSpec)

/-- ITS FALSE NEIGHBOUR: 'it returns false'. Refute it at one input. -/
def arenaPlaysWrong : ChangeSpec := { name := "arenaPlays", fn := fun _ => fun
  | [d1, d2] => { results := [.lit (.bool false)], args := [d1, d2] }
  | _ => none }
def ArenaPlaysWrongFalsely : Prop := arenaPlaysRow.holds Try.pinned (OpenSpec.ofChange arenaPlaysWrong)

/-- 'transomlaw01.WireLoads': WHATEVER THE INPUT: true; the input reads as it did. -/
def wireLoadsSpec : ChangeSpec := { name := "wireLoads", fn := fun _ => fun
  | [d1, d2, d3, d4] => { results := [.lit (.bool true)], args := [d1, d2, d3, d4] }
  | _ => none }
def wireLoadsRow : OpenClaim := { program := "ytgabfoafchnpiaa", sum := "9a39f0907cb1db06a840084a40ad0a41cbdc9c7008e65d1d53db21db9f81b48d", func := "transom/transomlaw01.WireLoads", spec := "wireLoads", apart := false }
def WireLoadsSaid : Prop := wireLoadsRow.holds Try.pinned (OpenSpec.ofChange wireLoadsSpec)

/-- ITS FALSE NEIGHBOUR: 'it returns false'. Refute it at one input. -/
def wireLoadsWrong : ChangeSpec := { name := "wireLoads", fn := fun _ => fun
  | [d1, d2, d3, d4] => { results := [.lit (.bool false)], args := [d1, d2, d3, d4] }
  | _ => none }
def WireLoadsWrongFalsely : Prop := wireLoadsRow.holds Try.pinned (OpenSpec.ofChange wireLoadsWrong)

/- THE SECOND FORM. 'bulk': how many values and letters a reading holds, each counted each time it is reached (what is shared counts as often as it is met; a slice's spare places count too). A statement '..UptoSaid' is the law's where the arguments, and the package variables that the reading takes, are together of bulk at most 1048576: NARROWER than '..Said'. Prove '..Said' where nothing that the law and all that it calls make is longer than what came in: it says more and counts as full. Else prove '..UptoSaid'. A law counts once. -/
mutual
def uptoBulk {H : Type} : DataW H → Nat
  | .lit (.string bytes) => bytes.length + 1
  | .lit _ => 1
  | .nil => 1
  | .ptr d => uptoBulk d + 1
  | .slice elems spare => uptoBulkAll elems + uptoBulkAll spare + 1
  | .agg parts => uptoBulkAll parts + 1
  | .iface _ d => uptoBulk d + 1
  | .map entries => uptoBulkEntries entries + 1
  | .held _ => 1
def uptoBulkAll {H : Type} : List (DataW H) → Nat
  | [] => 0
  | d :: r => uptoBulk d + uptoBulkAll r
def uptoBulkEntries {H : Type} : List (Lit × DataW H) → Nat
  | [] => 0
  | x :: r => uptoBulkEntry x + uptoBulkEntries r
def uptoBulkEntry {H : Type} : Lit × DataW H → Nat
  | (.string bytes, d) => bytes.length + uptoBulk d + 1
  | (_, d) => uptoBulk d + 1
 end
def uptoSmall : (H : Type) → List (DataW H) → Bool := fun _ ds => decide (uptoBulkAll ds ≤ 1048576)
def OpenSpec.upto (s : _root_.Go.ChangeSpec) : _root_.Go.OpenSpec := { _root_.Go.OpenSpec.ofChange s with cond := some uptoSmall }

/-- 'transomlaw02.ArenaNil', WHERE WHAT IT READS IS OF BULK AT MOST 1048576: true; the input reads as it did. -/
def arenaNilUptoRow : OpenClaim := { program := "ytgabfoafchnpiaa", sum := "9a39f0907cb1db06a840084a40ad0a41cbdc9c7008e65d1d53db21db9f81b48d", func := "transom/transomlaw02.ArenaNil", spec := "arenaNil", apart := false, narrowed := true }
def ArenaNilUptoSaid : Prop := arenaNilUptoRow.holds Try.pinned (OpenSpec.upto arenaNilSpec)

/-- 'transomlaw02.ArenaGrows', WHERE WHAT IT READS IS OF BULK AT MOST 1048576: true; the input reads as it did. -/
def arenaGrowsUptoRow : OpenClaim := { program := "ytgabfoafchnpiaa", sum := "9a39f0907cb1db06a840084a40ad0a41cbdc9c7008e65d1d53db21db9f81b48d", func := "transom/transomlaw02.ArenaGrows", spec := "arenaGrows", apart := false, narrowed := true }
def ArenaGrowsUptoSaid : Prop := arenaGrowsUptoRow.holds Try.pinned (OpenSpec.upto arenaGrowsSpec)

/-- 'transomlaw01.WireRunes', WHERE WHAT IT READS IS OF BULK AT MOST 1048576: true; the input reads as it did. -/
def wireRunesUptoRow : OpenClaim := { program := "ytgabfoafchnpiaa", sum := "9a39f0907cb1db06a840084a40ad0a41cbdc9c7008e65d1d53db21db9f81b48d", func := "transom/transomlaw01.WireRunes", spec := "wireRunes", apart := false, narrowed := true }
def WireRunesUptoSaid : Prop := wireRunesUptoRow.holds Try.pinned (OpenSpec.upto wireRunesSpec)

/-- 'transomlaw01.WireMeters', WHERE WHAT IT READS IS OF BULK AT MOST 1048576: true; the input reads as it did. -/
def wireMetersUptoRow : OpenClaim := { program := "ytgabfoafchnpiaa", sum := "9a39f0907cb1db06a840084a40ad0a41cbdc9c7008e65d1d53db21db9f81b48d", func := "transom/transomlaw01.WireMeters", spec := "wireMeters", apart := false, narrowed := true }
def WireMetersUptoSaid : Prop := wireMetersUptoRow.holds Try.pinned (OpenSpec.upto wireMetersSpec)

/-- 'transomlaw01.WireBack', WHERE WHAT IT READS IS OF BULK AT MOST 1048576: true; the input reads as it did. -/
def wireBackUptoRow : OpenClaim := { program := "ytgabfoafchnpiaa", sum := "9a39f0907cb1db06a840084a40ad0a41cbdc9c7008e65d1d53db21db9f81b48d", func := "transom/transomlaw01.WireBack", spec := "wireBack", apart := false, narrowed := true }
def WireBackUptoSaid : Prop := wireBackUptoRow.holds Try.pinned (OpenSpec.upto wireBackSpec)

/-- 'transomlaw01.WireParts', WHERE WHAT IT READS IS OF BULK AT MOST 1048576: true; the input reads as it did. -/
def wirePartsUptoRow : OpenClaim := { program := "ytgabfoafchnpiaa", sum := "9a39f0907cb1db06a840084a40ad0a41cbdc9c7008e65d1d53db21db9f81b48d", func := "transom/transomlaw01.WireParts", spec := "wireParts", apart := false, narrowed := true }
def WirePartsUptoSaid : Prop := wirePartsUptoRow.holds Try.pinned (OpenSpec.upto wirePartsSpec)

/-- 'transomlaw01.WireSigns', WHERE WHAT IT READS IS OF BULK AT MOST 1048576: true; the input reads as it did. -/
def wireSignsUptoRow : OpenClaim := { program := "ytgabfoafchnpiaa", sum := "9a39f0907cb1db06a840084a40ad0a41cbdc9c7008e65d1d53db21db9f81b48d", func := "transom/transomlaw01.WireSigns", spec := "wireSigns", apart := false, narrowed := true }
def WireSignsUptoSaid : Prop := wireSignsUptoRow.holds Try.pinned (OpenSpec.upto wireSignsSpec)

/-- 'transomlaw02.ArenaPlays', WHERE WHAT IT READS IS OF BULK AT MOST 1048576: true; the input reads as it did. -/
def arenaPlaysUptoRow : OpenClaim := { program := "ytgabfoafchnpiaa", sum := "9a39f0907cb1db06a840084a40ad0a41cbdc9c7008e65d1d53db21db9f81b48d", func := "transom/transomlaw02.ArenaPlays", spec := "arenaPlays", unfollowed := true, recurses := true, apart := false, narrowed := true }
def ArenaPlaysUptoSaid : Prop := arenaPlaysUptoRow.holds Try.pinned (OpenSpec.upto arenaPlaysSpec)

/-- 'transomlaw01.WireLoads', WHERE WHAT IT READS IS OF BULK AT MOST 1048576: true; the input reads as it did. -/
def wireLoadsUptoRow : OpenClaim := { program := "ytgabfoafchnpiaa", sum := "9a39f0907cb1db06a840084a40ad0a41cbdc9c7008e65d1d53db21db9f81b48d", func := "transom/transomlaw01.WireLoads", spec := "wireLoads", apart := false, narrowed := true }
def WireLoadsUptoSaid : Prop := wireLoadsUptoRow.holds Try.pinned (OpenSpec.upto wireLoadsSpec)

end Rows
end Go.Proofs.Ytgabfoafchnpiaa
