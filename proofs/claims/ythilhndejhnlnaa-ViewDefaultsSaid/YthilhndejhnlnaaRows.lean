/-
  No cell of these rows narrows 'for every input' (looked for: loops, veiled, ifaces, maps, wideKeys, modest, calm, conditions, laid).
  DERIVED. THE GIVEN ROWS OF THIS SEAT. 3 by the template 'for every input the law returns true; each argument reads behind the call as it read before'; 0 by the template 'total and deterministic' (their statements: YthilhndejhnlnaaTotals.lean).
  GIVEN WITH THE SEED: the statements are not yours to turn. If you find one false, say at which input.
  Laid BY PROGRAM, IN A SANDBOX (cutbox-rows.mjs): the forced cells as the released guide's own fill.sh prints them over the translation 752db8ba4da6eb68… (all of the seat's roots in one cut). By AI agents, Wed Nov 11 2026. No macro, syntax, notation, axiom, sorry.
-/
import Derived.Test.YthilhndejhnlnaaChecked
import GoSem.Claim
import GoSem.ClaimJoined
import GoSem.ClaimMapViews
import Derived.JoinedTies
import Derived.KernelRfl
namespace Go.Proofs.Ythilhndejhnlnaa
/- THE CELL 'sum', in the pinned program and in every row, IS THE sha256 OF THE DUMP (.gsa) THAT YthilhndejhnlnaaProg.lean LOADS. Nothing in Lean hashes anything: it is a label: what it is worth is what the hold of that sum in a sandbox is worth. -/
noncomputable def Try.pinned : Pinned := { name := "ythilhndejhnlnaa", sum := "752db8ba4da6eb682f911a5174d90830f0cda0a3cc477c35a389f0cd95fd93b3", checked := Try.checked }
namespace Rows
def none {H : Type} : Left H := { results := [], args := [] }

/-- 'transomlaw07.ViewDeep': WHATEVER THE INPUT: true; the input reads as it did. -/
def viewDeepSpec : ChangeSpec := { name := "viewDeep", fn := fun _ => fun
  | [d1, d2] => { results := [.lit (.bool true)], args := [d1, d2] }
  | _ => none }
def viewDeepRow : OpenClaim := { program := "ythilhndejhnlnaa", sum := "752db8ba4da6eb682f911a5174d90830f0cda0a3cc477c35a389f0cd95fd93b3", func := "transom/transomlaw07.ViewDeep", spec := "viewDeep", unfollowed := true, recurses := true, apart := false }
def ViewDeepSaid : Prop := viewDeepRow.holds Try.pinned (OpenSpec.ofChange viewDeepSpec)

/-- ITS FALSE NEIGHBOUR: 'it returns false'. Refute it at one input. -/
def viewDeepWrong : ChangeSpec := { name := "viewDeep", fn := fun _ => fun
  | [d1, d2] => { results := [.lit (.bool false)], args := [d1, d2] }
  | _ => none }
def ViewDeepWrongFalsely : Prop := viewDeepRow.holds Try.pinned (OpenSpec.ofChange viewDeepWrong)

/-- 'transomlaw07.ViewDefaults': WHATEVER THE INPUT: true; the input reads as it did. -/
def viewDefaultsSpec : ChangeSpec := { name := "viewDefaults", fn := fun _ => fun
  | [d1, d2] => { results := [.lit (.bool true)], args := [d1, d2] }
  | _ => none }
def viewDefaultsRow : OpenClaim := { program := "ythilhndejhnlnaa", sum := "752db8ba4da6eb682f911a5174d90830f0cda0a3cc477c35a389f0cd95fd93b3", func := "transom/transomlaw07.ViewDefaults", spec := "viewDefaults", unfollowed := true, recurses := true, apart := false }
def ViewDefaultsSaid : Prop := viewDefaultsRow.holds Try.pinned (OpenSpec.ofChange viewDefaultsSpec)

/-- ITS FALSE NEIGHBOUR: 'it returns false'. Refute it at one input. -/
def viewDefaultsWrong : ChangeSpec := { name := "viewDefaults", fn := fun _ => fun
  | [d1, d2] => { results := [.lit (.bool false)], args := [d1, d2] }
  | _ => none }
def ViewDefaultsWrongFalsely : Prop := viewDefaultsRow.holds Try.pinned (OpenSpec.ofChange viewDefaultsWrong)

/-- 'transomlaw07.ViewTrees': WHATEVER THE INPUT: true; the input reads as it did. -/
def viewTreesSpec : ChangeSpec := { name := "viewTrees", fn := fun _ => fun
  | [d1, d2] => { results := [.lit (.bool true)], args := [d1, d2] }
  | _ => none }
def viewTreesRow : OpenClaim := { program := "ythilhndejhnlnaa", sum := "752db8ba4da6eb682f911a5174d90830f0cda0a3cc477c35a389f0cd95fd93b3", func := "transom/transomlaw07.ViewTrees", spec := "viewTrees", unfollowed := true, recurses := true, apart := false }
def ViewTreesSaid : Prop := viewTreesRow.holds Try.pinned (OpenSpec.ofChange viewTreesSpec)

/-- ITS FALSE NEIGHBOUR: 'it returns false'. Refute it at one input. -/
def viewTreesWrong : ChangeSpec := { name := "viewTrees", fn := fun _ => fun
  | [d1, d2] => { results := [.lit (.bool false)], args := [d1, d2] }
  | _ => none }
def ViewTreesWrongFalsely : Prop := viewTreesRow.holds Try.pinned (OpenSpec.ofChange viewTreesWrong)

/- THE SECOND FORM. 'bulk': how many values and letters a reading holds, each counted each time it is reached (what is shared counts as often as it is met; a slice's spare places count too). A statement '..UptoSaid' is the law's where the arguments, and the package variables that the reading takes, are together of bulk at most 1048576: NARROWER than '..Said'. Prove '..Said' where nothing that the law and all that it calls make is longer than what came in: it says more and counts as full. Else prove '..UptoSaid'. A law counts once. -/
mutual
def uptoBulk {H : Type} : DataW H → Nat
  | .lit (.string bytes) => bytes.length + 1
  | .lit _ => 1
  | .nil => 1
  | .ptr d => uptoBulk d + 1
  | .slice elems spare => uptoBulkAll elems + uptoBulkAll spare + 1
  | .agg parts => uptoBulkAll parts + 1
  | .iface _ d => uptoBulk d + 1
  | .map entries => uptoBulkEntries entries + 1
  | .held _ => 1
def uptoBulkAll {H : Type} : List (DataW H) → Nat
  | [] => 0
  | d :: r => uptoBulk d + uptoBulkAll r
def uptoBulkEntries {H : Type} : List (Lit × DataW H) → Nat
  | [] => 0
  | x :: r => uptoBulkEntry x + uptoBulkEntries r
def uptoBulkEntry {H : Type} : Lit × DataW H → Nat
  | (.string bytes, d) => bytes.length + uptoBulk d + 1
  | (_, d) => uptoBulk d + 1
 end
def uptoSmall : (H : Type) → List (DataW H) → Bool := fun _ ds => decide (uptoBulkAll ds ≤ 1048576)
def OpenSpec.upto (s : _root_.Go.ChangeSpec) : _root_.Go.OpenSpec := { _root_.Go.OpenSpec.ofChange s with cond := some uptoSmall }

/-- 'transomlaw07.ViewDeep', WHERE WHAT IT READS IS OF BULK AT MOST 1048576: true; the input reads as it did. -/
def viewDeepUptoRow : OpenClaim := { program := "ythilhndejhnlnaa", sum := "752db8ba4da6eb682f911a5174d90830f0cda0a3cc477c35a389f0cd95fd93b3", func := "transom/transomlaw07.ViewDeep", spec := "viewDeep", unfollowed := true, recurses := true, apart := false, narrowed := true }
def ViewDeepUptoSaid : Prop := viewDeepUptoRow.holds Try.pinned (OpenSpec.upto viewDeepSpec)

/-- 'transomlaw07.ViewDefaults', WHERE WHAT IT READS IS OF BULK AT MOST 1048576: true; the input reads as it did. -/
def viewDefaultsUptoRow : OpenClaim := { program := "ythilhndejhnlnaa", sum := "752db8ba4da6eb682f911a5174d90830f0cda0a3cc477c35a389f0cd95fd93b3", func := "transom/transomlaw07.ViewDefaults", spec := "viewDefaults", unfollowed := true, recurses := true, apart := false, narrowed := true }
def ViewDefaultsUptoSaid : Prop := viewDefaultsUptoRow.holds Try.pinned (OpenSpec.upto viewDefaultsSpec)

/-- 'transomlaw07.ViewTrees', WHERE WHAT IT READS IS OF BULK AT MOST 1048576: true; the input reads as it did. -/
def viewTreesUptoRow : OpenClaim := { program := "ythilhndejhnlnaa", sum := "752db8ba4da6eb682f911a5174d90830f0cda0a3cc477c35a389f0cd95fd93b3", func := "transom/transomlaw07.ViewTrees", spec := "viewTrees", unfollowed := true, recurses := true, apart := false, narrowed := true }
def ViewTreesUptoSaid : Prop := viewTreesUptoRow.holds Try.pinned (OpenSpec.upto viewTreesSpec)

end Rows
end Go.Proofs.Ythilhndejhnlnaa
