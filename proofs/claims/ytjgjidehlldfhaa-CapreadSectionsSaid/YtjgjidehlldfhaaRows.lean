/-
  No cell of these rows narrows 'for every input' (looked for: loops, veiled, ifaces, maps, wideKeys, modest, calm, conditions, laid).
  DERIVED. THE GIVEN ROWS OF THIS SEAT. 3 by the template 'for every input the law returns true; each argument reads behind the call as it read before'; 0 by the template 'total and deterministic' (their statements: YtjgjidehlldfhaaTotals.lean).
  GIVEN WITH THE SEED: the statements are not yours to turn. If you find one false, say at which input.
  Laid BY PROGRAM, IN A SANDBOX (cutbox-rows.mjs): the forced cells as the released guide's own fill.sh prints them over the translation a4c14f7926ab9a24… (all of the seat's roots in one cut). By AI agents, Wed Nov 11 2026. No macro, syntax, notation, axiom, sorry.
-/
import Derived.Test.YtjgjidehlldfhaaChecked
import GoSem.Claim
import GoSem.ClaimJoined
import GoSem.ClaimMapViews
import Derived.JoinedTies
import Derived.KernelRfl
namespace Go.Proofs.Ytjgjidehlldfhaa
/- THE CELL 'sum', in the pinned program and in every row, IS THE sha256 OF THE DUMP (.gsa) THAT YtjgjidehlldfhaaProg.lean LOADS. Nothing in Lean hashes anything: it is a label: what it is worth is what the hold of that sum in a sandbox is worth. -/
noncomputable def Try.pinned : Pinned := { name := "ytjgjidehlldfhaa", sum := "a4c14f7926ab9a245b2c4f09c1020875ded242d1dc1aa79c6114439210727cab", checked := Try.checked }
namespace Rows
def none {H : Type} : Left H := { results := [], args := [] }

/-- 'transomlaw08.CapreadSections': WHATEVER THE INPUT: true; the input reads as it did. -/
def capreadSectionsSpec : ChangeSpec := { name := "capreadSections", fn := fun _ => fun
  | [d1, d2, d3] => { results := [.lit (.bool true)], args := [d1, d2, d3] }
  | _ => none }
def capreadSectionsRow : OpenClaim := { program := "ytjgjidehlldfhaa", sum := "a4c14f7926ab9a245b2c4f09c1020875ded242d1dc1aa79c6114439210727cab", func := "transom/transomlaw08.CapreadSections", spec := "capreadSections", unfollowed := true, recurses := true, apart := false }
def CapreadSectionsSaid : Prop := capreadSectionsRow.holds Try.pinned (OpenSpec.ofChange capreadSectionsSpec)

/-- ITS FALSE NEIGHBOUR: 'it returns false'. Refute it at one input. -/
def capreadSectionsWrong : ChangeSpec := { name := "capreadSections", fn := fun _ => fun
  | [d1, d2, d3] => { results := [.lit (.bool false)], args := [d1, d2, d3] }
  | _ => none }
def CapreadSectionsWrongFalsely : Prop := capreadSectionsRow.holds Try.pinned (OpenSpec.ofChange capreadSectionsWrong)

/-- 'transomlaw08.CapreadBudgets': WHATEVER THE INPUT: true; the input reads as it did. -/
def capreadBudgetsSpec : ChangeSpec := { name := "capreadBudgets", fn := fun _ => fun
  | [d1, d2, d3, d4, d5] => { results := [.lit (.bool true)], args := [d1, d2, d3, d4, d5] }
  | _ => none }
def capreadBudgetsRow : OpenClaim := { program := "ytjgjidehlldfhaa", sum := "a4c14f7926ab9a245b2c4f09c1020875ded242d1dc1aa79c6114439210727cab", func := "transom/transomlaw08.CapreadBudgets", spec := "capreadBudgets", unfollowed := true, recurses := true, apart := false }
def CapreadBudgetsSaid : Prop := capreadBudgetsRow.holds Try.pinned (OpenSpec.ofChange capreadBudgetsSpec)

/-- ITS FALSE NEIGHBOUR: 'it returns false'. Refute it at one input. -/
def capreadBudgetsWrong : ChangeSpec := { name := "capreadBudgets", fn := fun _ => fun
  | [d1, d2, d3, d4, d5] => { results := [.lit (.bool false)], args := [d1, d2, d3, d4, d5] }
  | _ => none }
def CapreadBudgetsWrongFalsely : Prop := capreadBudgetsRow.holds Try.pinned (OpenSpec.ofChange capreadBudgetsWrong)

/-- 'transomlaw08.CapreadBack': WHATEVER THE INPUT: true; the input reads as it did. -/
def capreadBackSpec : ChangeSpec := { name := "capreadBack", fn := fun _ => fun
  | [d1, d2] => { results := [.lit (.bool true)], args := [d1, d2] }
  | _ => none }
def capreadBackRow : OpenClaim := { program := "ytjgjidehlldfhaa", sum := "a4c14f7926ab9a245b2c4f09c1020875ded242d1dc1aa79c6114439210727cab", func := "transom/transomlaw08.CapreadBack", spec := "capreadBack", unfollowed := true, recurses := true, apart := false }
def CapreadBackSaid : Prop := capreadBackRow.holds Try.pinned (OpenSpec.ofChange capreadBackSpec)

/-- ITS FALSE NEIGHBOUR: 'it returns false'. Refute it at one input. -/
def capreadBackWrong : ChangeSpec := { name := "capreadBack", fn := fun _ => fun
  | [d1, d2] => { results := [.lit (.bool false)], args := [d1, d2] }
  | _ => none }
def CapreadBackWrongFalsely : Prop := capreadBackRow.holds Try.pinned (OpenSpec.ofChange capreadBackWrong)

/- THE SECOND FORM. 'bulk': how many values and letters a reading holds, each counted each time it is reached (what is shared counts as often as it is met; a slice's spare places count too). A statement '..UptoSaid' is the law's where the arguments, and the package variables that the reading takes, are together of bulk at most 1048576: NARROWER than '..Said'. Prove '..Said' where nothing that the law and all that it calls make is longer than what came in: it says more and counts as full. Else prove '..UptoSaid'. A law counts once. -/
mutual
def uptoBulk {H : Type} : DataW H → Nat
  | .lit (.string bytes) => bytes.length + 1
  | .lit _ => 1
  | .nil => 1
  | .ptr d => uptoBulk d + 1
  | .slice elems spare => uptoBulkAll elems + uptoBulkAll spare + 1
  | .agg parts => uptoBulkAll parts + 1
  | .iface _ d => uptoBulk d + 1
  | .map entries => uptoBulkEntries entries + 1
  | .held _ => 1
def uptoBulkAll {H : Type} : List (DataW H) → Nat
  | [] => 0
  | d :: r => uptoBulk d + uptoBulkAll r
def uptoBulkEntries {H : Type} : List (Lit × DataW H) → Nat
  | [] => 0
  | x :: r => uptoBulkEntry x + uptoBulkEntries r
def uptoBulkEntry {H : Type} : Lit × DataW H → Nat
  | (.string bytes, d) => bytes.length + uptoBulk d + 1
  | (_, d) => uptoBulk d + 1
 end
def uptoSmall : (H : Type) → List (DataW H) → Bool := fun _ ds => decide (uptoBulkAll ds ≤ 1048576)
def OpenSpec.upto (s : _root_.Go.ChangeSpec) : _root_.Go.OpenSpec := { _root_.Go.OpenSpec.ofChange s with cond := some uptoSmall }

/-- 'transomlaw08.CapreadSections', WHERE WHAT IT READS IS OF BULK AT MOST 1048576: true; the input reads as it did. -/
def capreadSectionsUptoRow : OpenClaim := { program := "ytjgjidehlldfhaa", sum := "a4c14f7926ab9a245b2c4f09c1020875ded242d1dc1aa79c6114439210727cab", func := "transom/transomlaw08.CapreadSections", spec := "capreadSections", unfollowed := true, recurses := true, apart := false, narrowed := true }
def CapreadSectionsUptoSaid : Prop := capreadSectionsUptoRow.holds Try.pinned (OpenSpec.upto capreadSectionsSpec)

/-- 'transomlaw08.CapreadBudgets', WHERE WHAT IT READS IS OF BULK AT MOST 1048576: true; the input reads as it did. -/
def capreadBudgetsUptoRow : OpenClaim := { program := "ytjgjidehlldfhaa", sum := "a4c14f7926ab9a245b2c4f09c1020875ded242d1dc1aa79c6114439210727cab", func := "transom/transomlaw08.CapreadBudgets", spec := "capreadBudgets", unfollowed := true, recurses := true, apart := false, narrowed := true }
def CapreadBudgetsUptoSaid : Prop := capreadBudgetsUptoRow.holds Try.pinned (OpenSpec.upto capreadBudgetsSpec)

/-- 'transomlaw08.CapreadBack', WHERE WHAT IT READS IS OF BULK AT MOST 1048576: true; the input reads as it did. -/
def capreadBackUptoRow : OpenClaim := { program := "ytjgjidehlldfhaa", sum := "a4c14f7926ab9a245b2c4f09c1020875ded242d1dc1aa79c6114439210727cab", func := "transom/transomlaw08.CapreadBack", spec := "capreadBack", unfollowed := true, recurses := true, apart := false, narrowed := true }
def CapreadBackUptoSaid : Prop := capreadBackUptoRow.holds Try.pinned (OpenSpec.upto capreadBackSpec)

end Rows
end Go.Proofs.Ytjgjidehlldfhaa
