-- written by a program of this session (turned from a print)
import Derived.Test.YtgabfoafchnpiaaProg
import Derived.Below
import Derived.Deep.Draws
import Derived.Deep.AppendLies
import Derived.Maps.AppendAt
import Derived.OwnWalk
import Derived.Laws.BytesArg
import Derived.Laws.MakeOwn
import Derived.Laws.OwnMore
import Derived.Deep.OwnRows
import Derived.Tactics
import Derived.Lib.ConvBytes
import Derived.Laws.Slices
import Derived.WalkKit
import Derived.KernelRfl
import Derived.RowKit3
import Derived.Deep.LoopGhost
import Derived.Deep.QuietTactic
import Derived.BigQuiet
import Derived.WideLaws
import Derived.Deep.DeepCutAuto
import Derived.Deep.CutBlock
import Derived.Deep.RegionHeld3
import Derived.Laws.Rows
import Derived.Lib.AppendStr
import Derived.ArgAppend
import Derived.Laws.IdiomCopy
import Derived.OrdersHeld
import Derived.Laws.BitsLemmas
import Derived.RowKit
import Derived.Test.YtgabfoafchnpiaaWWords
import Derived.Test.YtgabfoafchnpiaaWLast
import Derived.Test.YtgabfoafchnpiaaWTab
import Derived.Test.YtgabfoafchnpiaaWFour
import Derived.Test.YtgabfoafchnpiaaWQPut
import Derived.Test.YtgabfoafchnpiaaWApart
import Derived.Test.YtgabfoafchnpiaaWArr
import Derived.Test.YtgabfoafchnpiaaWZeros
import Derived.Test.YtgabfoafchnpiaaWFoot
import Derived.Test.YtgabfoafchnpiaaWKept
import Derived.Test.YtgabfoafchnpiaaWShare
import Derived.Test.YtgabfoafchnpiaaWN
import Derived.Test.YtgabfoafchnpiaaWFootNe
import Derived.Test.YtgabfoafchnpiaaWAt
import Derived.Test.YtgabfoafchnpiaaWEqStruct
import Derived.Test.YtgabfoafchnpiaaWRepsOne
import Derived.Test.YtgabfoafchnpiaaWInv
import Derived.Test.YtgabfoafchnpiaaWInvWords
import Derived.Test.YtgabfoafchnpiaaWGuard
import Derived.Test.YtgabfoafchnpiaaWNEv
import Derived.Test.YtgabfoafchnpiaaWMore
namespace Go.Proofs.Ytgabfoafchnpiaa.QAll
open Go.RowKit Go.Proofs.YtgabfoafchnpiaaW.PrintWords Go.Proofs.YtgabfoafchnpiaaW.PrintLast Go.Proofs.YtgabfoafchnpiaaW.PrintMore
attribute [local go_sem] max2_int min2_int max_two min_two max_three min_three max_four min_four   -- for this text's walks alone
set_option linter.unusedVariables false
set_option linter.unusedSimpArgs false



def errW : Option Int → Value
  | none => .nilIface
  | some c => .iface 0 (.int .i64 c)
theorem errW_none : errW none = .nilIface := rfl
theorem errW_some (c : Int) : errW (some c) = .iface 0 (.int .i64 c) := rfl

theorem info3 : (Try.prog.info? 3).map (fun i => (i.zero, i.size, i.bytes)) = some (some (.int .i64 0), 1, 8) := by kernel_rfl
theorem info5 : (Try.prog.info? 5).map (fun i => (i.zero, i.size, i.bytes)) = some (some (.int .u8 0), 1, 1) := by kernel_rfl
-- the values' own types

end Go.Proofs.Ytgabfoafchnpiaa.QAll
