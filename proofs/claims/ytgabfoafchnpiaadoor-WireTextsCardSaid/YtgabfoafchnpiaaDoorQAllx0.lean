-- written by a program of this session (turned from a print)
import Derived.Test.YtgabfoafchnpiaaDoorProg
import Derived.Below
import Derived.Deep.Draws
import Derived.Deep.AppendLies
import Derived.Maps.AppendAt
import Derived.OwnWalk
import Derived.Laws.BytesArg
import Derived.Laws.MakeOwn
import Derived.Laws.OwnMore
import Derived.Deep.OwnRows
import Derived.Tactics
import Derived.Lib.ConvBytes
import Derived.Laws.Slices
import Derived.WalkKit
import Derived.KernelRfl
import Derived.RowKit3
import Derived.Deep.LoopGhost
import Derived.Deep.QuietTactic
import Derived.BigQuiet
import Derived.WideLaws
import Derived.Deep.DeepCutAuto
import Derived.Deep.CutBlock
import Derived.Deep.RegionHeld3
import Derived.Laws.Rows
import Derived.Lib.AppendStr
import Derived.ArgAppend
import Derived.Laws.IdiomCopy
import Derived.OrdersHeld
import Derived.Laws.BitsLemmas
import Derived.RowKit
import Derived.Test.YtgabfoafchnpiaaDoorWWords
import Derived.Test.YtgabfoafchnpiaaDoorWLast
import Derived.Test.YtgabfoafchnpiaaDoorWTab
import Derived.Test.YtgabfoafchnpiaaDoorWFour
import Derived.Test.YtgabfoafchnpiaaDoorWQPut
import Derived.Test.YtgabfoafchnpiaaDoorWApart
import Derived.Test.YtgabfoafchnpiaaDoorWArr
import Derived.Test.YtgabfoafchnpiaaDoorWZeros
import Derived.Test.YtgabfoafchnpiaaDoorWFoot
import Derived.Test.YtgabfoafchnpiaaDoorWKept
import Derived.Test.YtgabfoafchnpiaaDoorWShare
import Derived.Test.YtgabfoafchnpiaaDoorWN
import Derived.Test.YtgabfoafchnpiaaDoorWFootNe
import Derived.Test.YtgabfoafchnpiaaDoorWAt
import Derived.Test.YtgabfoafchnpiaaDoorWEqStruct
import Derived.Test.YtgabfoafchnpiaaDoorWRepsOne
import Derived.Test.YtgabfoafchnpiaaDoorWInv
import Derived.Test.YtgabfoafchnpiaaDoorWInvWords
import Derived.Test.YtgabfoafchnpiaaDoorWGuard
import Derived.Test.YtgabfoafchnpiaaDoorWNEv
import Derived.Test.YtgabfoafchnpiaaDoorWMore
namespace Go.Proofs.YtgabfoafchnpiaaDoor.QAll
open Go.RowKit Go.Proofs.YtgabfoafchnpiaaDoorW.PrintWords Go.Proofs.YtgabfoafchnpiaaDoorW.PrintLast Go.Proofs.YtgabfoafchnpiaaDoorW.PrintMore
attribute [local go_sem] max2_int min2_int max_two min_two max_three min_three max_four min_four   -- for this text's walks alone
set_option linter.unusedVariables false
set_option linter.unusedSimpArgs false



def errW : Option Int → Value
  | none => .nilIface
  | some c => .iface 0 (.int .i64 c)
theorem errW_none : errW none = .nilIface := rfl
theorem errW_some (c : Int) : errW (some c) = .iface 0 (.int .i64 c) := rfl

theorem info5 : (Tryd.prog.info? 5).map (fun i => (i.zero, i.size, i.bytes)) = some (some (.int .u8 0), 1, 1) := by kernel_rfl
-- the values' own types

end Go.Proofs.YtgabfoafchnpiaaDoor.QAll
