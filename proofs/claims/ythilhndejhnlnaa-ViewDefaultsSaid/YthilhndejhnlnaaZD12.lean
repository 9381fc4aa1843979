/- Texts joined: HSi. -/
import Derived.Test.YthilhndejhnlnaaProg
import Derived.Below
import Derived.Deep.Draws
import Derived.Deep.AppendLies
import Derived.Maps.AppendAt
import Derived.OwnWalk
import Derived.Laws.BytesArg
import Derived.Laws.MakeOwn
import Derived.Laws.OwnMore
import Derived.Deep.OwnRows
import Derived.Tactics
import Derived.Lib.ConvBytes
import Derived.Laws.Slices
import Derived.WalkKit
import Derived.KernelRfl
import Derived.RowKit3
import Derived.Deep.LoopGhost
import Derived.Deep.QuietTactic
import Derived.BigQuiet
import Derived.WideLaws
import Derived.Deep.DeepCutAuto
import Derived.Deep.CutBlock
import Derived.Deep.RegionHeld3
import Derived.Laws.Rows
import Derived.Lib.AppendStr
import Derived.ArgAppend
import Derived.Laws.IdiomCopy
import Derived.OrdersHeld
import Derived.Laws.BitsLemmas
import Derived.RowKit
import Derived.Test.YthilhndejhnlnaaZD1
import Derived.Test.YthilhndejhnlnaaZD2
import Derived.Test.YthilhndejhnlnaaZD3
import Derived.Test.YthilhndejhnlnaaZD4
import Derived.Test.YthilhndejhnlnaaZD5
import Derived.Test.YthilhndejhnlnaaZD6
import Derived.Test.YthilhndejhnlnaaZD7
import Derived.Test.YthilhndejhnlnaaZD8
import Derived.Test.YthilhndejhnlnaaZD9
import Derived.Test.YthilhndejhnlnaaZD10
section
/- words that shorten printed texts. -/
namespace Go.Proofs.Ythilhndejhnlnaa.QAll
open Go.RowKit Go.Proofs.YthilhndejhnlnaaW.PrintWords Go.Proofs.YthilhndejhnlnaaW.PrintLast Go.Proofs.YthilhndejhnlnaaW.PrintMore
theorem hB {Q P : Prop} (h : Aside0 Q) (e : Q → P := by intro h_; repeat (first | (with_reducible first | exact h_ | apply below_alloc | apply pw_below_drewN | apply below_drew1) | refine below_set ?_ (Aside0.out (by assumption)) | exact h_)) : P := e h.out
end Go.Proofs.Ythilhndejhnlnaa.QAll
end
