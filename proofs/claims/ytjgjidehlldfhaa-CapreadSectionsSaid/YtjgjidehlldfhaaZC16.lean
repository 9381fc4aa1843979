/- Texts joined: HSi. -/
import Derived.Test.YtjgjidehlldfhaaProg
import Derived.Below
import Derived.Deep.Draws
import Derived.Deep.AppendLies
import Derived.Maps.AppendAt
import Derived.OwnWalk
import Derived.Laws.BytesArg
import Derived.Laws.MakeOwn
import Derived.Laws.OwnMore
import Derived.Deep.OwnRows
import Derived.Tactics
import Derived.Lib.ConvBytes
import Derived.Laws.Slices
import Derived.WalkKit
import Derived.KernelRfl
import Derived.RowKit3
import Derived.Deep.LoopGhost
import Derived.Deep.QuietTactic
import Derived.BigQuiet
import Derived.WideLaws
import Derived.Deep.DeepCutAuto
import Derived.Deep.CutBlock
import Derived.Deep.RegionHeld3
import Derived.Laws.Rows
import Derived.Lib.AppendStr
import Derived.ArgAppend
import Derived.Laws.IdiomCopy
import Derived.OrdersHeld
import Derived.Laws.BitsLemmas
import Derived.RowKit
import Derived.Test.YtjgjidehlldfhaaZC5
import Derived.Test.YtjgjidehlldfhaaZC6
import Derived.Test.YtjgjidehlldfhaaZC7
import Derived.Test.YtjgjidehlldfhaaZC8
import Derived.Test.YtjgjidehlldfhaaZC9
import Derived.Test.YtjgjidehlldfhaaZC10
import Derived.Test.YtjgjidehlldfhaaZC11
import Derived.Test.YtjgjidehlldfhaaZC12
import Derived.Test.YtjgjidehlldfhaaZC13
import Derived.Test.YtjgjidehlldfhaaZC14
section
/- words that shorten printed texts. -/
namespace Go.Proofs.Ytjgjidehlldfhaa.QAll
open Go.RowKit Go.Proofs.YtjgjidehlldfhaaW.PrintWords Go.Proofs.YtjgjidehlldfhaaW.PrintLast Go.Proofs.YtjgjidehlldfhaaW.PrintMore
theorem hB {Q P : Prop} (h : Aside0 Q) (e : Q → P := by intro h_; repeat (first | (with_reducible first | exact h_ | apply below_alloc | apply pw_below_drewN | apply below_drew1) | refine below_set ?_ (Aside0.out (by assumption)) | exact h_)) : P := e h.out
end Go.Proofs.Ytjgjidehlldfhaa.QAll
end
