/- Texts joined: WalkViewTrees. -/
import Derived.Test.YthilhndejhnlnaaZD33
section
/- ViewTrees: a value as a view, and back: the walk. -/
namespace Go.Proofs.Ythilhndejhnlnaa.Hand
open Go.RowKit Go.Proofs.Ythilhndejhnlnaa.QAll Go.Proofs.YthilhndejhnlnaaW.PrintWords Go.Proofs.YthilhndejhnlnaaW.PrintLast Go.Proofs.YthilhndejhnlnaaW.PrintMore Go.Proofs.Ythilhndejhnlnaa.Mk
set_option linter.unusedVariables false
set_option linter.unusedSimpArgs false
end Go.Proofs.Ythilhndejhnlnaa.Hand
end
