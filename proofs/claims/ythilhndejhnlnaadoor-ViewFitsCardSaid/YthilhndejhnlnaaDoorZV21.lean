/- Texts joined: M4. -/
import Derived.Test.YthilhndejhnlnaaDoorZV18
import Derived.Test.YthilhndejhnlnaaDoorZV19
import Derived.Test.YthilhndejhnlnaaDoorZV20
section
/- The makers' plain law, 4: a byte of the source; a number out of it. -/
namespace Go.Proofs.YthilhndejhnlnaaDoor.Mk
open Go.RowKit Go.Proofs.YthilhndejhnlnaaDoor.QAll Go.Proofs.YthilhndejhnlnaaDoorW.PrintWords Go.Proofs.YthilhndejhnlnaaDoorW.PrintLast Go.Proofs.YthilhndejhnlnaaDoorW.PrintMore Go.Proofs.YthilhndejhnlnaaDoor.Hand
set_option linter.unusedVariables false
def BytesOk (B : List Int) : Prop := (∀ x ∈ B, 0 ≤ x ∧ x < 256) ∧ B.length ≤ 1099511627776
section
variable {en : List S58} {B : List Int} {st : List S50} {root : Int}
end
end Go.Proofs.YthilhndejhnlnaaDoor.Mk
end
