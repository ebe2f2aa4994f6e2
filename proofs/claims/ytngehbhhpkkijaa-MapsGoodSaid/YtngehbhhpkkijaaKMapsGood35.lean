/- leaf's reference: Pairs. -/
import Derived.Test.YtngehbhhpkkijaaKMapsGood10
import Derived.Laws.StructEq
import Derived.Test.YtngehbhhpkkijaaKMapsGood34
import Derived.Test.YtngehbhhpkkijaaKMapsGood32
namespace Go.Proofs.Ytngehbhhpkkijaa
attribute [local simp] BigFrame.eval_const BigFrame.eval_global BigFrame.eval_func
set_option linter.unusedVariables false
set_option linter.unusedSimpArgs false
open Go.RowKit

end Go.Proofs.Ytngehbhhpkkijaa

/- Trees in laws: what is got, rows compared. -/
namespace Go.Proofs.Ytngehbhhpkkijaa
set_option linter.unusedVariables false
set_option linter.unusedSimpArgs false
open Go.RowKit Go.Maps
section
variable {H : Nat} {A0 : World} {R : List Thing} {sb cap : Nat} {room : Int} {B : Option Addr} {vs : List Value} {N : List Nd} {root c : Nat} {P Q : List Pr}
end
end Go.Proofs.Ytngehbhhpkkijaa

/- Maps as rows of pairs, plain: look-ups behind a put. -/
namespace Go.Proofs.Ytngehbhhpkkijaa
set_option linter.unusedVariables false
set_option linter.unusedSimpArgs false
open Go.RowKit Go.Maps
end Go.Proofs.Ytngehbhhpkkijaa
