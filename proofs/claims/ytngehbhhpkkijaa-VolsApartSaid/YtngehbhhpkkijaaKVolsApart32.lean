/- leaf's reference: Pairs. -/
import Derived.Test.YtngehbhhpkkijaaKVolsApart10
import Derived.Laws.StructEq
import Derived.Test.YtngehbhhpkkijaaKVolsApart23
import Derived.Test.YtngehbhhpkkijaaKVolsApart31
namespace Go.Proofs.Ytngehbhhpkkijaa
attribute [local simp] BigFrame.eval_const BigFrame.eval_global BigFrame.eval_func
set_option linter.unusedVariables false
set_option linter.unusedSimpArgs false
open Go.RowKit

end Go.Proofs.Ytngehbhhpkkijaa

/- Trees in laws: what is got, rows compared. -/
namespace Go.Proofs.Ytngehbhhpkkijaa
set_option linter.unusedVariables false
set_option linter.unusedSimpArgs false
open Go.RowKit Go.Maps
section
variable {H : Nat} {A0 : World} {R : List Thing} {sb cap : Nat} {room : Int} {B : Option Addr} {vs : List Value} {N : List Nd} {root c : Nat} {P Q : List Pr}
end
end Go.Proofs.Ytngehbhhpkkijaa
