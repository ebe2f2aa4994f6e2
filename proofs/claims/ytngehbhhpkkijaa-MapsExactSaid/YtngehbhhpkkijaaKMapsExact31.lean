/- Numbers turned: int to uint and back, the rest of a uint. -/
import Derived.Test.YtngehbhhpkkijaaKMapsExact06
import Derived.Test.YtngehbhhpkkijaaKMapsExact02
namespace Go.Proofs.Ytngehbhhpkkijaa
set_option linter.unusedVariables false
set_option linter.unusedSimpArgs false
open Go.RowKit Go.Maps
section
variable {w : World} {o : Oper} {ρ : Operand → Value} {t u : TypeId} {x y : Operand}
end
end Go.Proofs.Ytngehbhhpkkijaa
