/- What fits, plain. -/
import Derived.Test.YtgdlnfljfiageaaDoorKGridCells10
import Derived.Test.YtgdlnfljfiageaaDoorKGridCells04
import Derived.Test.YtgdlnfljfiageaaDoorKGridCells07
namespace Go.Proofs.YtgdlnfljfiageaaDoor
set_option linter.unusedVariables false
set_option linter.unusedSimpArgs false
end Go.Proofs.YtgdlnfljfiageaaDoor

/- Numbers turned: int to uint and back, the rest of a uint. -/
namespace Go.Proofs.YtgdlnfljfiageaaDoor
set_option linter.unusedVariables false
set_option linter.unusedSimpArgs false
open Go.RowKit Go.Maps
section
variable {w : World} {o : Oper} {ρ : Operand → Value} {t u : TypeId} {x y : Operand}
end
end Go.Proofs.YtgdlnfljfiageaaDoor
