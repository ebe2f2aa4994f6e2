/- grids' law: GridExact (printed by XGrJ.gen.py). -/
import Derived.Test.YtgdlnfljfiageaaDoorKGridCells22
import Derived.Test.YtgdlnfljfiageaaDoorKGridCells18
import Derived.Test.YtgdlnfljfiageaaDoorKGridCells19
namespace Go.Proofs.YtgdlnfljfiageaaDoor
attribute [local simp] BigFrame.eval_const BigFrame.eval_global BigFrame.eval_func
set_option linter.unusedVariables false
set_option linter.unusedSimpArgs false
open Go.RowKit

end Go.Proofs.YtgdlnfljfiageaaDoor
