/- grids' law: GridFits (printed by XGrI.gen.py). -/
import Derived.Test.YtgdlnfljfiageaaDoorKGridBack18
import Derived.Test.YtgdlnfljfiageaaDoorKGridBack19
namespace Go.Proofs.YtgdlnfljfiageaaDoor
attribute [local simp] BigFrame.eval_const BigFrame.eval_global BigFrame.eval_func
set_option linter.unusedVariables false
set_option linter.unusedSimpArgs false
open Go.RowKit

end Go.Proofs.YtgdlnfljfiageaaDoor
