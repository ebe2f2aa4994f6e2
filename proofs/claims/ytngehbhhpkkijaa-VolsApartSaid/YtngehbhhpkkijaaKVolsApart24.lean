/- trees: Get (printed by XTrG.gen.py). -/
import Derived.Test.YtngehbhhpkkijaaKVolsApart17
namespace Go.Proofs.Ytngehbhhpkkijaa
attribute [local simp] BigFrame.eval_const BigFrame.eval_global BigFrame.eval_func
set_option linter.unusedVariables false
set_option linter.unusedSimpArgs false
open Go.RowKit Go.Maps

end Go.Proofs.Ytngehbhhpkkijaa
