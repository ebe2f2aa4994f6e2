/- trees: drop (printed by XTrDp.gen.py). -/
import Derived.Test.YtngehbhhpkkijaaKMapsGood17
import Derived.Test.YtngehbhhpkkijaaKMapsGood25
import Derived.Test.YtngehbhhpkkijaaKMapsGood26
namespace Go.Proofs.Ytngehbhhpkkijaa
attribute [local simp] BigFrame.eval_const BigFrame.eval_global BigFrame.eval_func
set_option linter.unusedVariables false
set_option linter.unusedSimpArgs false
open Go.RowKit Go.Maps

end Go.Proofs.Ytngehbhhpkkijaa
