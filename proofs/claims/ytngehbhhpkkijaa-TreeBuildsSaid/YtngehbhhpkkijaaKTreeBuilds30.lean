/- trees: drop (printed by XTrDp.gen.py). -/
import Derived.Test.YtngehbhhpkkijaaKTreeBuilds19
import Derived.Test.YtngehbhhpkkijaaKTreeBuilds28
import Derived.Test.YtngehbhhpkkijaaKTreeBuilds29
namespace Go.Proofs.Ytngehbhhpkkijaa
attribute [local simp] BigFrame.eval_const BigFrame.eval_global BigFrame.eval_func
set_option linter.unusedVariables false
set_option linter.unusedSimpArgs false
open Go.RowKit Go.Maps

end Go.Proofs.Ytngehbhhpkkijaa
