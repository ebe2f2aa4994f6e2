/- tierceref05: Read. -/
import Derived.Test.YtakkhglbdljfiaaGreatDoorKStoreShadows23
namespace Go.Proofs.YtakkhglbdljfiaaGreatDoor
attribute [local simp] BigFrame.eval_const BigFrame.eval_global BigFrame.eval_func
set_option linter.unusedVariables false
set_option linter.unusedSimpArgs false
open Go.RowKit

end Go.Proofs.YtakkhglbdljfiaaGreatDoor
