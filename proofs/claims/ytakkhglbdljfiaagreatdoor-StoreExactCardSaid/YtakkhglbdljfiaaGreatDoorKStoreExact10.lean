/- tierceref05: Good (printed by XLeafMb.gen.py). -/
import Derived.Test.YtakkhglbdljfiaaGreatDoorKStoreExact09
import Derived.Test.YtakkhglbdljfiaaGreatDoorKStoreExact01
namespace Go.Proofs.YtakkhglbdljfiaaGreatDoor
attribute [local simp] BigFrame.eval_const BigFrame.eval_global BigFrame.eval_func
set_option linter.unusedVariables false
set_option linter.unusedSimpArgs false
open Go.RowKit Go.Maps

end Go.Proofs.YtakkhglbdljfiaaGreatDoor
