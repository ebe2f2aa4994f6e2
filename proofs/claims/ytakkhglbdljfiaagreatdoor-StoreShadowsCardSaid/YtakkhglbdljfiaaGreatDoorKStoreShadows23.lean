/- tierceref05: Bytes. -/
import Derived.Test.YtakkhglbdljfiaaGreatDoorKStoreShadows22
import Derived.Test.YtakkhglbdljfiaaGreatDoorKStoreShadows17
namespace Go.Proofs.YtakkhglbdljfiaaGreatDoor
attribute [local simp] BigFrame.eval_const BigFrame.eval_global BigFrame.eval_func
set_option linter.unusedVariables false
set_option linter.unusedSimpArgs false
open Go.RowKit

end Go.Proofs.YtakkhglbdljfiaaGreatDoor

/- The walk of tierceref01.Number. -/
namespace Go.Proofs.YtakkhglbdljfiaaGreatDoor
set_option linter.unusedVariables false
set_option linter.unusedSimpArgs false
open Go.RowKit

end Go.Proofs.YtakkhglbdljfiaaGreatDoor
