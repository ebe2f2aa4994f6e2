/- maps: isPlace, isChunk, Set, Get, List (printed by XMpB.gen.py). -/
import Derived.Test.YtngehbhhpkkijaaKVolsApart29
namespace Go.Proofs.Ytngehbhhpkkijaa
attribute [local simp] BigFrame.eval_const BigFrame.eval_global BigFrame.eval_func
set_option linter.unusedVariables false
set_option linter.unusedSimpArgs false
open Go.RowKit Go.Maps


/-- A pair of places and chunks. -/
def enOk (x : Pr) : Bool := decide (x.1 < 64 ∧ 1 ≤ x.2 ∧ x.2 ≤ 1023)
end Go.Proofs.Ytngehbhhpkkijaa
