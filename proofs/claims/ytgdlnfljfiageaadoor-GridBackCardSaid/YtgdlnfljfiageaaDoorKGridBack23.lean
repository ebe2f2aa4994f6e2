/- grids' law: GridExact (printed by XGrJ.gen.py). -/
import Derived.Test.YtgdlnfljfiageaaDoorKGridBack22
import Derived.Test.YtgdlnfljfiageaaDoorKGridBack18
import Derived.Test.YtgdlnfljfiageaaDoorKGridBack19
namespace Go.Proofs.YtgdlnfljfiageaaDoor
attribute [local simp] BigFrame.eval_const BigFrame.eval_global BigFrame.eval_func
set_option linter.unusedVariables false
set_option linter.unusedSimpArgs false
open Go.RowKit

theorem Z4r {X : List (List Tx)} (h : greatB X = false) : X.length ≤ 20 ∧ ∀ T ∈ X, T.length ≤ 10 ∧ ∀ s ∈ T, s.length ≤ 40 := by
 unfold greatB at h
 rw [Bool.or_eq_false_iff, decide_eq_false_iff_not, List.any_eq_false] at h
 refine ⟨by omega, fun T hT => ?_⟩
 have h2 := h.2 T hT
 rw [Bool.not_eq_true] at h2
 unfold bigB at h2
 rw [Bool.or_eq_false_iff, decide_eq_false_iff_not, List.any_eq_false] at h2
 refine ⟨by omega, fun s hs => ?_⟩
 have h3 := h2.2 s hs
 rw [decide_eq_true_eq] at h3
 omega

end Go.Proofs.YtgdlnfljfiageaaDoor
