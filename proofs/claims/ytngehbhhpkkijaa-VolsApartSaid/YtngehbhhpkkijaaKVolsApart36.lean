/- maps: Good, awake (printed by XMpC.gen.py). -/
import Derived.Test.YtngehbhhpkkijaaKVolsApart35
import Derived.Test.YtngehbhhpkkijaaKVolsApart23
import Derived.Laws.StructEq
namespace Go.Proofs.Ytngehbhhpkkijaa
attribute [local simp] BigFrame.eval_const BigFrame.eval_global BigFrame.eval_func
set_option linter.unusedVariables false
set_option linter.unusedSimpArgs false
open Go.RowKit Go.Maps


/-- Entries: places and chunks. -/
abbrev En := Int × Int
def atE (es : List En) (i : Nat) : Int := (es.getD i (0, 0)).1
def chE (es : List En) (i : Nat) : Int := (es.getD i (0, 0)).2
def OkE (size : Int) (es : List En) (i : Nat) : Prop := (0 ≤ atE es i ∧ atE es i < 64) ∧ atE es i < size ∧ (1 ≤ chE es i ∧ chE es i ≤ 1023) ∧ (0 < i → atE es (i - 1) < atE es i)
instance {size : Int} {es : List En} {i : Nat} : Decidable (OkE size es i) := by unfold OkE; exact inferInstance
section
variable {w : World} {o : Oper} {ρ : Operand → Value} {u : TypeId} {x y : Operand} {a b c d : Int}
end

end Go.Proofs.Ytngehbhhpkkijaa
