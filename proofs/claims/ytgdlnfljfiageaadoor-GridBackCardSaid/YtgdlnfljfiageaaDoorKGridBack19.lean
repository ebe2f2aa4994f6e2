/- What fits, plain. -/
import Derived.Test.YtgdlnfljfiageaaDoorKGridBack10
import Derived.Test.YtgdlnfljfiageaaDoorKGridBack04
import Derived.Test.YtgdlnfljfiageaaDoorKGridBack07
namespace Go.Proofs.YtgdlnfljfiageaaDoor
set_option linter.unusedVariables false
set_option linter.unusedSimpArgs false
end Go.Proofs.YtgdlnfljfiageaaDoor

/- Numbers turned: int to uint and back, the rest of a uint. -/
namespace Go.Proofs.YtgdlnfljfiageaaDoor
set_option linter.unusedVariables false
set_option linter.unusedSimpArgs false
open Go.RowKit Go.Maps
/-- 'uint(N)'. -/
def uN (N : Int) : Nat := (IntKind.u64.wrap N).toNat
theorem Z3u (N : Int) (w : World) : (convert 3 38 (.int .i64 N)).run Tryd.prog w = .ok (.int .u64 ((uN N : Nat) : Int)) w := by
  have h : ((uN N : Nat) : Int) = IntKind.u64.wrap N := by
    unfold uN
    have : 0 ≤ IntKind.u64.wrap N := by
      show 0 ≤ N % 18446744073709551616
      omega
    omega
  rw [h]
  simp [convert, run_underlying Tryd.underlying3, run_underlying Tryd.underlying38, Conv.intToInt]
theorem Z7s (m : Nat) (w : World) (h : m ≤ 1000000) : (convert 38 3 (.int .u64 ((m : Nat) : Int))).run Tryd.prog w = .ok (.int .i64 ((m : Nat) : Int)) w := by
  simp [convert, run_underlying Tryd.underlying3, run_underlying Tryd.underlying38, Conv.intToInt, IntWalk.i64_in _ (show -9223372036854775808 ≤ (m : Int) ∧ (m : Int) ≤ 9223372036854775807 by omega)]
section
variable {w : World} {o : Oper} {ρ : Operand → Value} {t u : TypeId} {x y : Operand}
theorem x_remU {m j : Nat} {k : Int} (ho : o.op = .binOp .rem t x y u) (hx : ρ x = .int .u64 (m : Nat)) (hy : ρ y = .int .u64 k) (hk : k = (j : Nat)) (hj : 0 < j) : (execOp ρ o).run Tryd.prog w = .ok (.value (.int .u64 ((m % j : Nat) : Int))) w := by
  subst hk
  refine Z2w ho hx hy ?_
  have h0 : ¬ ((j : Int) = 0) := by omega
  have h2 : (m : Int).tmod (j : Int) = ((m % j : Nat) : Int) := rfl
  simp only [binOp, Op.intDiv, if_neg h0, h2]
  rfl
end
end Go.Proofs.YtgdlnfljfiageaaDoor
