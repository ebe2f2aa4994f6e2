/- grids' law: GridFits (printed by XGrI.gen.py). -/
import Derived.Test.YtgdlnfljfiageaaDoorKGridCells18
import Derived.Test.YtgdlnfljfiageaaDoorKGridCells19
namespace Go.Proofs.YtgdlnfljfiageaaDoor
attribute [local simp] BigFrame.eval_const BigFrame.eval_global BigFrame.eval_func
set_option linter.unusedVariables false
set_option linter.unusedSimpArgs false
open Go.RowKit

theorem Z0x {w : World} {o : Oper} {ρ : Operand → Value} {x y : Operand} {t : TypeId} {l : List UInt8} {j : Nat} (hu : Tryd.prog.underlying t = some .string) (ho : o.op = .index t x y) (hx : ρ x = .string (sB l)) (hy : ρ y = .int .i64 (j : Nat)) (hj : j < l.length) : (execOp ρ o).run Tryd.prog w = .ok (.value (.int .u8 ((l.getD j 0).toNat : Int))) w := by
 have hb : (sB l)[j]? = some (l.getD j 0) := by
  have h1 : j < (sB l).size := by rw [Z0p]; exact hj
  have h2 : (sB l)[j]'h1 = l[j] := rfl
  rw [getElem?_pos (sB l) j h1, h2]
  simp only [List.getD, List.getElem?_eq_getElem hj, Option.getD_some]
  rfl
 unfold execOp
 simp only [ho, hx, hy]
 simp [Instr.index, asIntOf, run_underlying hu, hb]
theorem Z6t {a b : UInt8} : ((a.toNat : Int) = (b.toNat : Int)) ↔ a = b := ⟨fun h => UInt8.toNat_inj.1 (by omega), fun h => by rw [h]⟩
end Go.Proofs.YtgdlnfljfiageaaDoor
