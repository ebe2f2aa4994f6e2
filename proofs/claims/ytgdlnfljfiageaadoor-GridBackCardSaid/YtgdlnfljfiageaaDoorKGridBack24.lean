/- grids' law: GridCells (printed by XGrM.gen.py). -/
import Derived.Test.YtgdlnfljfiageaaDoorKGridBack23
namespace Go.Proofs.YtgdlnfljfiageaaDoor
attribute [local simp] BigFrame.eval_const BigFrame.eval_global BigFrame.eval_func
set_option linter.unusedVariables false
set_option linter.unusedSimpArgs false
open Go.RowKit

theorem Z6m {s : Tx} {xs : List Int} {e : Ending} {w' : World} (h : CellsP s xs e w') : ∃ (B : Option Addr) (n cap : Nat) (c : Int), e = .returned (.tuple #[.slice B n cap, .int .i64 c]) ∧ (badW xs = true ∧ n = 0 ∧ c = 1 ∨ badW xs = false ∧ n = 0 ∧ c = 3 ∨ badW xs = false ∧ okC s xs = true ∧ n = (partL s).length ∧ c = 0 ∧ TxsR w' B (partL s)) := by
 rcases h with ⟨h, e1⟩ | ⟨h, _, e1⟩ | ⟨h, h2, B, cap, e1, hr⟩
 · exact ⟨_, _, _, _, e1, .inl ⟨h, rfl, rfl⟩⟩
 · exact ⟨_, _, _, _, e1, .inr (.inl ⟨h, rfl, rfl⟩)⟩
 · exact ⟨_, _, _, _, e1, .inr (.inr ⟨h, h2, rfl, rfl, hr⟩)⟩
end Go.Proofs.YtgdlnfljfiageaaDoor
