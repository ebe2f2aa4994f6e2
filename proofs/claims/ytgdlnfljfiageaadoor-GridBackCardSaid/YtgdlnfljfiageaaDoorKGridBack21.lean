/- grids: the reference's runes (printed by XGrR.gen.py). -/
import Derived.Test.YtgdlnfljfiageaaDoorKGridBack20
namespace Go.Proofs.YtgdlnfljfiageaaDoor
attribute [local simp] BigFrame.eval_const BigFrame.eval_global BigFrame.eval_func
set_option linter.unusedVariables false
set_option linter.unusedSimpArgs false
open Go.RowKit

section
variable {w : World} {o : Oper} {ρ : Operand → Value} {t u : TypeId} {x y : Operand}
end
section
variable {l : List UInt8} {B n r0 low : Nat}
end
theorem elemIG : ElemI Tryd.prog 33 3 1 8 := ⟨Tryd.underlying33, by
 have h : (Tryd.prog.info? 3).map (fun i => (i.zero, i.size, i.bytes)) = some (some (.int .i64 0), 1, 8) := by kernel_rfl
 obtain ⟨i, h1, h2, h3, h4⟩ := info_parts h
 exact ⟨i, _, h1, h2, h3, h4, rfl⟩⟩
theorem OwnT.asRowG {g k : Nat} {T : TypeId} {H : Nat} {A w : World} {L : List Thing} (h : OwnT H A (tBlk g T #[] :: L) w) : OwnT H A (tRow T k (.slice (some ⟨g, 0, none⟩) 0 0) 0 [] :: L) w :=
 h.call (F := []) (Chg.refl [] w) (by simp) (tRow T k (.slice (some ⟨g, 0, none⟩) 0 0) 0 []) (Z82 h.b0 (Nat.le_refl _) (by decide) (by simp) (by simp)) (fun i hi => .inl (by simpa [tRow, tBlk, Value.ownBlock] using hi))
end Go.Proofs.YtgdlnfljfiageaaDoor
