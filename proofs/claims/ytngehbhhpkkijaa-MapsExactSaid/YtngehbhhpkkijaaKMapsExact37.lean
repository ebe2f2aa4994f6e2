/- maps' law: MapsGood (printed by XMgC.gen.py). -/
import Derived.Test.YtngehbhhpkkijaaKMapsExact33
import Derived.Test.YtngehbhhpkkijaaKMapsExact36
import Derived.Laws.Tables
import Derived.Laws.CopyRow
namespace Go.Proofs.Ytngehbhhpkkijaa
attribute [local simp] BigFrame.eval_const BigFrame.eval_global BigFrame.eval_func
set_option linter.unusedVariables false
set_option linter.unusedSimpArgs false
open Go.RowKit Go.Maps


theorem Z3l (u : Nat → Nat) {k : Nat} (v : Nat) (hk : k < 64) : (rwA u).setIfInBounds k (.int .i64 (v : Nat)) = rwA (fun i => if i = k then v else u i) := by
 apply Array.ext_getElem?
 intro i
 rw [Array.getElem?_setIfInBounds]
 by_cases e : k = i
 · subst e
   rw [if_pos rfl, if_pos (by rw [Z1h]; exact hk), Z29 _ hk, if_pos rfl]
 · rw [if_neg e]
   by_cases hi : i < 64
   · rw [Z29 _ hi, Z29 _ hi, if_neg (fun h => e h.symm)]
   · rw [Array.getElem?_eq_none (by rw [Z1h]; omega), Array.getElem?_eq_none (by rw [Z1h]; omega)]
section
variable {w : World} {o : Oper} {ρ : Operand → Value} {x y : Operand} {u : TypeId}
theorem Z5v (ho : o.op = .build 71 #[]) : (execOp ρ o).run Try.prog w = .ok (.value (.agg (rwA fun _ => 0))) w := by
 unfold execOp
 simp only [ho]
 kernel_rfl
theorem Z3s (ho : o.op = .alloc 71) : (execOp ρ o).run Try.prog w = .ok (.value (.pointer (some ⟨w.heap.size, 0, none⟩))) (w.alloc (.cells (rwA fun _ => 0) 71)) := by
 unfold execOp
 simp only [ho]
 kernel_rfl
end
theorem Z4v {w : World} {o : Oper} {ρ : Operand → Value} {x : Operand} {g : Nat} {v : Nat → Nat} {t : TypeId} (ho : o.op = .load 71 x) (hx : ρ x = .pointer (some ⟨g, 0, none⟩)) (hb : Blk w g t (rwA v)) : (execOp ρ o).run Try.prog w = .ok (.value (.agg (rwA v))) w := by
 unfold execOp
 simp only [ho, hx, Instr.loadAt, Instr.sureAddr, Sem.run_bind, Sem.run_pure, Result.andThen_ok, run_loadVar_row w g t 71 (rwA v) (0, 0) _ hb Try.underlying71 rfl (by rw [Z1h]; kernel_rfl)]
theorem Z4y {ops : Array Oper} {rest : List Oper} {o : Oper} {a : Act} {w : World} {Q : Exit → Act → World → Prop} (hgd : o.guard = none) (hd : o.dst = none) (ty : TypeId) (x y : Operand) (ho : o.op = .store ty x y) {g : Nat} {Z : Array Value} {t : TypeId} (hx : a.eval x = .pointer (some ⟨g, 0, none⟩)) (hy : a.eval y = .agg Z) (hb : Blk w g t Z) (hi : (Try.prog.info? ty).map (·.size) = some Z.size) (h1 : Z.all (·.oneCell') = true) (h : wpList Try.prog ops Q rest a w) : wpList Try.prog ops Q (o :: rest) a w := by
 refine wpList_store_row hgd ty x y ho g Z hx hy t Z hb hi rfl h1 ?_
 rw [setRow_self _ _ _ _ _ hb, hd]
 exact h
theorem Z4h : Try.prog.cellsOf 3 = 1 := by kernel_rfl
end Go.Proofs.Ytngehbhhpkkijaa
