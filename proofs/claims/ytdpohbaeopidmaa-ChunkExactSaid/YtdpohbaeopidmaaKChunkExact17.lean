/- A region that draws its order and whose last operations, in order, write. No function of the program in sight. -/
import Derived.Test.YtdpohbaeopidmaaKChunkExact04
import Derived.Test.YtdpohbaeopidmaaKChunkExact08
namespace Go.Proofs.Ytdpohbaeopidmaa
set_option linter.unusedVariables false
set_option linter.unusedSimpArgs false
open Go.RowKit

abbrev RE : (Nat → Bool) → World → World → Prop := fun _ => Ext
section
variable {P : Program} {Q : Exit → Act → World → Prop} {a a0 : Act} {w w' w0 : World} {n : Nat} {D D' : List Tmp} {o : Oper} {v : Value} {K : Act → World → Prop}
theorem wp_tail {id : Nat} {l : List Oper} (A : List (List Nat)) (D : List Tmp) (hf : P.follows .mixedOrders = true)
    (h : BuildL P RE l.toArray (fun _ w => Ext w0 w) a0 D A (FinL P l (fun _ w => Ext w0 w) a0 D A Q) 0 l []) : (Code.region id l.toArray true).wp P Q a0 w0 :=
  wp_phasedL RE _ A D (fun _ w => Ext.refl w) (Ext.drew w0) hf h
theorem tail_call {f : FuncId} {args : Array Value} {S : Ending → World → Prop} (d : Tmp) (D' : List Tmp) (hE : Env a0 D a) (k : Fr n a0) (hd : o.dst = some d) (hn : Nat.blt d n = true) (hs : D.all (fun d => D'.contains d) = true) (hD : D'.contains d = true)
    (h : (execOp a.eval o).run P w = .ok (.enter f args) w) (hc : Calls P f args w S)
    (hk : ∀ e w'', S e w'' → ∃ v, e = .returned v ∧ ∀ a', Env a0 D' a' → a'.eval (.tmp d) = v → (∀ t, Nat.beq t d = false → a'.eval (.tmp t) = a.eval (.tmp t)) → K a' w'') : o.wp P a w K Q := by
  refine wp_of_enter h hc fun e w'' hS => ?_
  obtain ⟨v, he, hk⟩ := hk e w'' hS
  refine ⟨v, he, ?_⟩
  rw [hd]
  exact hk _ ((hE.mono hs).put hD v) (eval_put (by rw [hE.size, k.size]; exact Nat.le_of_ble_eq_true hn)) (fun t ht => eval_put_ne ht v)
theorem tail_val (d : Tmp) (D' : List Tmp) (hE : Env a0 D a) (k : Fr n a0) (hd : o.dst = some d) (hn : Nat.blt d n = true) (hs : D.all (fun d => D'.contains d) = true) (hD : D'.contains d = true)
    (h : (execOp a.eval o).run P w = .ok (.value v) w')
    (hk : ∀ a', Env a0 D' a' → a'.eval (.tmp d) = v → (∀ t, Nat.beq t d = false → a'.eval (.tmp t) = a.eval (.tmp t)) → K a' w') : o.wp P a w K Q := by
  refine wp_of_value h ?_
  rw [hd]
  exact hk _ ((hE.mono hs).put hD v) (eval_put (by rw [hE.size, k.size]; exact Nat.le_of_ble_eq_true hn)) (fun t ht => eval_put_ne ht v)
end
end Go.Proofs.Ytdpohbaeopidmaa
