/- grids: the reference's Fit, Good, Text (printed by XGrT.gen.py). -/
import Derived.Test.YtgdlnfljfiageaaDoorKGridBack21
namespace Go.Proofs.YtgdlnfljfiageaaDoor
attribute [local simp] BigFrame.eval_const BigFrame.eval_global BigFrame.eval_func
set_option linter.unusedVariables false
set_option linter.unusedSimpArgs false
open Go.RowKit

/-- A cut on its way, by runes. -/
def CutR (q : Nat) (R : List (Nat × Nat)) (i n p : Nat) : Prop := n ≤ q ∧ cutR q R 0 = ((cutR q (R.drop i) n).1 + p, (cutR q (R.drop i) n).2)
theorem CutR.start (q : Nat) (R : List (Nat × Nat)) : CutR q R 0 0 0 := ⟨Nat.zero_le _, rfl⟩
section
variable {q i n p : Nat} {R : List (Nat × Nat)} {x : Nat × Nat}
theorem Z6h (hx : R[i]? = some x) : R.drop i = x :: R.drop (i + 1) := by
 obtain ⟨h, rfl⟩ := List.getElem?_eq_some_iff.1 hx
 exact List.drop_eq_getElem_cons h
theorem CutR.step (h : CutR q R i n p) (hx : R[i]? = some x) (hw : ¬ q < n + wideN x.1) : CutR q R (i + 1) (n + wideN x.1) (p + x.2) := by
 obtain ⟨h1, h2⟩ := h
 refine ⟨by omega, ?_⟩
 rw [h2, Z6h hx, show ∀ X, cutR q (x :: X) n = if q < n + wideN x.1 then (0, n) else ((cutR q X (n + wideN x.1)).1 + x.2, (cutR q X (n + wideN x.1)).2) from fun _ => rfl, if_neg hw, Nat.add_assoc, Nat.add_comm x.2 p]
theorem CutR.stop (h : CutR q R i n p) (hx : R[i]? = some x) (hw : q < n + wideN x.1) : cutR q R 0 = (p, n) := by
 rw [h.2, Z6h hx, show ∀ X, cutR q (x :: X) n = if q < n + wideN x.1 then (0, n) else ((cutR q X (n + wideN x.1)).1 + x.2, (cutR q X (n + wideN x.1)).2) from fun _ => rfl, if_pos hw, Nat.zero_add]
theorem CutR.end_ (h : CutR q R i n p) (hi : ¬ i < R.length) : cutR q R 0 = (p, n) := by
 rw [h.2, List.drop_eq_nil_of_le (by omega), show cutR q [] n = (0, n) from rfl, Nat.zero_add]
end
def badR (x : Nat × Nat) : Bool := x == (65533, 1) || oddB x.1
theorem Z55 {l : Tx} : goodB l = ((runesL l).all (fun x => !badR x) && (l.head? != some 32) && (l.getLast? != some 32)) := by
 unfold goodB
 congr 2
 exact congrArg (fun f => List.all (runesL l) f) (funext fun x => by unfold badR; cases (x == (65533, 1)) <;> cases oddB x.1 <;> rfl)
theorem Z3p (sep : Tx) (x : Tx) : ∀ xs : List Tx, Lib.join (xs ++ [x]) sep = Lib.join xs sep ++ (if xs.length = 0 then [] else sep) ++ x
 | [] => by rw [List.nil_append, Lib.join_one, Lib.join_nil]; rfl
 | y :: r => by
  rw [List.cons_append, Lib.join_cons, Lib.join_cons, if_neg (by simp)]
  unfold Lib.joinTail
  rw [List.map_append, List.flatten_append]
  simp
theorem trim_go {u : Tx} (h0 : 0 < u.length) (h : u.getD (u.length - 1) 0 = 32) : Lib.trimRightB u 32 = Lib.trimRightB (u.take (u.length - 1)) 32 := by
 rcases List.eq_nil_or_concat u with rfl | ⟨q, y, rfl⟩
 · simp at h0
 · rw [List.concat_eq_append] at h ⊢
   have hy : (q ++ [y]).getD ((q ++ [y]).length - 1) 0 = y := by simp [List.getD]
   rw [hy] at h
   subst h
   have ht : (q ++ [(32 : UInt8)]).take ((q ++ [(32 : UInt8)]).length - 1) = q := by simp
   rw [ht]
   unfold Lib.trimRightB
   rw [List.reverse_append]
   show ((32 :: q.reverse).dropWhile _).reverse = _
   rw [List.dropWhile_cons, if_pos (by simp)]
theorem Z7t {X : List (List Tx)} {j k : Nat} {T : List Tx} {s : Tx} (h : X[j]? = some T) (hs : T[k]? = some s) : colW (X.take (j + 1)) k = max (colW (X.take j) k) (widthL s) := by
 rw [List.take_add_one, h]
 show colW (X.take j ++ [T]) k = _
 rw [Z3v, List.getD, hs]
 rfl

end Go.Proofs.YtgdlnfljfiageaaDoor
