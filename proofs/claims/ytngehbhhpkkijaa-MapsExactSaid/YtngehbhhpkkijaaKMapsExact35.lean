/- leaf's reference: Pairs. -/
import Derived.Test.YtngehbhhpkkijaaKMapsExact10
import Derived.Laws.StructEq
import Derived.Test.YtngehbhhpkkijaaKMapsExact34
import Derived.Test.YtngehbhhpkkijaaKMapsExact32
namespace Go.Proofs.Ytngehbhhpkkijaa
attribute [local simp] BigFrame.eval_const BigFrame.eval_global BigFrame.eval_func
set_option linter.unusedVariables false
set_option linter.unusedSimpArgs false
open Go.RowKit

end Go.Proofs.Ytngehbhhpkkijaa

/- Trees in laws: what is got, rows compared. -/
namespace Go.Proofs.Ytngehbhhpkkijaa
set_option linter.unusedVariables false
set_option linter.unusedSimpArgs false
open Go.RowKit Go.Maps
section
variable {H : Nat} {A0 : World} {R : List Thing} {sb cap : Nat} {room : Int} {B : Option Addr} {vs : List Value} {N : List Nd} {root c : Nat} {P Q : List Pr}
end
end Go.Proofs.Ytngehbhhpkkijaa

/- Maps as rows of pairs, plain: look-ups behind a put. -/
namespace Go.Proofs.Ytngehbhhpkkijaa
set_option linter.unusedVariables false
set_option linter.unusedSimpArgs false
open Go.RowKit Go.Maps
theorem Z7h {k v : Nat} {P : List Pr} : lookP k (insP (k, v) P) = some v := by
  unfold lookP insP
  rw [List.find?_append, List.find?_eq_none.2 (fun y hy => by have h := (List.mem_filter.1 hy).2; simp at h ⊢; omega)]
  simp
theorem Z1x {p q : Pr → Bool} (h : ∀ y, p y = true → q y = true) : ∀ (P : List Pr), (P.filter q).find? p = P.find? p
  | [] => rfl
  | a :: P => by
    have ih := Z1x h P
    cases hp : p a with
    | true => rw [List.filter_cons_of_pos (h a hp), List.find?_cons_of_pos hp, List.find?_cons_of_pos hp]
    | false =>
      cases hq : q a with
      | true => rw [List.filter_cons_of_pos hq, List.find?_cons_of_neg (by simp [hp]), List.find?_cons_of_neg (by simp [hp]), ih]
      | false => rw [List.filter_cons_of_neg (by simp [hq]), List.find?_cons_of_neg (by simp [hp]), ih]
theorem Z66 {k k' v : Nat} {P : List Pr} (h : k' ≠ k) : lookP k' (insP (k, v) P) = lookP k' P := by
  unfold lookP insP
  rw [List.find?_append]
  by_cases hlt : k' < k
  · rw [Z1x (P := P) (fun y hy => by simp at hy ⊢; omega)]
    rw [List.find?_eq_none (l := (k, v) :: _).2 (fun y hy => by
      rcases List.mem_cons.1 hy with rfl | hy
      · simp; omega
      · have h := (List.mem_filter.1 hy).2; simp at h ⊢; omega)]
    simp
  · rw [List.find?_eq_none.2 (fun y hy => by have h := (List.mem_filter.1 hy).2; simp at h ⊢; omega), List.find?_cons_of_neg (by simp; omega), Z1x (P := P) (fun y hy => by simp at hy ⊢; omega)]
    simp
theorem ins_ok {k v : Nat} {P : List Pr} (h : P.all enOk = true) (hk : k < 64) (hv : 1 ≤ v ∧ v ≤ 1023) : (insP (k, v) P).all enOk = true :=
  List.all_eq_true.2 fun y hy => by
    rcases Z6q hy with rfl | hy
    · exact decide_eq_true ⟨hk, hv⟩
    · exact List.all_eq_true.1 h y hy
theorem ok_le {P : List Pr} (h : P.all enOk = true) : ∀ x ∈ P, x.2 ≤ 1000000 := fun x hx => by
  have h1 : x.1 < 64 ∧ 1 ≤ x.2 ∧ x.2 ≤ 1023 := of_decide_eq_true (List.all_eq_true.1 h x hx)
  omega
end Go.Proofs.Ytngehbhhpkkijaa
