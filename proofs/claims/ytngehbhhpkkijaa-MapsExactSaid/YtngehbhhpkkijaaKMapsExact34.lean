/- Trees in laws: pairs behind puts and drops, plain; ranges. -/
import Derived.Test.YtngehbhhpkkijaaKMapsExact23
import Derived.Test.YtngehbhhpkkijaaKMapsExact31
import Derived.Test.YtngehbhhpkkijaaKMapsExact29
namespace Go.Proofs.Ytngehbhhpkkijaa
set_option linter.unusedVariables false
set_option linter.unusedSimpArgs false
open Go.RowKit Go.Maps
theorem Tre.norm {N : List Nd} {root c : Nat} {P : List Pr} (h : Tre N root c P) : Tre N root (if root = 0 then 0 else c) P := by
  by_cases e : root = 0
  · subst e
    rw [if_pos rfl, h.root0]
    exact Tre.zero N
  · rw [if_neg e]
    exact h
theorem Tre.next {N : List Nd} {root r c : Nat} {P : List Pr} (h : Tre N r ((if root = 0 then 0 else c) + if root = 0 then 8 else 1) P) (hc : 7 ≤ c) : Tre N r (c + 1) P := h.le (by split <;> omega)
theorem Z26 {k : Nat} {P : List Pr} : lookP k P = none ↔ ∀ y ∈ P, y.1 ≠ k := by
  unfold lookP
  rw [Option.map_eq_none_iff, List.find?_eq_none]
  simp
theorem Z5n {k : Nat} {P : List Pr} : (lookP k P).isSome = true ↔ ∃ y ∈ P, y.1 = k := by
  rw [← Option.ne_none_iff_isSome]
  constructor
  · intro h
    cases hx : P.any fun y => decide (y.1 = k) with
    | true =>
      obtain ⟨y, h1, h2⟩ := List.any_eq_true.1 hx
      exact ⟨y, h1, of_decide_eq_true h2⟩
    | false =>
      rw [List.any_eq_false] at hx
      exact absurd (Z26.2 fun y hy e => hx y hy (decide_eq_true e)) h
  · rintro ⟨y, h1, h2⟩ h
    exact Z26.1 h y h1 h2
theorem del_none {k : Nat} {P : List Pr} (h : lookP k P = none) : delP k P = P := Z1q fun y hy => decide_eq_true (Z26.1 h y hy)
theorem mem_del {k : Nat} {y : Pr} {P : List Pr} : y ∈ delP k P ↔ y ∈ P ∧ y.1 ≠ k := by
  unfold delP
  rw [List.mem_filter, decide_eq_true_eq]
section
variable {H : Nat} {A0 : World} {R : List Thing} {sb cap : Nat} {room : Int} {B : Option Addr} {vs : List Value} {N : List Nd} {root c : Nat} {P Q : List Pr}
end
section
variable {w : World} {o : Oper} {ρ : Operand → Value} {t u : TypeId} {x y : Operand} {m n : Nat}
end
end Go.Proofs.Ytngehbhhpkkijaa

/- trees: awake of layer 8 (printed by XTrAw.gen.py). -/
namespace Go.Proofs.Ytngehbhhpkkijaa
attribute [local simp] BigFrame.eval_const BigFrame.eval_global BigFrame.eval_func
set_option linter.unusedVariables false
set_option linter.unusedSimpArgs false
open Go.RowKit Go.Maps


end Go.Proofs.Ytngehbhhpkkijaa
