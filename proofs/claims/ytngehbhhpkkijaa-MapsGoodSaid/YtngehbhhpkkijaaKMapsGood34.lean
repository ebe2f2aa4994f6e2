/- Trees in laws: pairs behind puts and drops, plain; ranges. -/
import Derived.Test.YtngehbhhpkkijaaKMapsGood23
import Derived.Test.YtngehbhhpkkijaaKMapsGood31
import Derived.Test.YtngehbhhpkkijaaKMapsGood29
namespace Go.Proofs.Ytngehbhhpkkijaa
set_option linter.unusedVariables false
set_option linter.unusedSimpArgs false
open Go.RowKit Go.Maps
theorem Tre.norm {N : List Nd} {root c : Nat} {P : List Pr} (h : Tre N root c P) : Tre N root (if root = 0 then 0 else c) P := by
  by_cases e : root = 0
  · subst e
    rw [if_pos rfl, h.root0]
    exact Tre.zero N
  · rw [if_neg e]
    exact h
theorem Tre.next {N : List Nd} {root r c : Nat} {P : List Pr} (h : Tre N r ((if root = 0 then 0 else c) + if root = 0 then 8 else 1) P) (hc : 7 ≤ c) : Tre N r (c + 1) P := h.le (by split <;> omega)
theorem Z5f {x y : Pr} {P : List Pr} : y ∈ insP x P ↔ y = x ∨ (y ∈ P ∧ y.1 ≠ x.1) := by
  unfold insP
  rw [List.mem_append, List.mem_cons, List.mem_filter, List.mem_filter]
  simp only [decide_eq_true_eq]
  constructor
  · rintro (⟨h1, h2⟩ | rfl | ⟨h1, h2⟩)
    · exact .inr ⟨h1, by omega⟩
    · exact .inl rfl
    · exact .inr ⟨h1, by omega⟩
  · rintro (rfl | ⟨h1, h2⟩)
    · exact .inr (.inl rfl)
    · rcases Nat.lt_or_gt_of_ne h2 with h | h
      · exact .inl ⟨h1, h⟩
      · exact .inr (.inr ⟨h1, h⟩)
theorem Z3i {k : Nat} {P : List Pr} : lookP k P = none ↔ ∀ y ∈ P, y.1 ≠ k := by
  unfold lookP
  rw [Option.map_eq_none_iff, List.find?_eq_none]
  simp
theorem Z7d {k : Nat} {P : List Pr} : (lookP k P).isSome = true ↔ ∃ y ∈ P, y.1 = k := by
  rw [← Option.ne_none_iff_isSome]
  constructor
  · intro h
    cases hx : P.any fun y => decide (y.1 = k) with
    | true =>
      obtain ⟨y, h1, h2⟩ := List.any_eq_true.1 hx
      exact ⟨y, h1, of_decide_eq_true h2⟩
    | false =>
      rw [List.any_eq_false] at hx
      exact absurd (Z3i.2 fun y hy e => hx y hy (decide_eq_true e)) h
  · rintro ⟨y, h1, h2⟩ h
    exact Z3i.1 h y h1 h2
section
variable {H : Nat} {A0 : World} {R : List Thing} {sb cap : Nat} {room : Int} {B : Option Addr} {vs : List Value} {N : List Nd} {root c : Nat} {P Q : List Pr}
theorem Z7f (lo hi : Nat) (hQ : cutP lo hi P = Q) (w : World) (O : OwnT H A0 (shT sb room B cap vs N R) w) (hT : Tre N root c P) (hc : c ≤ 1000) (hN : N.length ≤ 511) :
    Calls Try.prog 21 #[.iface 24 (.pointer (some ⟨sb, 0, none⟩)), .int .i64 root, .int .u64 (lo : Nat), .int .u64 (hi : Nat)] w fun e w' => ∃ B' c', e = .returned (.tuple #[.slice B' Q.length c', .int .i64 0]) ∧ OwnT H A0 (shT sb room B cap vs N (tPs (.slice B' Q.length c') Q :: R)) w' := by
  subst hQ
  exact lRange lo hi w O hT hc hN
end
section
variable {w : World} {o : Oper} {ρ : Operand → Value} {t u : TypeId} {x y : Operand} {m n : Nat}
end
end Go.Proofs.Ytngehbhhpkkijaa

/- trees: awake of layer 8 (printed by XTrAw.gen.py). -/
namespace Go.Proofs.Ytngehbhhpkkijaa
attribute [local simp] BigFrame.eval_const BigFrame.eval_global BigFrame.eval_func
set_option linter.unusedVariables false
set_option linter.unusedSimpArgs false
open Go.RowKit Go.Maps


end Go.Proofs.Ytngehbhhpkkijaa
