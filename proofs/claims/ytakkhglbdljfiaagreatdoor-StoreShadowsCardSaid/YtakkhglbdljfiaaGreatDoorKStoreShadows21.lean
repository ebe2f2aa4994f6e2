/- tierceref05: Good. Printed by gen_leafm.py. -/
import Derived.Test.YtakkhglbdljfiaaGreatDoorKStoreShadows20
import Derived.Test.YtakkhglbdljfiaaGreatDoorKStoreShadows02
namespace Go.Proofs.YtakkhglbdljfiaaGreatDoor
attribute [local simp] BigFrame.eval_const BigFrame.eval_global BigFrame.eval_func
set_option linter.unusedVariables false
set_option linter.unusedSimpArgs false
open Go.RowKit

def valAt (xs : List (Nat × Nat)) (i : Nat) : Nat := (xs.getD i (0, 0)).2
/-- A pair may stand there. -/
def okAt (lv : Int) (xs : List (Nat × Nat)) (i : Nat) : Prop := (i = 0 ∨ keyAt xs (i - 1) < keyAt xs i) ∧ (lv ≤ 0 ∨ farB (valAt xs i) = false)
theorem Z4n (lv : Int) (xs : List (Nat × Nat)) : goodB lv xs = true ↔ (0 ≤ lv ∧ lv < 8 ∧ xs.length ≤ 15) ∧ (lv ≤ 0 ∨ 0 < xs.length) ∧ ∀ i, i < xs.length → okAt lv xs i := by
  have hany : (xs.any (fun x => farB x.2) = false) ↔ ∀ i, i < xs.length → farB (valAt xs i) = false := by
    rw [List.any_eq_false]
    constructor
    · intro h i hi
      have := h xs[i] (List.getElem_mem hi)
      simpa [valAt, List.getD, hi] using this
    · intro h x hx
      obtain ⟨i, hi, rfl⟩ := List.getElem_of_mem hx
      have := h i hi
      simpa [valAt, List.getD, hi] using this
  unfold goodB riseB okAt
  simp only [Bool.and_eq_true, Bool.or_eq_true, decide_eq_true_eq, Bool.not_eq_true', hany]
  constructor
  · rintro ⟨h1, h2, h3⟩
    refine ⟨h1, ?_, fun i hi => ⟨?_, ?_⟩⟩
    · rcases h3 with h3 | h3
      · exact .inl (by omega)
      · exact .inr h3.1
    · by_cases h0 : i = 0
      · exact .inl h0
      · have := h2 (i - 1) (by omega) (by omega)
        rw [show i - 1 + 1 = i by omega] at this
        exact .inr this
    · rcases h3 with h3 | h3
      · exact .inl (by omega)
      · exact .inr (h3.2 i hi)
  · rintro ⟨h1, h2, h3⟩
    refine ⟨h1, fun i hi hi2 => ?_, ?_⟩
    · rcases (h3 (i + 1) hi2).1 with h | h
      · omega
      · exact h
    · by_cases h0 : lv = 0
      · exact .inl h0
      · refine .inr ⟨by omega, fun i hi => ?_⟩
        rcases (h3 i hi).2 with h | h
        · omega
        · exact h

end Go.Proofs.YtakkhglbdljfiaaGreatDoor
