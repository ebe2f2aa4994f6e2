/- Maps as rows of pairs, plain: look-ups behind a put. -/
import Derived.Test.YtngehbhhpkkijaaKVolsApart36
import Derived.Test.YtngehbhhpkkijaaKVolsApart32
namespace Go.Proofs.Ytngehbhhpkkijaa
set_option linter.unusedVariables false
set_option linter.unusedSimpArgs false
open Go.RowKit Go.Maps
theorem Z75 {k v : Nat} {P : List Pr} : lookP k (insP (k, v) P) = some v := by
  unfold lookP insP
  rw [List.find?_append, List.find?_eq_none.2 (fun y hy => by have h := (List.mem_filter.1 hy).2; simp at h ⊢; omega)]
  simp
theorem Z2g {p q : Pr → Bool} (h : ∀ y, p y = true → q y = true) : ∀ (P : List Pr), (P.filter q).find? p = P.find? p
  | [] => rfl
  | a :: P => by
    have ih := Z2g h P
    cases hp : p a with
    | true => rw [List.filter_cons_of_pos (h a hp), List.find?_cons_of_pos hp, List.find?_cons_of_pos hp]
    | false =>
      cases hq : q a with
      | true => rw [List.filter_cons_of_pos hq, List.find?_cons_of_neg (by simp [hp]), List.find?_cons_of_neg (by simp [hp]), ih]
      | false => rw [List.filter_cons_of_neg (by simp [hq]), List.find?_cons_of_neg (by simp [hp]), ih]
theorem Z44 {k k' v : Nat} {P : List Pr} (h : k' ≠ k) : lookP k' (insP (k, v) P) = lookP k' P := by
  unfold lookP insP
  rw [List.find?_append]
  by_cases hlt : k' < k
  · rw [Z2g (P := P) (fun y hy => by simp at hy ⊢; omega)]
    rw [List.find?_eq_none (l := (k, v) :: _).2 (fun y hy => by
      rcases List.mem_cons.1 hy with rfl | hy
      · simp; omega
      · have h := (List.mem_filter.1 hy).2; simp at h ⊢; omega)]
    simp
  · rw [List.find?_eq_none.2 (fun y hy => by have h := (List.mem_filter.1 hy).2; simp at h ⊢; omega), List.find?_cons_of_neg (by simp; omega), Z2g (P := P) (fun y hy => by simp at hy ⊢; omega)]
    simp
end Go.Proofs.Ytngehbhhpkkijaa

/- maps' law: a row of 64 numbers; same (printed by XMgB.gen.py). -/
namespace Go.Proofs.Ytngehbhhpkkijaa
attribute [local simp] BigFrame.eval_const BigFrame.eval_global BigFrame.eval_func
set_option linter.unusedVariables false
set_option linter.unusedSimpArgs false
open Go.RowKit Go.Maps


/-- The pairs of a row stand in it. -/
def Rw (P : List Pr) (u : Nat → Nat) : Prop := ∀ i, i < 64 → u i = (lookP i P).getD 0
theorem Rw.no {P : List Pr} {u : Nat → Nat} (h : Rw P u) (hok : P.all enOk = true) {i : Nat} (hi : i < 64) (h0 : u i = 0) : ∀ y ∈ P, y.1 ≠ i := by
 refine Z28.1 ?_
 have h1 := h i hi
 cases e : lookP i P with
 | none => rfl
 | some v =>
  rw [e] at h1
  have hv : v = 0 := by rw [← h0, h1]; rfl
  obtain ⟨y, hy, hk⟩ := Z8b.1 (show (lookP i P).isSome = true by rw [e]; rfl)
  unfold lookP at e
  cases e2 : P.find? fun y => decide (y.1 = i) with
  | none => rw [e2] at e; cases e
  | some z =>
   rw [e2] at e
   injection e with e
   have hz := List.mem_of_find?_eq_some e2
   have h3 : z.1 < 64 ∧ 1 ≤ z.2 ∧ z.2 ≤ 1023 := of_decide_eq_true (List.all_eq_true.1 hok z hz)
   have h4 : z.2 = v := e
   omega
theorem Rw.yes {P : List Pr} {u : Nat → Nat} (h : Rw P u) {i : Nat} (hi : i < 64) (h0 : u i ≠ 0) : ∃ j : Nat, P[j]? = some (i, u i) := by
 have h1 := h i hi
 unfold lookP at h1
 cases e2 : P.find? fun y => decide (y.1 = i) with
 | none => rw [e2] at h1; exact absurd h1 h0
 | some z =>
  rw [e2] at h1
  have hz := List.mem_of_find?_eq_some e2
  have hk : z.1 = i := by have hf := List.find?_some e2; simpa using hf
  obtain ⟨j, hj⟩ := List.getElem?_of_mem hz
  refine ⟨j, ?_⟩
  rw [hj]
  obtain ⟨z1, z2⟩ := z
  have hk : z1 = i := hk
  have h1 : u i = z2 := h1
  rw [hk, h1]
/-- How far a row is seen: those below i stand ahead of k. -/
def Seen (P : List Pr) (i k : Nat) : Prop := k ≤ P.length ∧ ∀ (j : Nat) (y : Pr), P[j]? = some y → (j < k ↔ y.1 < i)
theorem Seen.start (P : List Pr) : Seen P 0 0 := ⟨Nat.zero_le _, fun j y _ => by omega⟩
theorem Seen.skip {P : List Pr} {i k : Nat} (h : Seen P i k) (hn : ∀ y ∈ P, y.1 ≠ i) : Seen P (i + 1) k :=
 ⟨h.1, fun j y hj => by
  have h1 := h.2 j y hj
  have h2 := hn y (List.mem_of_getElem? hj)
  omega⟩
theorem Z7l {P : List Pr} (hu : Up P) {a b : Nat} {x y : Pr} (hx : P[a]? = some x) (hy : P[b]? = some y) (h : a < b) : x.1 < y.1 := by
 obtain ⟨a1, rfl⟩ := List.getElem?_eq_some_iff.1 hx
 obtain ⟨a2, rfl⟩ := List.getElem?_eq_some_iff.1 hy
 exact List.pairwise_iff_getElem.1 hu a b a1 a2 h
theorem Seen.next {P : List Pr} {i k v j : Nat} (h : Seen P i k) (hu : Up P) (hj : P[j]? = some (i, v)) : j = k ∧ Seen P (i + 1) (k + 1) := by
 have hjl := (List.getElem?_eq_some_iff.1 hj).1
 have h1 := h.2 j _ hj
 have h1' : ¬ j < k := fun h' => by have := h1.1 h'; exact absurd this (Nat.lt_irrefl _)
 have e : j = k := by
  rcases Nat.lt_trichotomy j k with h2 | h2 | h2
  · exact absurd h2 h1'
  · exact h2
  · exfalso
    obtain ⟨y, hy⟩ : ∃ y, P[k]? = some y := ⟨_, List.getElem?_eq_getElem (by omega)⟩
    have h3 := h.2 k y hy
    have h4 := Z7l hu hy hj h2
    have h4 : y.1 < i := h4
    omega
 subst e
 refine ⟨rfl, by omega, fun q y hq => ?_⟩
 rcases Nat.lt_trichotomy q j with h2 | h2 | h2
 · have := Z7l hu hq hj h2
   have : y.1 < i := this
   omega
 · subst h2
   rw [hj] at hq
   injection hq with hq
   subst hq
   exact ⟨fun _ => Nat.lt_succ_self _, fun _ => Nat.lt_succ_self _⟩
 · have := Z7l hu hj hq h2
   have : i < y.1 := this
   omega
theorem Seen.done {P : List Pr} {k : Nat} (h : Seen P 64 k) (hok : P.all enOk = true) : k = P.length := by
 have hk := h.1
 rcases Nat.lt_or_ge k P.length with h1 | h1
 · exfalso
   obtain ⟨y, hy⟩ : ∃ y, P[k]? = some y := ⟨_, List.getElem?_eq_getElem h1⟩
   have h2 := h.2 k y hy
   have h3 : y.1 < 64 ∧ 1 ≤ y.2 ∧ y.2 ≤ 1023 := of_decide_eq_true (List.all_eq_true.1 hok y (List.mem_of_getElem? hy))
   omega
 · omega
section
variable {w : World} {o : Oper} {ρ : Operand → Value} {x : Operand} {Z : Array Value} {T : TypeId}
end

end Go.Proofs.Ytngehbhhpkkijaa
