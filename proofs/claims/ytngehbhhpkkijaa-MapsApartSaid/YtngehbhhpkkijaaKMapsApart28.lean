/- Maps as rows of pairs, plain: look-ups behind a put. -/
import Derived.Test.YtngehbhhpkkijaaKMapsApart27
namespace Go.Proofs.Ytngehbhhpkkijaa
set_option linter.unusedVariables false
set_option linter.unusedSimpArgs false
open Go.RowKit Go.Maps
theorem Tre.norm {N : List Nd} {root c : Nat} {P : List Pr} (h : Tre N root c P) : Tre N root (if root = 0 then 0 else c) P := by
  by_cases e : root = 0
  · subst e
    rw [if_pos rfl, h.root0]
    exact Tre.zero N
  · rw [if_neg e]
    exact h
theorem Tre.next {N : List Nd} {root r c : Nat} {P : List Pr} (h : Tre N r ((if root = 0 then 0 else c) + if root = 0 then 8 else 1) P) (hc : 7 ≤ c) : Tre N r (c + 1) P := h.le (by split <;> omega)
theorem lookP_self {k v : Nat} {P : List Pr} : lookP k (insP (k, v) P) = some v := by
  unfold lookP insP
  rw [List.find?_append, List.find?_eq_none.2 (fun y hy => by have h := (List.mem_filter.1 hy).2; simp at h ⊢; omega)]
  simp
theorem find_filter {p q : Pr → Bool} (h : ∀ y, p y = true → q y = true) : ∀ (P : List Pr), (P.filter q).find? p = P.find? p
  | [] => rfl
  | a :: P => by
    have ih := find_filter h P
    cases hp : p a with
    | true => rw [List.filter_cons_of_pos (h a hp), List.find?_cons_of_pos hp, List.find?_cons_of_pos hp]
    | false =>
      cases hq : q a with
      | true => rw [List.filter_cons_of_pos hq, List.find?_cons_of_neg (by simp [hp]), List.find?_cons_of_neg (by simp [hp]), ih]
      | false => rw [List.filter_cons_of_neg (by simp [hq]), List.find?_cons_of_neg (by simp [hp]), ih]
theorem lookP_other {k k' v : Nat} {P : List Pr} (h : k' ≠ k) : lookP k' (insP (k, v) P) = lookP k' P := by
  unfold lookP insP
  rw [List.find?_append]
  by_cases hlt : k' < k
  · rw [find_filter (P := P) (fun y hy => by simp at hy ⊢; omega)]
    rw [List.find?_eq_none (l := (k, v) :: _).2 (fun y hy => by
      rcases List.mem_cons.1 hy with rfl | hy
      · simp; omega
      · have h := (List.mem_filter.1 hy).2; simp at h ⊢; omega)]
    simp
  · rw [List.find?_eq_none.2 (fun y hy => by have h := (List.mem_filter.1 hy).2; simp at h ⊢; omega), List.find?_cons_of_neg (by simp; omega), find_filter (P := P) (fun y hy => by simp at hy ⊢; omega)]
    simp
theorem ins_ok {k v : Nat} {P : List Pr} (h : P.all enOk = true) (hk : k < 64) (hv : 1 ≤ v ∧ v ≤ 1023) : (insP (k, v) P).all enOk = true :=
  List.all_eq_true.2 fun y hy => by
    rcases mem_insP hy with rfl | hy
    · exact decide_eq_true ⟨hk, hv⟩
    · exact List.all_eq_true.1 h y hy
theorem ok_le {P : List Pr} (h : P.all enOk = true) : ∀ x ∈ P, x.2 ≤ 1000000 := fun x hx => by
  have h1 : x.1 < 64 ∧ 1 ≤ x.2 ∧ x.2 ≤ 1023 := of_decide_eq_true (List.all_eq_true.1 h x hx)
  omega
/-- An entry of a row. -/
theorem es_cells {w : World} {B : Option Addr} {n c : Nat} {ps : List Pr} (h : (tEs (.slice B n c) ps).holds w) {i : Nat} {x : Pr} (hi : ps[i]? = some x) : ∃ g, B = some ⟨g, 0, none⟩ ∧ w.cell? ⟨g, i * 2, none⟩ = some (.int .i64 (x.1 : Nat)) ∧ w.cell? ⟨g, i * 2 + 1, none⟩ = some (.int .i64 (x.2 : Nat)) := by
  have hl := (List.getElem?_eq_some_iff.1 hi).1
  obtain ⟨g, cap', cur, e, -⟩ := row_some h (by omega)
  injection e with e1 e2 e3
  subst e1
  obtain ⟨b, o, e, _, hc⟩ := es_row h i x hi
  injection e with e
  injection e with e e'
  subst e e'
  refine ⟨g, rfl, ?_, ?_⟩
  · have := hc 0 _ rfl; simpa using this
  · have := hc 1 _ rfl; simpa using this
end Go.Proofs.Ytngehbhhpkkijaa
