/- Structs by value as arguments: a struct of one-cell fields; short lists by their elements. -/
import Derived.Test.YtencbdcfcpohaaaDoorFit
import Derived.Deep.Fields
namespace Go.Proofs.YtencbdcfcpohaaaDoor
set_option linter.unusedVariables false
set_option linter.unusedSimpArgs false
open Go.RowKit Go.ChangeShapes Go.WideShapes Go.ChangeAt Go.Deep

theorem list2_of {α : Type} {l : List α} {a0 a1 : α} (hl : l.length = 2) (h0 : l[0]? = some a0) (h1 : l[1]? = some a1) : l = [a0, a1] := by
  match l, hl with
  | [x0, x1], _ => simp at h0 h1; rw [h0, h1]
theorem list3_of {α : Type} {l : List α} {a0 a1 a2 : α} (hl : l.length = 3) (h0 : l[0]? = some a0) (h1 : l[1]? = some a1) (h2 : l[2]? = some a2) : l = [a0, a1, a2] := by
  match l, hl with
  | [x0, x1, x2], _ => simp at h0 h1 h2; rw [h0, h1, h2]
theorem list4_of {α : Type} {l : List α} {a0 a1 a2 a3 : α} (hl : l.length = 4) (h0 : l[0]? = some a0) (h1 : l[1]? = some a1) (h2 : l[2]? = some a2) (h3 : l[3]? = some a3) : l = [a0, a1, a2, a3] := by
  match l, hl with
  | [x0, x1, x2, x3], _ => simp at h0 h1 h2 h3; rw [h0, h1, h2, h3]
theorem list5_of {α : Type} {l : List α} {a0 a1 a2 a3 a4 : α} (hl : l.length = 5) (h0 : l[0]? = some a0) (h1 : l[1]? = some a1) (h2 : l[2]? = some a2) (h3 : l[3]? = some a3) (h4 : l[4]? = some a4) : l = [a0, a1, a2, a3, a4] := by
  match l, hl with
  | [x0, x1, x2, x3, x4], _ => simp at h0 h1 h2 h3 h4; rw [h0, h1, h2, h3, h4]

theorem take1_drop {α : Type} {l : List α} {i : Nat} {v : α} (h : (l.drop i).take 1 = [v]) : l[i]? = some v := by
  have : ((l.drop i).take 1)[0]? = some v := by rw [h]; rfl
  rw [List.getElem?_take_of_lt (by omega), List.getElem?_drop] at this
  simpa using this

section
variable {P : Program} {w : World} {t : TypeId} {cs : List Value}
/-- Each field's cells are those from its offset on. -/
theorem fit_fields {fs : Array Field} (n : Nat) (ht : P.underlying t = some (.struct fs)) (hC : P.cellsOf t = n) (h : Fit P w t cs) :
    cs.length = n ∧ ∀ (i o e c : Nat), (fs[i]?).map (fun f => (f.offset, f.type)) = some (o, e) → P.cellsOf e = c → Fit P w e ((cs.drop o).take c) := by
  obtain ⟨hl, hx⟩ := fit_struct ht h
  refine ⟨by rw [hl, hC], fun i o e c hf hc => ?_⟩
  cases hfi : fs[i]? with
  | none => rw [hfi] at hf; cases hf
  | some f =>
    rw [hfi] at hf
    simp only [Option.map_some, Option.some.injEq, Prod.mk.injEq] at hf
    obtain ⟨rfl, rfl⟩ := hf
    have := hx i f hfi
    rwa [hc] at this
theorem cell_int {k : IntKind} (ht : P.underlying t = some (.int k)) {i : Nat} (h : Fit P w t ((cs.drop i).take 1)) : ∃ n, cs[i]? = some (.int k n) ∧ (Lit.int k n).wf = true := by
  obtain ⟨n, h1, h2⟩ := fit_int ht h
  exact ⟨n, take1_drop h1, h2⟩
theorem cell_bool (ht : P.underlying t = some .bool) {i : Nat} (h : Fit P w t ((cs.drop i).take 1)) : ∃ b, cs[i]? = some (.bool b) := by
  obtain ⟨n, h1⟩ := fit_bool ht h
  exact ⟨n, take1_drop h1⟩
theorem cell_string (ht : P.underlying t = some .string) {i : Nat} (h : Fit P w t ((cs.drop i).take 1)) : ∃ s : ByteArray, cs[i]? = some (.string s) ∧ s.size ≤ maxLen := by
  obtain ⟨n, h1, h2⟩ := fit_string ht h
  exact ⟨n, take1_drop h1, h2⟩
end
end Go.Proofs.YtencbdcfcpohaaaDoor
