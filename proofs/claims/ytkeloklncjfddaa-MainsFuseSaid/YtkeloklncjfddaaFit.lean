/- What an argument that can be read as data looks like, by its type: lemmas that open an argument. No function of the program in sight. -/
import Derived.Test.YtkeloklncjfddaaMem
import Derived.ProofKit
import Derived.OpenShut
import Derived.ChangeOld
namespace Go.Proofs.Ytkeloklncjfddaa
open Go.RowKit Go.ChangeShapes Go.WideShapes Go.ChangeAt

/-- These cells read as a value of type t. -/
def Fit (P : Program) (w : World) (t : TypeId) (cs : List Value) : Prop :=
  ∃ (H : Type) (enc : TypeId × Value → H) (fuel : Nat) (x : DataW H × List MemPlace), DataW.trod enc P w 0 (fun _ => true) true fuel t cs = some x

/-- An argument of type t. -/
def Arg (P : Program) (w : World) (t : TypeId) (v : Value) : Prop := Fit P w t v.cells.toList ∧ ∃ r base, Value.okWide P w r base t v

section
variable {P : Program} {w : World} {t : TypeId} {cs : List Value} {v : Value}
theorem Arg.mk_ {H : Type} {enc : TypeId × Value → H} {d : DataW H} {p : List MemPlace} {r : Reach} {base : Nat} (h : DataW.Trod enc P w 0 (fun _ => true) true t v d p) (hv : Value.okWide P w r base t v) : Arg P w t v := by
  obtain ⟨fuel, hf⟩ := h
  exact ⟨⟨H, enc, fuel, _, hf⟩, r, base, hv⟩
theorem fit_bool (ht : P.underlying t = some .bool) (h : Fit P w t cs) : ∃ b, cs = [.bool b] := by
  obtain ⟨H, enc, fuel, x, h⟩ := h
  obtain ⟨b, h1, _⟩ := DataW.trod_bool ht h
  exact ⟨b, h1⟩
theorem fit_int {k : IntKind} (ht : P.underlying t = some (.int k)) (h : Fit P w t cs) : ∃ n, cs = [.int k n] ∧ (Lit.int k n).wf = true := by
  obtain ⟨H, enc, fuel, x, h⟩ := h
  obtain ⟨n, h1, _, h2⟩ := DataW.trod_int ht h
  exact ⟨n, h1, h2⟩
theorem fit_string (ht : P.underlying t = some .string) (h : Fit P w t cs) : ∃ s : ByteArray, cs = [.string s] ∧ s.size ≤ maxLen := by
  obtain ⟨H, enc, fuel, x, h⟩ := h
  obtain ⟨n, h1, _, h2⟩ := DataW.trod_string ht h
  exact ⟨n, h1, h2⟩
theorem fit_struct {fs : Array Field} (ht : P.underlying t = some (.struct fs)) (h : Fit P w t cs) :
    cs.length = P.cellsOf t ∧ ∀ (i : Nat) (f : Field), fs[i]? = some f → Fit P w f.type ((cs.drop f.offset).take (P.cellsOf f.type)) := by
  obtain ⟨H, enc, fuel, x, h⟩ := h
  obtain ⟨xs, n, _, _, hl, hx, hg⟩ := DataW.trod_struct ht h
  refine ⟨hl, fun i f hf => ?_⟩
  have hi : i < xs.length := by rw [hx]; exact (Array.getElem?_eq_some_iff.1 hf).1
  exact ⟨H, enc, n, xs[i], (hg i f hf).trans (List.getElem?_eq_getElem hi)⟩
theorem fit_array {n : Nat} {e : TypeId} (ht : P.underlying t = some (.array n e)) (h : Fit P w t cs) :
    cs.length = P.cellsOf t ∧ ∀ i, i < n → Fit P w e ((cs.drop (i * P.cellsOf e)).take (P.cellsOf e)) := by
  obtain ⟨H, enc, fuel, x, h⟩ := h
  obtain ⟨xs, m, _, _, hl, hx, hg⟩ := DataW.trod_array ht h
  refine ⟨hl, fun i hi => ?_⟩
  exact ⟨H, enc, m, xs[i], (hg i hi).trans (List.getElem?_eq_getElem (by omega))⟩
/-- A slice: its elements lie from an address on, c cells each. -/
theorem fit_slice {e : TypeId} {c : Nat} (ht : P.underlying t = some (.slice e)) (hc : P.cellsOf e = c) (h : Fit P w t cs) :
    ∃ A len cap, cs = [.slice A len cap] ∧ len ≤ cap ∧ cap ≤ maxLen ∧ (A = none → len = 0) ∧
      (∀ ad, A = some ad → ∀ i, i < len → ∃ cs', cs'.length = c ∧ (∀ j, j < c → w.cell? ((ad.add (i * c)).add j) = cs'[j]?) ∧ Fit P w e cs') := by
  obtain ⟨H, enc, fuel, x, h⟩ := h
  rcases DataW.trod_slice ht h with ⟨rfl, _⟩ | ⟨a, len, cap, elems, rest, n, _, rfl, _, _, hl, hm, hlen, hel, _, _⟩
  · exact ⟨none, 0, 0, rfl, Nat.le_refl _, by decide, fun _ => rfl, fun ad e => by cases e⟩
  · refine ⟨some a, len, cap, rfl, hl, hm, (fun e => by cases e), fun ad e i hi => ?_⟩
    injection e with e
    subst e
    have := hel i hi
    rw [List.getElem?_eq_getElem (by omega)] at this
    obtain ⟨cs', h1, h2⟩ := Option.bind_eq_some_iff.1 this
    obtain ⟨_, h3, h4⟩ := World.cells?_some h1
    subst hc
    exact ⟨cs', h3, h4, H, enc, n, _, h2⟩

theorem arg_bool (ht : P.underlying t = some .bool) (h : Arg P w t v) : ∃ b, v = .bool b := by
  obtain ⟨_, r, base, hv⟩ := h
  exact okWide_bool ht hv
theorem arg_int {k : IntKind} (ht : P.underlying t = some (.int k)) (h : Arg P w t v) : ∃ n, v = .int k n ∧ (Lit.int k n).wf = true := by
  obtain ⟨hf, r, base, hv⟩ := h
  obtain ⟨n, rfl⟩ := okWide_int ht hv
  obtain ⟨m, h1, h2⟩ := fit_int ht hf
  simp [Value.cells] at h1
  subst h1
  exact ⟨n, rfl, h2⟩
theorem arg_string (ht : P.underlying t = some .string) (h : Arg P w t v) : ∃ s : ByteArray, v = .string s ∧ s.size ≤ maxLen := by
  obtain ⟨hf, r, base, hv⟩ := h
  obtain ⟨n, rfl⟩ := okWide_string ht hv
  obtain ⟨m, h1, h2⟩ := fit_string ht hf
  simp [Value.cells] at h1
  subst h1
  exact ⟨n, rfl, h2⟩
theorem arg_slice {e : TypeId} (ht : P.underlying t = some (.slice e)) (h : Arg P w t v) : Fit P w t [v] := by
  obtain ⟨hf, r, base, hv⟩ := h
  obtain ⟨a, len, cap, rfl⟩ := okWide_slice ht hv
  exact hf
theorem arg_struct {fs : Array Field} (ht : P.underlying t = some (.struct fs)) (h : Arg P w t v) : ∃ cs, v = .agg ⟨cs⟩ ∧ Fit P w t cs := by
  obtain ⟨hf, r, base, hv⟩ := h
  obtain ⟨cs, rfl, _⟩ := okWide_struct ht hv
  exact ⟨cs.toList, rfl, hf⟩
theorem arg_array {n : Nat} {e : TypeId} (ht : P.underlying t = some (.array n e)) (h : Arg P w t v) : ∃ cs, v = .agg ⟨cs⟩ ∧ Fit P w t cs := by
  obtain ⟨hf, r, base, hv⟩ := h
  simp only [Value.okWide, ht] at hv
  obtain ⟨cs, rfl, _, _⟩ := hv
  exact ⟨cs.toList, rfl, hf⟩
end
end Go.Proofs.Ytkeloklncjfddaa
