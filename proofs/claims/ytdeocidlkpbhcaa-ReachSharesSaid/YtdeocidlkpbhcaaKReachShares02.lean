/- What an argument that can be read as data looks like, by its type: lemmas that open an argument. No function of the program in sight. -/
import Derived.Test.YtdeocidlkpbhcaaKReachShares00
import Derived.ProofKit
import Derived.OpenShut
import Derived.ChangeOld
import Derived.Deep.Fields
namespace Go.Proofs.Ytdeocidlkpbhcaa
set_option linter.unusedVariables false
set_option linter.unusedSimpArgs false
open Go.RowKit Go.ChangeShapes Go.WideShapes Go.ChangeAt

/-- These cells read as a value of type t. -/
def Fit (P : Program) (w : World) (t : TypeId) (cs : List Value) : Prop :=
  ∃ (H : Type) (enc : TypeId × Value → H) (fuel : Nat) (x : DataW H × List MemPlace), DataW.trod enc P w 0 (fun _ => true) true fuel t cs = some x

/-- An argument of type t. -/
def Arg (P : Program) (w : World) (t : TypeId) (v : Value) : Prop := Fit P w t v.cells.toList ∧ ∃ r base, Value.okWide P w r base t v

section
variable {P : Program} {w : World} {t : TypeId} {cs : List Value} {v : Value}
theorem fit_int {k : IntKind} (ht : P.underlying t = some (.int k)) (h : Fit P w t cs) : ∃ n, cs = [.int k n] ∧ (Lit.int k n).wf = true := by
  obtain ⟨H, enc, fuel, x, h⟩ := h
  obtain ⟨n, h1, _, h2⟩ := DataW.trod_int ht h
  exact ⟨n, h1, h2⟩
theorem arg_bool (ht : P.underlying t = some .bool) (h : Arg P w t v) : ∃ b, v = .bool b := by
  obtain ⟨_, r, base, hv⟩ := h
  exact okWide_bool ht hv
theorem arg_int {k : IntKind} (ht : P.underlying t = some (.int k)) (h : Arg P w t v) : ∃ n, v = .int k n ∧ (Lit.int k n).wf = true := by
  obtain ⟨hf, r, base, hv⟩ := h
  obtain ⟨n, rfl⟩ := okWide_int ht hv
  obtain ⟨m, h1, h2⟩ := fit_int ht hf
  simp [Value.cells] at h1
  subst h1
  exact ⟨n, rfl, h2⟩
end

/-! ### Slices as lists of data: 'Row': element i lies at 'off + i * c', its cells are 'enc x'; 'Row1': elements of one cell. -/
def Row {E : Type} (w : World) (A : Option Addr) (c : Nat) (enc : E → List Value) (xs : List E) : Prop :=
  ∀ i x, xs[i]? = some x → ∃ b off, A = some ⟨b, off, none⟩ ∧ b < w.heap.size ∧ ∀ j u, (enc x)[j]? = some u → w.cell? ⟨b, off + i * c + j, none⟩ = some u
def Row1 {E : Type} (w : World) (A : Option Addr) (enc : E → Value) (xs : List E) : Prop :=
  ∀ i x, xs[i]? = some x → ∃ b off, A = some ⟨b, off, none⟩ ∧ b < w.heap.size ∧ w.cell? ⟨b, off + i, none⟩ = some (enc x)

theorem Row.below {E : Type} {w w' : World} {A : Option Addr} {c : Nat} {enc : E → List Value} {xs : List E} (h : Row w A c enc xs) (hb : Below w.heap.size w w') : Row w' A c enc xs := by
  intro i x hx
  obtain ⟨b, off, hA, hlt, hc⟩ := h i x hx
  exact ⟨b, off, hA, Nat.lt_of_lt_of_le hlt hb.size, fun j u hu => (hb.cell (p := ⟨b, _, none⟩) hlt).trans (hc j u hu)⟩
theorem Row1.below {E : Type} {w w' : World} {A : Option Addr} {enc : E → Value} {xs : List E} (h : Row1 w A enc xs) (hb : Below w.heap.size w w') : Row1 w' A enc xs := by
  intro i x hx
  obtain ⟨b, off, hA, hlt, hc⟩ := h i x hx
  exact ⟨b, off, hA, Nat.lt_of_lt_of_le hlt hb.size, (hb.cell (p := ⟨b, _, none⟩) hlt).trans hc⟩
theorem Row1.at_ {E : Type} {w : World} {A : Option Addr} {enc : E → Value} {xs : List E} (h : Row1 w A enc xs) {i : Nat} (hi : i < xs.length) : ∃ b off, A = some ⟨b, off, none⟩ ∧ b < w.heap.size ∧ w.cell? ⟨b, off + i, none⟩ = some (enc xs[i]) :=
  h i _ (List.getElem?_eq_getElem hi)
theorem Row.at_ {E : Type} {w : World} {A : Option Addr} {c : Nat} {enc : E → List Value} {xs : List E} (h : Row w A c enc xs) {i : Nat} (hi : i < xs.length) : ∃ b off, A = some ⟨b, off, none⟩ ∧ b < w.heap.size ∧ ∀ j u, (enc xs[i])[j]? = some u → w.cell? ⟨b, off + i * c + j, none⟩ = some u :=
  h i _ (List.getElem?_eq_getElem hi)

/-- An element in a later world. -/
theorem Row1.in_ {E : Type} {w w' : World} {A : Option Addr} {enc : E → Value} {xs : List E} (h : Row1 w A enc xs) (hb : Below w.heap.size w w') {i : Nat} (hi : i < xs.length) : ∃ b off, A = some ⟨b, off, none⟩ ∧ b < w.heap.size ∧ w'.cell? ⟨b, off + i, none⟩ = some (enc xs[i]) := by
  obtain ⟨b, off, hA, hlt, hc⟩ := h.at_ hi
  exact ⟨b, off, hA, hlt, (hb.cell (p := ⟨b, _, none⟩) hlt).trans hc⟩
theorem Row.in_ {E : Type} {w w' : World} {A : Option Addr} {c : Nat} {enc : E → List Value} {xs : List E} (h : Row w A c enc xs) (hb : Below w.heap.size w w') {i : Nat} (hi : i < xs.length) : ∃ b off, A = some ⟨b, off, none⟩ ∧ b < w.heap.size ∧ ∀ j u, (enc xs[i])[j]? = some u → w'.cell? ⟨b, off + i * c + j, none⟩ = some u := by
  obtain ⟨b, off, hA, hlt, hc⟩ := h.at_ hi
  exact ⟨b, off, hA, hlt, fun j u hu => (hb.cell (p := ⟨b, _, none⟩) hlt).trans (hc j u hu)⟩

section
variable {P : Program} {w : World} {t e : TypeId} {v : Value} {E : Type}
end
end Go.Proofs.Ytdeocidlkpbhcaa

/- Structs by value as arguments: a struct of one-cell fields; short lists by their elements. -/
namespace Go.Proofs.Ytdeocidlkpbhcaa
set_option linter.unusedVariables false
set_option linter.unusedSimpArgs false
open Go.RowKit Go.ChangeShapes Go.WideShapes Go.ChangeAt Go.Deep

section
variable {P : Program} {w : World} {t : TypeId} {cs : List Value}
end
end Go.Proofs.Ytdeocidlkpbhcaa
