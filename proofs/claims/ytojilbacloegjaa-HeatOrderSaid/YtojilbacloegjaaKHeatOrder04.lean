/- What an argument that can be read as data looks like, by its type: lemmas that open an argument. No function of the program in sight. -/
import Derived.Test.YtojilbacloegjaaKHeatOrder00
import Derived.ProofKit
import Derived.OpenShut
import Derived.ChangeOld
import Derived.Deep.Fields
import Derived.Test.YtojilbacloegjaaKHeatOrder03
import Derived.Shelf.AbstractIn
import Derived.TacticsInMore
import Derived.Lib.FrozenHead2
namespace Go.Proofs.Ytojilbacloegjaa
set_option linter.unusedVariables false
set_option linter.unusedSimpArgs false
open Go.RowKit Go.ChangeShapes Go.WideShapes Go.ChangeAt

/-- These cells read as a value of type t. -/
def Fit (P : Program) (w : World) (t : TypeId) (cs : List Value) : Prop :=
  ∃ (H : Type) (enc : TypeId × Value → H) (fuel : Nat) (x : DataW H × List MemPlace), DataW.trod enc P w 0 (fun _ => true) true fuel t cs = some x

/-- An argument of type t. -/
def Arg (P : Program) (w : World) (t : TypeId) (v : Value) : Prop := Fit P w t v.cells.toList ∧ ∃ r base, Value.okWide P w r base t v

section
variable {P : Program} {w : World} {t : TypeId} {cs : List Value} {v : Value}
theorem Arg.mk_ {H : Type} {enc : TypeId × Value → H} {d : DataW H} {p : List MemPlace} {r : Reach} {base : Nat} (h : DataW.Trod enc P w 0 (fun _ => true) true t v d p) (hv : Value.okWide P w r base t v) : Arg P w t v := by
  obtain ⟨fuel, hf⟩ := h
  exact ⟨⟨H, enc, fuel, _, hf⟩, r, base, hv⟩
theorem fit_bool (ht : P.underlying t = some .bool) (h : Fit P w t cs) : ∃ b, cs = [.bool b] := by
  obtain ⟨H, enc, fuel, x, h⟩ := h
  obtain ⟨b, h1, _⟩ := DataW.trod_bool ht h
  exact ⟨b, h1⟩
theorem fit_int {k : IntKind} (ht : P.underlying t = some (.int k)) (h : Fit P w t cs) : ∃ n, cs = [.int k n] ∧ (Lit.int k n).wf = true := by
  obtain ⟨H, enc, fuel, x, h⟩ := h
  obtain ⟨n, h1, _, h2⟩ := DataW.trod_int ht h
  exact ⟨n, h1, h2⟩
theorem fit_string (ht : P.underlying t = some .string) (h : Fit P w t cs) : ∃ s : ByteArray, cs = [.string s] ∧ s.size ≤ maxLen := by
  obtain ⟨H, enc, fuel, x, h⟩ := h
  obtain ⟨n, h1, _, h2⟩ := DataW.trod_string ht h
  exact ⟨n, h1, h2⟩
theorem fit_struct {fs : Array Field} (ht : P.underlying t = some (.struct fs)) (h : Fit P w t cs) :
    cs.length = P.cellsOf t ∧ ∀ (i : Nat) (f : Field), fs[i]? = some f → Fit P w f.type ((cs.drop f.offset).take (P.cellsOf f.type)) := by
  obtain ⟨H, enc, fuel, x, h⟩ := h
  obtain ⟨xs, n, _, _, hl, hx, hg⟩ := DataW.trod_struct ht h
  refine ⟨hl, fun i f hf => ?_⟩
  have hi : i < xs.length := by rw [hx]; exact (Array.getElem?_eq_some_iff.1 hf).1
  exact ⟨H, enc, n, xs[i], (hg i f hf).trans (List.getElem?_eq_getElem hi)⟩
theorem fit_array {n : Nat} {e : TypeId} (ht : P.underlying t = some (.array n e)) (h : Fit P w t cs) :
    cs.length = P.cellsOf t ∧ ∀ i, i < n → Fit P w e ((cs.drop (i * P.cellsOf e)).take (P.cellsOf e)) := by
  obtain ⟨H, enc, fuel, x, h⟩ := h
  obtain ⟨xs, m, _, _, hl, hx, hg⟩ := DataW.trod_array ht h
  refine ⟨hl, fun i hi => ?_⟩
  exact ⟨H, enc, m, xs[i], (hg i hi).trans (List.getElem?_eq_getElem (by omega))⟩
/-- A slice: its elements lie from an address on, c cells each. -/
theorem fit_slice {e : TypeId} {c : Nat} (ht : P.underlying t = some (.slice e)) (hc : P.cellsOf e = c) (h : Fit P w t cs) :
    ∃ A len cap, cs = [.slice A len cap] ∧ len ≤ cap ∧ cap ≤ maxLen ∧ (A = none → len = 0) ∧
      (∀ ad, A = some ad → ∀ i, i < len → ∃ cs', cs'.length = c ∧ (∀ j, j < c → w.cell? ((ad.add (i * c)).add j) = cs'[j]?) ∧ Fit P w e cs') := by
  obtain ⟨H, enc, fuel, x, h⟩ := h
  rcases DataW.trod_slice ht h with ⟨rfl, _⟩ | ⟨a, len, cap, elems, rest, n, _, rfl, _, _, hl, hm, hlen, hel, _, _⟩
  · exact ⟨none, 0, 0, rfl, Nat.le_refl _, by decide, fun _ => rfl, fun ad e => by cases e⟩
  · refine ⟨some a, len, cap, rfl, hl, hm, (fun e => by cases e), fun ad e i hi => ?_⟩
    injection e with e
    subst e
    have := hel i hi
    rw [List.getElem?_eq_getElem (by omega)] at this
    obtain ⟨cs', h1, h2⟩ := Option.bind_eq_some_iff.1 this
    obtain ⟨_, h3, h4⟩ := World.cells?_some h1
    subst hc
    exact ⟨cs', h3, h4, H, enc, n, _, h2⟩

theorem arg_bool (ht : P.underlying t = some .bool) (h : Arg P w t v) : ∃ b, v = .bool b := by
  obtain ⟨_, r, base, hv⟩ := h
  exact okWide_bool ht hv
theorem arg_int {k : IntKind} (ht : P.underlying t = some (.int k)) (h : Arg P w t v) : ∃ n, v = .int k n ∧ (Lit.int k n).wf = true := by
  obtain ⟨hf, r, base, hv⟩ := h
  obtain ⟨n, rfl⟩ := okWide_int ht hv
  obtain ⟨m, h1, h2⟩ := fit_int ht hf
  simp [Value.cells] at h1
  subst h1
  exact ⟨n, rfl, h2⟩
theorem arg_string (ht : P.underlying t = some .string) (h : Arg P w t v) : ∃ s : ByteArray, v = .string s ∧ s.size ≤ maxLen := by
  obtain ⟨hf, r, base, hv⟩ := h
  obtain ⟨n, rfl⟩ := okWide_string ht hv
  obtain ⟨m, h1, h2⟩ := fit_string ht hf
  simp [Value.cells] at h1
  subst h1
  exact ⟨n, rfl, h2⟩
theorem arg_slice {e : TypeId} (ht : P.underlying t = some (.slice e)) (h : Arg P w t v) : Fit P w t [v] := by
  obtain ⟨hf, r, base, hv⟩ := h
  obtain ⟨a, len, cap, rfl⟩ := okWide_slice ht hv
  exact hf
theorem arg_struct {fs : Array Field} (ht : P.underlying t = some (.struct fs)) (h : Arg P w t v) : ∃ cs, v = .agg ⟨cs⟩ ∧ Fit P w t cs := by
  obtain ⟨hf, r, base, hv⟩ := h
  obtain ⟨cs, rfl, _⟩ := okWide_struct ht hv
  exact ⟨cs.toList, rfl, hf⟩
theorem arg_array {n : Nat} {e : TypeId} (ht : P.underlying t = some (.array n e)) (h : Arg P w t v) : ∃ cs, v = .agg ⟨cs⟩ ∧ Fit P w t cs := by
  obtain ⟨hf, r, base, hv⟩ := h
  simp only [Value.okWide, ht] at hv
  obtain ⟨cs, rfl, _, _⟩ := hv
  exact ⟨cs.toList, rfl, hf⟩
end

/-! ### Slices as lists of data: 'Row': element i lies at 'off + i * c', its cells are 'enc x'; 'Row1': elements of one cell. -/
theorem cell_lt {w : World} {a : Addr} {v : Value} (h : w.cell? a = some v) : a.block < w.heap.size := by
  rcases Nat.lt_or_ge a.block w.heap.size with hlt | hge
  · exact hlt
  · have e : w.heap[a.block]? = none := by simp [hge]
    simp [World.cell?, e] at h

def Row {E : Type} (w : World) (A : Option Addr) (c : Nat) (enc : E → List Value) (xs : List E) : Prop :=
  ∀ i x, xs[i]? = some x → ∃ b off, A = some ⟨b, off, none⟩ ∧ b < w.heap.size ∧ ∀ j u, (enc x)[j]? = some u → w.cell? ⟨b, off + i * c + j, none⟩ = some u
def Row1 {E : Type} (w : World) (A : Option Addr) (enc : E → Value) (xs : List E) : Prop :=
  ∀ i x, xs[i]? = some x → ∃ b off, A = some ⟨b, off, none⟩ ∧ b < w.heap.size ∧ w.cell? ⟨b, off + i, none⟩ = some (enc x)

theorem Row.below {E : Type} {w w' : World} {A : Option Addr} {c : Nat} {enc : E → List Value} {xs : List E} (h : Row w A c enc xs) (hb : Below w.heap.size w w') : Row w' A c enc xs := by
  intro i x hx
  obtain ⟨b, off, hA, hlt, hc⟩ := h i x hx
  exact ⟨b, off, hA, Nat.lt_of_lt_of_le hlt hb.size, fun j u hu => (hb.cell (p := ⟨b, _, none⟩) hlt).trans (hc j u hu)⟩
theorem Row1.below {E : Type} {w w' : World} {A : Option Addr} {enc : E → Value} {xs : List E} (h : Row1 w A enc xs) (hb : Below w.heap.size w w') : Row1 w' A enc xs := by
  intro i x hx
  obtain ⟨b, off, hA, hlt, hc⟩ := h i x hx
  exact ⟨b, off, hA, Nat.lt_of_lt_of_le hlt hb.size, (hb.cell (p := ⟨b, _, none⟩) hlt).trans hc⟩
theorem Row1.at_ {E : Type} {w : World} {A : Option Addr} {enc : E → Value} {xs : List E} (h : Row1 w A enc xs) {i : Nat} (hi : i < xs.length) : ∃ b off, A = some ⟨b, off, none⟩ ∧ b < w.heap.size ∧ w.cell? ⟨b, off + i, none⟩ = some (enc xs[i]) :=
  h i _ (List.getElem?_eq_getElem hi)
theorem Row.at_ {E : Type} {w : World} {A : Option Addr} {c : Nat} {enc : E → List Value} {xs : List E} (h : Row w A c enc xs) {i : Nat} (hi : i < xs.length) : ∃ b off, A = some ⟨b, off, none⟩ ∧ b < w.heap.size ∧ ∀ j u, (enc xs[i])[j]? = some u → w.cell? ⟨b, off + i * c + j, none⟩ = some u :=
  h i _ (List.getElem?_eq_getElem hi)

/-- An element in a later world. -/
theorem Row1.in_ {E : Type} {w w' : World} {A : Option Addr} {enc : E → Value} {xs : List E} (h : Row1 w A enc xs) (hb : Below w.heap.size w w') {i : Nat} (hi : i < xs.length) : ∃ b off, A = some ⟨b, off, none⟩ ∧ b < w.heap.size ∧ w'.cell? ⟨b, off + i, none⟩ = some (enc xs[i]) := by
  obtain ⟨b, off, hA, hlt, hc⟩ := h.at_ hi
  exact ⟨b, off, hA, hlt, (hb.cell (p := ⟨b, _, none⟩) hlt).trans hc⟩
theorem Row.in_ {E : Type} {w w' : World} {A : Option Addr} {c : Nat} {enc : E → List Value} {xs : List E} (h : Row w A c enc xs) (hb : Below w.heap.size w w') {i : Nat} (hi : i < xs.length) : ∃ b off, A = some ⟨b, off, none⟩ ∧ b < w.heap.size ∧ ∀ j u, (enc xs[i])[j]? = some u → w'.cell? ⟨b, off + i * c + j, none⟩ = some u := by
  obtain ⟨b, off, hA, hlt, hc⟩ := h.at_ hi
  exact ⟨b, off, hA, hlt, fun j u hu => (hb.cell (p := ⟨b, _, none⟩) hlt).trans (hc j u hu)⟩

theorem list_of {E : Type} (n : Nat) (p : Nat → E → Prop) (h : ∀ i, i < n → ∃ x, p i x) : ∃ xs : List E, xs.length = n ∧ ∀ i x, xs[i]? = some x → p i x := by
  induction n with
  | zero => exact ⟨[], rfl, fun i x hx => by simp at hx⟩
  | succ n ih =>
    obtain ⟨xs, hl, hp⟩ := ih (fun i hi => h i (by omega))
    obtain ⟨x, hx⟩ := h n (by omega)
    refine ⟨xs ++ [x], by simp [hl], fun i y hy => ?_⟩
    by_cases hi : i < n
    · rw [List.getElem?_append_left (by omega)] at hy
      exact hp i y hy
    · have : i = n := by
        have := (List.getElem?_eq_some_iff.1 hy).1
        simp at this
        omega
      subst this
      rw [List.getElem?_append_right (by omega)] at hy
      simp [hl] at hy
      subst hy
      exact hx

section
variable {P : Program} {w : World} {t e : TypeId} {v : Value} {E : Type}
theorem fit_row {c : Nat} (enc : E → List Value) (good : E → Prop) (ht : P.underlying t = some (.slice e)) (hc : P.cellsOf e = c) (hpos : 0 < c)
    (hE : ∀ cs', cs'.length = c → Fit P w e cs' → ∃ x, cs' = enc x ∧ good x) (h : Fit P w t [v]) :
    ∃ A len cap, ∃ xs : List E, v = .slice A len cap ∧ len ≤ cap ∧ cap ≤ maxLen ∧ xs.length = len ∧ (∀ x ∈ xs, good x) ∧ Row w A c enc xs := by
  obtain ⟨A, len, cap, hv, hl, hm, hn, hr⟩ := fit_slice ht hc h
  injection hv with hv _
  subst hv
  rcases A with _ | ad
  · obtain rfl := hn rfl
    exact ⟨none, 0, cap, [], rfl, hl, hm, rfl, (fun x hx => by simp at hx), fun i x hx => by simp at hx⟩
  · obtain ⟨xs, hlen, hp⟩ := list_of len (fun i x => (∀ j, j < c → w.cell? ((ad.add (i * c)).add j) = (enc x)[j]?) ∧ (enc x).length = c ∧ good x) (fun i hi => by
      obtain ⟨cs', h1, h2, h3⟩ := hr ad rfl i hi
      obtain ⟨x, rfl, hg⟩ := hE cs' h1 h3
      exact ⟨x, h2, h1, hg⟩)
    refine ⟨some ad, len, cap, xs, rfl, hl, hm, hlen, (fun x hx => ?_), fun i x hx => ?_⟩
    · obtain ⟨i, hi, rfl⟩ := List.getElem_of_mem hx
      exact (hp i _ (List.getElem?_eq_getElem hi)).2.2
    · have hi : i < len := by have := (List.getElem?_eq_some_iff.1 hx).1; omega
      obtain ⟨h0, _, _⟩ := hp 0 _ (List.getElem?_eq_getElem (by omega))
      obtain ⟨h2, h1, _⟩ := hp i x hx
      have q0 := h0 0 hpos
      obtain ⟨_, h1', _⟩ := hp 0 _ (List.getElem?_eq_getElem (by omega))
      rw [List.getElem?_eq_getElem (by omega)] at q0
      have hs := World.cell?_spot q0
      simp [Addr.add] at hs
      obtain ⟨b, off, spot⟩ := ad
      simp at hs
      subst hs
      refine ⟨b, off, rfl, ?_, fun j u hu => ?_⟩
      · have := cell_lt q0
        simpa [Addr.add] using this
      · have hj : j < c := by have := (List.getElem?_eq_some_iff.1 hu).1; omega
        have := h2 j hj
        rw [hu] at this
        rw [← this]
        congr 1
        unfold Addr.add
        by_cases k1 : i * c = 0 <;> by_cases k2 : j = 0 <;> simp [k1, k2, Nat.add_assoc]

theorem fit_row1 (enc : E → Value) (good : E → Prop) (ht : P.underlying t = some (.slice e)) (hc : P.cellsOf e = 1)
    (hE : ∀ cs', Fit P w e cs' → ∃ x, cs' = [enc x] ∧ good x) (h : Fit P w t [v]) :
    ∃ A len cap, ∃ xs : List E, v = .slice A len cap ∧ len ≤ cap ∧ cap ≤ maxLen ∧ xs.length = len ∧ (∀ x ∈ xs, good x) ∧ Row1 w A enc xs := by
  obtain ⟨A, len, cap, xs, h1, h2, h3, h4, h5, h6⟩ := fit_row (fun x => [enc x]) good ht hc (by omega) (fun cs' _ hf => hE cs' hf) h
  refine ⟨A, len, cap, xs, h1, h2, h3, h4, h5, fun i x hx => ?_⟩
  obtain ⟨b, off, hA, hb, hj⟩ := h6 i x hx
  exact ⟨b, off, hA, hb, by simpa using hj 0 _ rfl⟩

theorem arg_ints {k : IntKind} (ht : P.underlying t = some (.slice e)) (he : P.underlying e = some (.int k)) (hc : P.cellsOf e = 1) (h : Arg P w t v) :
    ∃ A len cap, ∃ xs : List Int, v = .slice A len cap ∧ len ≤ cap ∧ cap ≤ maxLen ∧ xs.length = len ∧ (∀ x ∈ xs, (Lit.int k x).wf = true) ∧ Row1 w A (Value.int k) xs :=
  fit_row1 _ _ ht hc (fun _ hf => fit_int he hf) (arg_slice ht h)
theorem arg_bools (ht : P.underlying t = some (.slice e)) (he : P.underlying e = some .bool) (hc : P.cellsOf e = 1) (h : Arg P w t v) :
    ∃ A len cap, ∃ xs : List Bool, v = .slice A len cap ∧ len ≤ cap ∧ cap ≤ maxLen ∧ xs.length = len ∧ Row1 w A Value.bool xs := by
  obtain ⟨A, len, cap, xs, h1, h2, h3, h4, _, h5⟩ := fit_row1 (E := Bool) Value.bool (fun _ => True) ht hc (fun _ hf => by obtain ⟨b, hb⟩ := fit_bool he hf; exact ⟨b, hb, trivial⟩) (arg_slice ht h)
  exact ⟨A, len, cap, xs, h1, h2, h3, h4, h5⟩
theorem arg_strings (ht : P.underlying t = some (.slice e)) (he : P.underlying e = some .string) (hc : P.cellsOf e = 1) (h : Arg P w t v) :
    ∃ A len cap, ∃ xs : List ByteArray, v = .slice A len cap ∧ len ≤ cap ∧ cap ≤ maxLen ∧ xs.length = len ∧ (∀ x ∈ xs, x.size ≤ maxLen) ∧ Row1 w A Value.string xs :=
  fit_row1 _ _ ht hc (fun _ hf => fit_string he hf) (arg_slice ht h)
end
end Go.Proofs.Ytojilbacloegjaa

/- Structs by value as arguments: a struct of one-cell fields; short lists by their elements. -/
namespace Go.Proofs.Ytojilbacloegjaa
set_option linter.unusedVariables false
set_option linter.unusedSimpArgs false
open Go.RowKit Go.ChangeShapes Go.WideShapes Go.ChangeAt Go.Deep

theorem list2_of {α : Type} {l : List α} {a0 a1 : α} (hl : l.length = 2) (h0 : l[0]? = some a0) (h1 : l[1]? = some a1) : l = [a0, a1] := by
  match l, hl with
  | [x0, x1], _ => simp at h0 h1; rw [h0, h1]
theorem list3_of {α : Type} {l : List α} {a0 a1 a2 : α} (hl : l.length = 3) (h0 : l[0]? = some a0) (h1 : l[1]? = some a1) (h2 : l[2]? = some a2) : l = [a0, a1, a2] := by
  match l, hl with
  | [x0, x1, x2], _ => simp at h0 h1 h2; rw [h0, h1, h2]
theorem list4_of {α : Type} {l : List α} {a0 a1 a2 a3 : α} (hl : l.length = 4) (h0 : l[0]? = some a0) (h1 : l[1]? = some a1) (h2 : l[2]? = some a2) (h3 : l[3]? = some a3) : l = [a0, a1, a2, a3] := by
  match l, hl with
  | [x0, x1, x2, x3], _ => simp at h0 h1 h2 h3; rw [h0, h1, h2, h3]
theorem list5_of {α : Type} {l : List α} {a0 a1 a2 a3 a4 : α} (hl : l.length = 5) (h0 : l[0]? = some a0) (h1 : l[1]? = some a1) (h2 : l[2]? = some a2) (h3 : l[3]? = some a3) (h4 : l[4]? = some a4) : l = [a0, a1, a2, a3, a4] := by
  match l, hl with
  | [x0, x1, x2, x3, x4], _ => simp at h0 h1 h2 h3 h4; rw [h0, h1, h2, h3, h4]

theorem take1_drop {α : Type} {l : List α} {i : Nat} {v : α} (h : (l.drop i).take 1 = [v]) : l[i]? = some v := by
  have : ((l.drop i).take 1)[0]? = some v := by rw [h]; rfl
  rw [List.getElem?_take_of_lt (by omega), List.getElem?_drop] at this
  simpa using this

section
variable {P : Program} {w : World} {t : TypeId} {cs : List Value}
/-- Each field's cells are those from its offset on. -/
theorem fit_fields {fs : Array Field} (n : Nat) (ht : P.underlying t = some (.struct fs)) (hC : P.cellsOf t = n) (h : Fit P w t cs) :
    cs.length = n ∧ ∀ (i o e c : Nat), (fs[i]?).map (fun f => (f.offset, f.type)) = some (o, e) → P.cellsOf e = c → Fit P w e ((cs.drop o).take c) := by
  obtain ⟨hl, hx⟩ := fit_struct ht h
  refine ⟨by rw [hl, hC], fun i o e c hf hc => ?_⟩
  cases hfi : fs[i]? with
  | none => rw [hfi] at hf; cases hf
  | some f =>
    rw [hfi] at hf
    simp only [Option.map_some, Option.some.injEq, Prod.mk.injEq] at hf
    obtain ⟨rfl, rfl⟩ := hf
    have := hx i f hfi
    rwa [hc] at this
theorem cell_int {k : IntKind} (ht : P.underlying t = some (.int k)) {i : Nat} (h : Fit P w t ((cs.drop i).take 1)) : ∃ n, cs[i]? = some (.int k n) ∧ (Lit.int k n).wf = true := by
  obtain ⟨n, h1, h2⟩ := fit_int ht h
  exact ⟨n, take1_drop h1, h2⟩
theorem cell_bool (ht : P.underlying t = some .bool) {i : Nat} (h : Fit P w t ((cs.drop i).take 1)) : ∃ b, cs[i]? = some (.bool b) := by
  obtain ⟨n, h1⟩ := fit_bool ht h
  exact ⟨n, take1_drop h1⟩
theorem cell_string (ht : P.underlying t = some .string) {i : Nat} (h : Fit P w t ((cs.drop i).take 1)) : ∃ s : ByteArray, cs[i]? = some (.string s) ∧ s.size ≤ maxLen := by
  obtain ⟨n, h1, h2⟩ := fit_string ht h
  exact ⟨n, take1_drop h1, h2⟩
end
end Go.Proofs.Ytojilbacloegjaa

/- Heat: Sum, Hot. -/
namespace Go.Proofs.Ytojilbacloegjaa
set_option linter.unusedVariables false
set_option linter.unusedSimpArgs false
open Go.RowKit Go.Maps Go.Shelf Go.Sort

/-- f 1 + .. + f n. -/
def sumI : Nat → (Int → Int) → Int
  | 0, _ => 0
  | n + 1, f => sumI n f + f ((n + 1 : Nat) : Int)
theorem sumI_congr {f g : Int → Int} : ∀ n : Nat, (∀ i : Int, 1 ≤ i → i ≤ n → f i = g i) → sumI n f = sumI n g
  | 0, _ => rfl
  | n + 1, h => by
    unfold sumI
    rw [sumI_congr n (fun i h1 h2 => h i h1 (by omega)), h _ (by omega) (by omega)]
theorem sumI_zero {f : Int → Int} (n : Nat) (h : ∀ i : Int, 1 ≤ i → i ≤ n → f i = 0) : sumI n f = 0 := by
  rw [sumI_congr (g := fun _ => 0) n h]
  induction n with
  | zero => rfl
  | succ n ih => unfold sumI; rw [ih (fun i h1 h2 => h i h1 (by omega))]; rfl
theorem sumI_upd {f g : Int → Int} {x : Int} (hx : 1 ≤ x) (h : ∀ i, i ≠ x → g i = f i) : ∀ n : Nat, x ≤ n → sumI n g = sumI n f + (g x - f x)
  | 0, hn => by omega
  | n + 1, hn => by
    unfold sumI
    by_cases e : x = ((n + 1 : Nat) : Int)
    · rw [sumI_congr (f := g) (g := f) n (fun i h1 h2 => h i (by omega)), ← e]
      omega
    · rw [sumI_upd hx h n (by omega), h _ (fun e' => e e'.symm)]
      omega
theorem sumI_bound {f : Int → Int} (h : ∀ i, 0 ≤ f i ∧ f i ≤ 1048576) : ∀ n : Nat, 0 ≤ sumI n f ∧ sumI n f ≤ 1048576 * n
  | 0 => by simp [sumI]
  | n + 1 => by
    unfold sumI
    have h1 := sumI_bound h n
    have h2 := h ((n + 1 : Nat) : Int)
    omega
/-- All heats together. -/
def sumU (u : Int → Int) : Int := sumI 1023 u
theorem sumU_bound {u : Int → Int} (h : Heats u) : 0 ≤ sumU u ∧ sumU u ≤ 1048576 * 1023 := sumI_bound (fun i => ⟨(h i).1, (h i).2.1⟩) 1023
def goneU (u : Int → Int) (left : Lit → Bool) : Int → Int := fun i => cond (left (.int .i64 i)) 0 (u i)
theorem goneU_start {D : DataW Unit} {u : Int → Int} (h : SaysU D u) : sumU (goneU u (Maps.has D)) = 0 := by
  refine sumI_zero 1023 (fun i h1 h2 => ?_)
  have := (h i (wfI_of (by omega) (by omega))).2
  unfold goneU
  rw [this]
  by_cases e : u i = 0
  · simp [e]
  · simp [e]
theorem goneU_step {u : Int → Int} {left : Lit → Bool} {x : Int} (h1 : 1 ≤ x) (h2 : x ≤ 1023) (hl : left (.int .i64 x) = true) :
    sumU (goneU u (fun z => left z && !z.sameKey (.int .i64 x))) = sumU (goneU u left) + u x := by
  have hx : goneU u (fun z => left z && !z.sameKey (.int .i64 x)) x = u x := by
    unfold goneU
    simp only [WideAt.sameKey_self (key_int x)]
    simp
  have hx0 : goneU u left x = 0 := by unfold goneU; rw [hl]; rfl
  have := sumI_upd (f := goneU u left) (g := goneU u (fun z => left z && !z.sameKey (.int .i64 x))) h1 (fun i hi => by
    have hne : (Lit.int .i64 i) ≠ (Lit.int .i64 x) := fun h => hi (by injection h)
    unfold goneU
    simp only [sameKey_ne hne]
    simp) 1023 h2
  unfold sumU
  rw [this, hx, hx0]
  omega
theorem goneU_end {u : Int → Int} {left : Lit → Bool} (hl : ∀ kl, left kl = false) : sumU (goneU u left) = sumU u := by
  refine sumI_congr 1023 (fun i _ _ => ?_)
  unfold goneU
  rw [hl]
  rfl
theorem goneU_bound {u : Int → Int} (h : Heats u) (left : Lit → Bool) : 0 ≤ sumU (goneU u left) ∧ sumU (goneU u left) ≤ 1048576 * 1023 := by
  refine sumI_bound (fun i => ?_) 1023
  unfold goneU
  have := h i
  cases left (.int .i64 i) <;> simp <;> omega
theorem ext_of_grown {w w' : World} (h : w.grownBy w' none) : Ext w w' := ⟨h.os, h.tape, h.output, h.size, fun i hi => h.block i hi (by simp)⟩

set_option maxRecDepth 100000 in
set_option maxHeartbeats 4000000 in
theorem sum_any (w : World) (pb mb n : Nat) (u : Int → Int) (hB : Bk w pb mb n u) (hH : Heats u) :
    Calls Try.prog 20 #[.pointer (some ⟨pb, 0, none⟩)] w fun e w' => e = .returned (.int .i64 (sumU u)) ∧ Ext w w' := by
  obtain ⟨D0, hown, hD⟩ := hB.hb
  have q0 := hB.blk.cell 0
  simp at q0
  have HD := Lib.hid hD
  have HH := Lib.hid hH
  clear hB hD hH
  obtain ⟨S, hS⟩ : ∃ S, sumU u = S := ⟨_, rfl⟩
  have HS := Lib.hid hS
  rw [hS]
  clear hS
  go_enter Try.func20, Try.ntmps20
  go_wp2_with (first
    | (at_range; refine wpList_range_own _ rfl _ 66 rfl 3 3 law_int Try.underlying66 _ mb n D0 rfl hown ?_; intro w0 hrg0 hg0 hs0)
    | go_in)
  go_frame
  have hstart : ∃ left cnt, (Value.int .i64 0) = .int .i64 (sumU (goneU u left)) ∧ w0.ranges Try.prog 3 (plainElem Try.prog 3) mb w.heap.size n D0 left cnt ∧ w.grownBy w0 none := ⟨_, _, by rw [goneU_start HD.out], hrg0, hg0⟩
  clear hrg0 hg0 hs0 q0 hown
  go_loopw [3, 5] (fun s _ wr => ∃ left cnt, s = .int .i64 (sumU (goneU u left)) ∧ wr.ranges Try.prog 3 (plainElem Try.prog 3) mb w.heap.size n D0 left cnt ∧ w.grownBy wr none) (fun _ _ wr => wr.rangeLeft mb w.heap.size)
  case atStart => exact hstart
  case round =>
    obtain ⟨left, cnt, rfl, hrg, hgw⟩ := hrel
    have hbd := goneU_bound HH.out left
    clear hstart
    go_wp2_with (first
      | (at_next; refine wpList_next_ranges_ii _ rfl _ rfl 3 3 .i64 .i64 law_int Try.underlying3 Try.underlying3 mb w.heap.size n _ _ _ rfl hrg ?_ ?_)
      | go_in)
    · intro _ hl0
      rw [goneU_end hl0, HS.out]
      clear hbd
      go_wp2_with fail
      go_ret
      exact ⟨rfl, ext_of_grown hgw⟩
    · intro x c w1 cnt1 hwx hwc hlx hat hrg1 hlt1 hg1 hs1 hen
      have hd := HD.out x hwx
      have hc : c = u x := by have h1 := hd.1; rw [hat] at h1; simpa [dI] using h1
      have hux : u x ≠ 0 := by have h1 := hd.2; rw [has_true_of_atKey hat] at h1; simpa using h1
      have hu := HH.out x
      have hx := hu.2.2 hux
      have hst := goneU_step (u := u) hx.1 hx.2 hlx
      have hb1 := goneU_bound HH.out (fun z => left z && !z.sameKey (.int .i64 x))
      rw [← hc] at hst
      have HST := Lib.hid hst
      obtain ⟨s, hs⟩ : ∃ s, sumU (goneU u left) = s := ⟨_, rfl⟩
      rw [hs] at hbd HST hst ⊢
      have hwr : IntKind.i64.wrap (s + c) = s + c := IntWalk.i64_in _ (by omega)
      have hgw1 := hgw.andThen hg1 (fun j hj => by cases hj; exact Or.inl (Nat.le_refl _))
      have HLT := Lib.hid (show cnt1 < wr.rangeLeft mb w.heap.size by rw [hrg.left_eq]; exact hlt1)
      clear hd hc hux hu hx hst hb1 hat hrg hgw hlt1 hs hbd
      go_wp2_with fail
      go_roundw
      case rel => exact ⟨_, _, by rw [HST.out], hrg1, hgw1⟩
      case measure => rw [hrg1.left_eq]; exact HLT.out

/-- The chunks that aren't cold, rising. -/
def hotL (u : Int → Int) : List Int := ((List.range 1023).map fun (i : Nat) => ((i + 1 : Nat) : Int)).filter fun i => decide (u i ≠ 0)
theorem mem_hotL {u : Int → Int} (hH : Heats u) (x : Int) : x ∈ hotL u ↔ u x ≠ 0 := by
  unfold hotL
  rw [List.mem_filter, List.mem_map]
  constructor
  · rintro ⟨_, h⟩
    simpa using h
  · intro h
    have := (hH x).2.2 h
    exact ⟨⟨(x - 1).toNat, by rw [List.mem_range]; omega, by omega⟩, by simpa using h⟩
theorem range_rising (n : Nat) : ((List.range n).map fun (i : Nat) => ((i + 1 : Nat) : Int)).Pairwise (fun a b => a < b) := by
  rw [List.pairwise_map]
  exact List.pairwise_lt_range.imp (fun {a b} h => by omega)
theorem hotL_rising (u : Int → Int) : (hotL u).Pairwise (fun a b => a < b) := (range_rising 1023).filter _
theorem hotL_nodup (u : Int → Int) : (hotL u).Nodup := (hotL_rising u).imp (fun {a b} h e => by omega)
theorem hotL_sorted (u : Int → Int) : (hotL u).mergeSort leI = hotL u :=
  List.mergeSort_of_pairwise ((hotL_rising u).imp (fun {a b} h => by simp [leI]; omega))
theorem hotL_perm {w : World} {b n : Nat} {D : DataW Unit} {u : Int → Int} (hown : w.ownsMap Try.prog 3 (plainElem Try.prog 3) b n D) (hD : SaysU D u) (hH : Heats u) : (hotL u).Perm (intKeys D) := by
  obtain ⟨es, clock, hb, F, hs, rfl⟩ := id hown
  obtain ⟨es', he, hp⟩ := hown.tidy law_int
  injection he with he
  have hk : ∀ p ∈ es', ∃ x, p.1 = .int .i64 x ∧ wfI x := by
    intro p hpm
    rw [← he] at hpm
    obtain ⟨x, hx, rfl⟩ := List.mem_map.1 (mem_sorted.1 hpm)
    obtain ⟨y, hy⟩ := F.reads x hx
    obtain ⟨a, _, h2, h3⟩ := Maps.keyOf_int_inv Try.underlying3 (Go.WideElems.rd_key hy)
    exact ⟨a, by rw [Go.WideElems.rg_of hy]; exact h2, h3⟩
  rw [he] at hD ⊢
  refine perm_intKeys hp (fun p hpm => (hk p hpm).imp fun _ h => h.1) (hotL_nodup u) (fun x => ?_)
  rw [mem_hotL hH]
  constructor
  · intro h
    have := (hH x).2.2 h
    rw [(hD x (wfI_of (by omega) (by omega))).2]
    simpa using h
  · intro h
    obtain ⟨d, hd⟩ := has_mem h
    obtain ⟨y, hy1, hy2⟩ := hk _ hd
    simp only at hy1
    injection hy1 with _ hy1
    subst hy1
    rw [(hD x hy2).2] at h
    simpa using h
end Go.Proofs.Ytojilbacloegjaa

/- append onto a row of the call's own whose head may be frozen: as the library's laws (Lib/FrozenHead, FrozenHead2), and besides: the new row is the old one or a new block. No program in sight. -/
namespace Go.Proofs.Ytojilbacloegjaa
set_option linter.unusedVariables false
set_option linter.unusedSimpArgs false
open Go Go.RowKit Go.Lib

theorem ownsF_mono {w : World} {base base' : Nat} {e : TypeId} {size : Nat} {v : Value} {n : Nat} {xs : List Value} (h : w.ownsRowF base e size v n xs) (hb : base' ≤ base) : w.ownsRowF base' e size v n xs := by
  refine ⟨h.1, ?_⟩
  rcases h.2 with hn | ⟨g, cap, cur, fz, hv, hg, rest⟩
  · exact .inl hn
  · exact .inr ⟨g, cap, cur, fz, hv, Nat.le_trans hb hg, rest⟩
theorem ownsF_fresh {w w' : World} {e : TypeId} {size : Nat} {v : Value} {n : Nat} {xs : List Value} (h : w'.ownsRowF w.heap.size e size v n xs) : v.ownBlock = (Value.slice none 0 0).ownBlock ∨ ∃ k, v.ownBlock = some k ∧ w.heap.size ≤ k := by
  rcases h.2 with ⟨rfl, _⟩ | ⟨g, cap, cur, fz, rfl, hg, _⟩
  · exact .inl rfl
  · exact .inr ⟨g, rfl, hg⟩

section
variable {P : Program} (w : World)

theorem buf_append_string (base : Nat) (t u ty e : TypeId) (i : TypeInfo) (ht : P.underlying t = some (.slice e)) (hu : P.underlying u = some .string) (hi : P.info? e = some i) (hz : i.zero = some (.int .u8 0))
    (hsize : i.size = 1) (hby : i.bytes = 1)
    (v : Value) (n : Nat) (xs : List Value) (hown : w.ownsRowF base e 1 v n xs) (s : ByteArray)
    (h63 : n + s.size ≤ maxLen) (hbytes : n + s.size ≤ 140737488355328) (hbase : base ≤ w.heap.size) :
    ∃ v' w', (Builtin.append_ #[t, u] ty #[v, .string s]).run P w = .ok v' w' ∧ w'.ownsRowF base e 1 v' (n + s.size) (xs ++ strCells s) ∧ w.grownBy w' v.ownBlock ∧
      (v'.ownBlock = v.ownBlock ∨ ∃ k, v'.ownBlock = some k ∧ w.heap.size ≤ k) := by
  rcases hown.2 with ⟨rfl, rfl⟩ | ⟨g, cap, cur, fz, rfl, hbg, hg, hfz, hnc, hcm, hcs, htake⟩
  · -- no row yet: the elder law
    obtain ⟨v', w', h1, h2, h3, h4⟩ := run_append_own_string (P := P) w w.heap.size t u ty e i ht hu hi hz hsize hby (.slice none 0 0) 0 xs ⟨hown.1, .inl ⟨rfl, rfl⟩⟩ s h63 hbytes (Nat.le_refl _)
    exact ⟨v', w', h1, ownsF_mono (World.ownsRowF_of h2) hbase, h3, ownsF_fresh (World.ownsRowF_of h2)⟩
  · have hsmall : n + s.size ≤ 9223372036854775807 := by simp only [maxLen] at h63; omega
    have hxl : xs.length = n := by simpa using hown.1
    have hlen : (xs ++ strCells s).length = (n + s.size) * 1 := by rw [List.length_append, hxl, strCells_length, Nat.mul_one]
    by_cases hroom : n + s.size ≤ cap
    · have hcs' : cur.size = cap := by simpa using hcs
      have hr := run_append_room_stringF (P := P) w t u ty e i ht hu hi hsize g n cap cur fz hg (by simpa using hfz) s hroom (by omega)
      refine ⟨_, _, hr, ⟨hlen, .inr ⟨g, cap, _, fz, rfl, hbg, setRow_heap w g cur _ e _ hg, by omega, hroom, hcm, ?_, ?_⟩⟩, ⟨rfl, rfl, rfl, by simp, fun k _ hk => setRow_other w g k _ (fun e => hk (by simp [Value.ownBlock, e]))⟩, .inl rfl⟩
      · simp only [List.size_toArray, List.length_append, List.length_take, List.length_drop, Array.length_toList, strCells_length]
        omega
      · have ht' : cur.toList.take n = xs := by simpa using htake
        rw [ht', ← hlen]
        exact List.take_left
    · have holds : ∀ j u, xs[j]? = some u → w.cell? ((⟨g, 0, none⟩ : Addr).add j) = some u := hown.cells (g := g) rfl
      have hr := run_append_grow_string (P := P) w t u ty e i (.int .u8 0) ht hu hi hz ⟨g, 0, none⟩ n cap xs (by rw [hsize]; simpa using hxl) holds s (by omega) (by omega) (by rw [hby]; exact growslice_fits (by omega) (by omega))
      have hge := grownCap_ge w (n + s.size) cap e
      have hcm2 : grownCap w (n + s.size) cap e ≤ maxLen := grownCap_le_maxLen w (n + s.size) cap e h63
      refine ⟨_, _, hr, ⟨hlen, .inr ⟨w.heap.size, _, _, (0, 0), rfl, hbase, _root_.Go.heap_alloc_new w.drew _, Nat.zero_le _, hge, hcm2, ?_, ?_⟩⟩, ⟨rfl, rfl, rfl, by simp, fun k hk _ => _root_.Go.heap_alloc_old w.drew _ hk⟩, .inr ⟨_, rfl, Nat.le_refl _⟩⟩
      · have hz1 : (Value.int IntKind.u8 0).cells.size = 1 := rfl
        simp only [Array.size_append, List.size_toArray, size_zeroCells, hz1, hxl, strCells_length]
        omega
      · simp only [Array.toList_append, List.append_assoc]
        rw [← List.append_assoc, ← hlen]
        exact List.take_left

theorem wp_buf_string {ops : Array Oper} {rest : List Oper} {o : Oper} {a : Act} {Q : Exit → Act → World → Prop} (hgd : o.guard = none) (sl x : Operand) (t u : TypeId)
    (ho : o.op = .call { callee := .builtin .append, args := #[sl, x], argTypes := #[t, u] })
    (base : Nat) (e : TypeId) (i : TypeInfo) (ht : P.underlying t = some (.slice e)) (hu : P.underlying u = some .string) (hi : P.info? e = some i) (hz : i.zero = some (.int .u8 0))
    (hsize : i.size = 1) (hby : i.bytes = 1)
    (v : Value) (n : Nat) (xs : List Value) (hs : a.eval sl = v) (hown : w.ownsRowF base e 1 v n xs) (s : ByteArray) (hx : a.eval x = .string s)
    (h63 : n + s.size ≤ maxLen) (hbytes : n + s.size ≤ 140737488355328) (hbase : base ≤ w.heap.size)
    (h : ∀ v' w', w'.ownsRowF base e 1 v' (n + s.size) (xs ++ strCells s) → w.grownBy w' v.ownBlock → (v'.ownBlock = v.ownBlock ∨ ∃ k, v'.ownBlock = some k ∧ w.heap.size ≤ k) → wpList P ops Q rest (a.put o.dst v') w') : wpList P ops Q (o :: rest) a w := by
  refine wpList_plain hgd fun K hK => ?_
  obtain ⟨v', w', hr, h2, h3, h4⟩ := buf_append_string (P := P) w base t u o.type e i ht hu hi hz hsize hby v n xs hown s h63 hbytes hbase
  unfold Oper.wp execOp
  simp only [ho, resolve, invoke, builtin, Sem.run_bind, Sem.run_pure, Result.andThen_ok, List.map_toArray, List.map_cons, List.map_nil, hs, hx, hr]
  exact hK _ _ (h v' w' h2 h3 h4)


theorem buf_append_cells (base : Nat) (t ty e : TypeId) (i : TypeInfo) (z : Value) (size bytes : Nat) (ht : P.underlying t = some (.slice e)) (hi : P.info? e = some i) (hz : i.zero = some z)
    (hsize : i.size = size) (hby : i.bytes = bytes) (hzs : z.cells.size = size) (hsz : 0 < size)
    (v : Value) (n : Nat) (xs : List Value) (hown : w.ownsRowF base e size v n xs)
    (a : Addr) (m c : Nat) (news : List Value) (hl : news.length = m * size) (hnews : ∀ j u, news[j]? = some u → w.cell? (a.add j) = some u) (h1 : ∀ u ∈ news, u.oneCell' = true)
    (h63 : n + m ≤ maxLen) (hbytes : (n + m) * bytes ≤ 140737488355328) (hbase : base ≤ w.heap.size) :
    ∃ v' w', (Builtin.append_ #[t, t] ty #[v, .slice (some a) m c]).run P w = .ok v' w' ∧ w'.ownsRowF base e size v' (n + m) (xs ++ news) ∧ w.grownBy w' v.ownBlock ∧
      (v'.ownBlock = v.ownBlock ∨ ∃ k, v'.ownBlock = some k ∧ w.heap.size ≤ k) := by
  rcases hown.2 with ⟨rfl, rfl⟩ | ⟨g, cap, cur, fz, rfl, hbg, hg, hfz, hnc, hcm, hcs, htake⟩
  · obtain ⟨v', w', r1, r2, r3, r4⟩ := run_append_own (P := P) w w.heap.size t ty e i z size bytes ht hi hz hsize hby hzs hsz (.slice none 0 0) 0 xs ⟨hown.1, .inl ⟨rfl, rfl⟩⟩ a m c news hl hnews h1 h63 hbytes (Nat.le_refl _)
    exact ⟨v', w', r1, ownsF_mono (World.ownsRowF_of r2) hbase, r3, ownsF_fresh (World.ownsRowF_of r2)⟩
  · subst hsize
    subst hby
    have hsmall : n + m ≤ 9223372036854775807 := by simp only [maxLen] at h63; omega
    have hlen : (xs ++ news).length = (n + m) * i.size := by rw [List.length_append, hown.1, hl, Nat.add_mul]
    by_cases hroom : n + m ≤ cap
    · have hfit : n * i.size + news.length ≤ cur.size := by rw [hl, hcs, ← Nat.add_mul]; exact Nat.mul_le_mul_right _ hroom
      have hr := run_append_roomF (P := P) w t ty e i ht hi g n cap cur fz hg hfz a m c news hl hnews h1 hroom hfit
      refine ⟨_, _, hr, ⟨hlen, .inr ⟨g, cap, _, fz, rfl, hbg, setRow_heap w g cur _ e _ hg, Nat.le_trans hfz (Nat.mul_le_mul_right _ (Nat.le_add_right n m)), hroom, hcm, ?_, ?_⟩⟩, ⟨rfl, rfl, rfl, by simp, fun k _ hk => setRow_other w g k _ (fun e => hk (by simp [Value.ownBlock, e]))⟩, .inl rfl⟩
      · simp only [List.size_toArray, List.length_append, List.length_take, List.length_drop, Array.length_toList]
        omega
      · rw [htake, ← hlen]
        exact List.take_left
    · have holds : ∀ j u, xs[j]? = some u → w.cell? ((⟨g, 0, none⟩ : Addr).add j) = some u := hown.cells (g := g) rfl
      have hr := run_append_grow (P := P) w t ty e i z ht hi hz ⟨g, 0, none⟩ n cap xs hown.1 holds a m c news hl hnews (by omega) (by omega) (growslice_fits (by omega) hbytes)
      have hge := grownCap_ge w (n + m) cap e
      have hcm2 : grownCap w (n + m) cap e ≤ maxLen := grownCap_le_maxLen w (n + m) cap e h63
      refine ⟨_, _, hr, ⟨hlen, .inr ⟨w.heap.size, _, _, (0, 0), rfl, hbase, _root_.Go.heap_alloc_new w.drew _, Nat.zero_le _, hge, hcm2, ?_, ?_⟩⟩, ⟨rfl, rfl, rfl, by simp, fun k hk _ => _root_.Go.heap_alloc_old w.drew _ hk⟩, .inr ⟨_, rfl, Nat.le_refl _⟩⟩
      · simp only [Array.size_append, List.size_toArray, size_zeroCells, hzs, hown.1, hl, ← Nat.add_mul]
        congr 1
        omega
      · simp only [Array.toList_append, List.append_assoc]
        rw [← List.append_assoc, ← hlen]
        exact List.take_left

theorem wp_buf_cells {ops : Array Oper} {rest : List Oper} {o : Oper} {a : Act} {Q : Exit → Act → World → Prop} (hgd : o.guard = none) (s x : Operand) (t : TypeId)
    (ho : o.op = .call { callee := .builtin .append, args := #[s, x], argTypes := #[t, t] })
    (base : Nat) (e : TypeId) (i : TypeInfo) (z : Value) (size bytes : Nat) (ht : P.underlying t = some (.slice e)) (hi : P.info? e = some i) (hz : i.zero = some z)
    (hsize : i.size = size) (hby : i.bytes = bytes) (hzs : z.cells.size = size) (hsz : 0 < size)
    (v : Value) (n : Nat) (xs : List Value) (hs : a.eval s = v) (hown : w.ownsRowF base e size v n xs)
    (ad : Addr) (m c : Nat) (news : List Value) (hx : a.eval x = .slice (some ad) m c) (hl : news.length = m * size) (hnews : ∀ j u, news[j]? = some u → w.cell? (ad.add j) = some u) (h1 : ∀ u ∈ news, u.oneCell' = true)
    (h63 : n + m ≤ maxLen) (hbytes : (n + m) * bytes ≤ 140737488355328) (hbase : base ≤ w.heap.size)
    (h : ∀ v' w', w'.ownsRowF base e size v' (n + m) (xs ++ news) → w.grownBy w' v.ownBlock → (v'.ownBlock = v.ownBlock ∨ ∃ k, v'.ownBlock = some k ∧ w.heap.size ≤ k) → wpList P ops Q rest (a.put o.dst v') w') : wpList P ops Q (o :: rest) a w := by
  refine wpList_plain hgd fun K hK => ?_
  obtain ⟨v', w', hr, h2, h3, h4⟩ := buf_append_cells (P := P) w base t o.type e i z size bytes ht hi hz hsize hby hzs hsz v n xs hown ad m c news hl hnews h1 h63 hbytes hbase
  unfold Oper.wp execOp
  simp only [ho, resolve, invoke, builtin, Sem.run_bind, Sem.run_pure, Result.andThen_ok, List.map_toArray, List.map_cons, List.map_nil, hs, hx, hr]
  exact hK _ _ (h v' w' h2 h3 h4)
end
end Go.Proofs.Ytojilbacloegjaa
