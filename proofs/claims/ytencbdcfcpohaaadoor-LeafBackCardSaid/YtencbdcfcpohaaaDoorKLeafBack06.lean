/- What an argument that can be read as data looks like, by its type: lemmas that open an argument. No function of the program in sight. -/
import Derived.Test.YtencbdcfcpohaaaDoorKLeafBack00
import Derived.ProofKit
import Derived.OpenShut
import Derived.ChangeOld
import Derived.Deep.Fields
import Derived.Test.YtencbdcfcpohaaaDoorKLeafBack05
namespace Go.Proofs.YtencbdcfcpohaaaDoor
set_option linter.unusedVariables false
set_option linter.unusedSimpArgs false
open Go.RowKit Go.ChangeShapes Go.WideShapes Go.ChangeAt

/-- These cells read as a value of type t. -/
def Fit (P : Program) (w : World) (t : TypeId) (cs : List Value) : Prop :=
  ∃ (H : Type) (enc : TypeId × Value → H) (fuel : Nat) (x : DataW H × List MemPlace), DataW.trod enc P w 0 (fun _ => true) true fuel t cs = some x

/-- An argument of type t. -/
def Arg (P : Program) (w : World) (t : TypeId) (v : Value) : Prop := Fit P w t v.cells.toList ∧ ∃ r base, Value.okWide P w r base t v

section
variable {P : Program} {w : World} {t : TypeId} {cs : List Value} {v : Value}
theorem Arg.mk_ {H : Type} {enc : TypeId × Value → H} {d : DataW H} {p : List MemPlace} {r : Reach} {base : Nat} (h : DataW.Trod enc P w 0 (fun _ => true) true t v d p) (hv : Value.okWide P w r base t v) : Arg P w t v := by
  obtain ⟨fuel, hf⟩ := h
  exact ⟨⟨H, enc, fuel, _, hf⟩, r, base, hv⟩
theorem fit_bool (ht : P.underlying t = some .bool) (h : Fit P w t cs) : ∃ b, cs = [.bool b] := by
  obtain ⟨H, enc, fuel, x, h⟩ := h
  obtain ⟨b, h1, _⟩ := DataW.trod_bool ht h
  exact ⟨b, h1⟩
theorem fit_int {k : IntKind} (ht : P.underlying t = some (.int k)) (h : Fit P w t cs) : ∃ n, cs = [.int k n] ∧ (Lit.int k n).wf = true := by
  obtain ⟨H, enc, fuel, x, h⟩ := h
  obtain ⟨n, h1, _, h2⟩ := DataW.trod_int ht h
  exact ⟨n, h1, h2⟩
theorem fit_string (ht : P.underlying t = some .string) (h : Fit P w t cs) : ∃ s : ByteArray, cs = [.string s] ∧ s.size ≤ maxLen := by
  obtain ⟨H, enc, fuel, x, h⟩ := h
  obtain ⟨n, h1, _, h2⟩ := DataW.trod_string ht h
  exact ⟨n, h1, h2⟩
theorem fit_struct {fs : Array Field} (ht : P.underlying t = some (.struct fs)) (h : Fit P w t cs) :
    cs.length = P.cellsOf t ∧ ∀ (i : Nat) (f : Field), fs[i]? = some f → Fit P w f.type ((cs.drop f.offset).take (P.cellsOf f.type)) := by
  obtain ⟨H, enc, fuel, x, h⟩ := h
  obtain ⟨xs, n, _, _, hl, hx, hg⟩ := DataW.trod_struct ht h
  refine ⟨hl, fun i f hf => ?_⟩
  have hi : i < xs.length := by rw [hx]; exact (Array.getElem?_eq_some_iff.1 hf).1
  exact ⟨H, enc, n, xs[i], (hg i f hf).trans (List.getElem?_eq_getElem hi)⟩
theorem fit_array {n : Nat} {e : TypeId} (ht : P.underlying t = some (.array n e)) (h : Fit P w t cs) :
    cs.length = P.cellsOf t ∧ ∀ i, i < n → Fit P w e ((cs.drop (i * P.cellsOf e)).take (P.cellsOf e)) := by
  obtain ⟨H, enc, fuel, x, h⟩ := h
  obtain ⟨xs, m, _, _, hl, hx, hg⟩ := DataW.trod_array ht h
  refine ⟨hl, fun i hi => ?_⟩
  exact ⟨H, enc, m, xs[i], (hg i hi).trans (List.getElem?_eq_getElem (by omega))⟩
/-- A slice: its elements lie from an address on, c cells each. -/
theorem fit_slice {e : TypeId} {c : Nat} (ht : P.underlying t = some (.slice e)) (hc : P.cellsOf e = c) (h : Fit P w t cs) :
    ∃ A len cap, cs = [.slice A len cap] ∧ len ≤ cap ∧ cap ≤ maxLen ∧ (A = none → len = 0) ∧
      (∀ ad, A = some ad → ∀ i, i < len → ∃ cs', cs'.length = c ∧ (∀ j, j < c → w.cell? ((ad.add (i * c)).add j) = cs'[j]?) ∧ Fit P w e cs') := by
  obtain ⟨H, enc, fuel, x, h⟩ := h
  rcases DataW.trod_slice ht h with ⟨rfl, _⟩ | ⟨a, len, cap, elems, rest, n, _, rfl, _, _, hl, hm, hlen, hel, _, _⟩
  · exact ⟨none, 0, 0, rfl, Nat.le_refl _, by decide, fun _ => rfl, fun ad e => by cases e⟩
  · refine ⟨some a, len, cap, rfl, hl, hm, (fun e => by cases e), fun ad e i hi => ?_⟩
    injection e with e
    subst e
    have := hel i hi
    rw [List.getElem?_eq_getElem (by omega)] at this
    obtain ⟨cs', h1, h2⟩ := Option.bind_eq_some_iff.1 this
    obtain ⟨_, h3, h4⟩ := World.cells?_some h1
    subst hc
    exact ⟨cs', h3, h4, H, enc, n, _, h2⟩

theorem arg_bool (ht : P.underlying t = some .bool) (h : Arg P w t v) : ∃ b, v = .bool b := by
  obtain ⟨_, r, base, hv⟩ := h
  exact okWide_bool ht hv
theorem arg_int {k : IntKind} (ht : P.underlying t = some (.int k)) (h : Arg P w t v) : ∃ n, v = .int k n ∧ (Lit.int k n).wf = true := by
  obtain ⟨hf, r, base, hv⟩ := h
  obtain ⟨n, rfl⟩ := okWide_int ht hv
  obtain ⟨m, h1, h2⟩ := fit_int ht hf
  simp [Value.cells] at h1
  subst h1
  exact ⟨n, rfl, h2⟩
theorem arg_string (ht : P.underlying t = some .string) (h : Arg P w t v) : ∃ s : ByteArray, v = .string s ∧ s.size ≤ maxLen := by
  obtain ⟨hf, r, base, hv⟩ := h
  obtain ⟨n, rfl⟩ := okWide_string ht hv
  obtain ⟨m, h1, h2⟩ := fit_string ht hf
  simp [Value.cells] at h1
  subst h1
  exact ⟨n, rfl, h2⟩
theorem arg_slice {e : TypeId} (ht : P.underlying t = some (.slice e)) (h : Arg P w t v) : Fit P w t [v] := by
  obtain ⟨hf, r, base, hv⟩ := h
  obtain ⟨a, len, cap, rfl⟩ := okWide_slice ht hv
  exact hf
theorem arg_struct {fs : Array Field} (ht : P.underlying t = some (.struct fs)) (h : Arg P w t v) : ∃ cs, v = .agg ⟨cs⟩ ∧ Fit P w t cs := by
  obtain ⟨hf, r, base, hv⟩ := h
  obtain ⟨cs, rfl, _⟩ := okWide_struct ht hv
  exact ⟨cs.toList, rfl, hf⟩
theorem arg_array {n : Nat} {e : TypeId} (ht : P.underlying t = some (.array n e)) (h : Arg P w t v) : ∃ cs, v = .agg ⟨cs⟩ ∧ Fit P w t cs := by
  obtain ⟨hf, r, base, hv⟩ := h
  simp only [Value.okWide, ht] at hv
  obtain ⟨cs, rfl, _, _⟩ := hv
  exact ⟨cs.toList, rfl, hf⟩
end

/-! ### Slices as lists of data: 'Row': element i lies at 'off + i * c', its cells are 'enc x'; 'Row1': elements of one cell. -/
theorem cell_lt {w : World} {a : Addr} {v : Value} (h : w.cell? a = some v) : a.block < w.heap.size := by
  rcases Nat.lt_or_ge a.block w.heap.size with hlt | hge
  · exact hlt
  · have e : w.heap[a.block]? = none := by simp [hge]
    simp [World.cell?, e] at h

def Row {E : Type} (w : World) (A : Option Addr) (c : Nat) (enc : E → List Value) (xs : List E) : Prop :=
  ∀ i x, xs[i]? = some x → ∃ b off, A = some ⟨b, off, none⟩ ∧ b < w.heap.size ∧ ∀ j u, (enc x)[j]? = some u → w.cell? ⟨b, off + i * c + j, none⟩ = some u
def Row1 {E : Type} (w : World) (A : Option Addr) (enc : E → Value) (xs : List E) : Prop :=
  ∀ i x, xs[i]? = some x → ∃ b off, A = some ⟨b, off, none⟩ ∧ b < w.heap.size ∧ w.cell? ⟨b, off + i, none⟩ = some (enc x)

theorem Row.below {E : Type} {w w' : World} {A : Option Addr} {c : Nat} {enc : E → List Value} {xs : List E} (h : Row w A c enc xs) (hb : Below w.heap.size w w') : Row w' A c enc xs := by
  intro i x hx
  obtain ⟨b, off, hA, hlt, hc⟩ := h i x hx
  exact ⟨b, off, hA, Nat.lt_of_lt_of_le hlt hb.size, fun j u hu => (hb.cell (p := ⟨b, _, none⟩) hlt).trans (hc j u hu)⟩
theorem Row1.below {E : Type} {w w' : World} {A : Option Addr} {enc : E → Value} {xs : List E} (h : Row1 w A enc xs) (hb : Below w.heap.size w w') : Row1 w' A enc xs := by
  intro i x hx
  obtain ⟨b, off, hA, hlt, hc⟩ := h i x hx
  exact ⟨b, off, hA, Nat.lt_of_lt_of_le hlt hb.size, (hb.cell (p := ⟨b, _, none⟩) hlt).trans hc⟩
theorem Row1.at_ {E : Type} {w : World} {A : Option Addr} {enc : E → Value} {xs : List E} (h : Row1 w A enc xs) {i : Nat} (hi : i < xs.length) : ∃ b off, A = some ⟨b, off, none⟩ ∧ b < w.heap.size ∧ w.cell? ⟨b, off + i, none⟩ = some (enc xs[i]) :=
  h i _ (List.getElem?_eq_getElem hi)
theorem Row.at_ {E : Type} {w : World} {A : Option Addr} {c : Nat} {enc : E → List Value} {xs : List E} (h : Row w A c enc xs) {i : Nat} (hi : i < xs.length) : ∃ b off, A = some ⟨b, off, none⟩ ∧ b < w.heap.size ∧ ∀ j u, (enc xs[i])[j]? = some u → w.cell? ⟨b, off + i * c + j, none⟩ = some u :=
  h i _ (List.getElem?_eq_getElem hi)

/-- An element in a later world. -/
theorem Row1.in_ {E : Type} {w w' : World} {A : Option Addr} {enc : E → Value} {xs : List E} (h : Row1 w A enc xs) (hb : Below w.heap.size w w') {i : Nat} (hi : i < xs.length) : ∃ b off, A = some ⟨b, off, none⟩ ∧ b < w.heap.size ∧ w'.cell? ⟨b, off + i, none⟩ = some (enc xs[i]) := by
  obtain ⟨b, off, hA, hlt, hc⟩ := h.at_ hi
  exact ⟨b, off, hA, hlt, (hb.cell (p := ⟨b, _, none⟩) hlt).trans hc⟩
theorem Row.in_ {E : Type} {w w' : World} {A : Option Addr} {c : Nat} {enc : E → List Value} {xs : List E} (h : Row w A c enc xs) (hb : Below w.heap.size w w') {i : Nat} (hi : i < xs.length) : ∃ b off, A = some ⟨b, off, none⟩ ∧ b < w.heap.size ∧ ∀ j u, (enc xs[i])[j]? = some u → w'.cell? ⟨b, off + i * c + j, none⟩ = some u := by
  obtain ⟨b, off, hA, hlt, hc⟩ := h.at_ hi
  exact ⟨b, off, hA, hlt, fun j u hu => (hb.cell (p := ⟨b, _, none⟩) hlt).trans (hc j u hu)⟩

theorem list_of {E : Type} (n : Nat) (p : Nat → E → Prop) (h : ∀ i, i < n → ∃ x, p i x) : ∃ xs : List E, xs.length = n ∧ ∀ i x, xs[i]? = some x → p i x := by
  induction n with
  | zero => exact ⟨[], rfl, fun i x hx => by simp at hx⟩
  | succ n ih =>
    obtain ⟨xs, hl, hp⟩ := ih (fun i hi => h i (by omega))
    obtain ⟨x, hx⟩ := h n (by omega)
    refine ⟨xs ++ [x], by simp [hl], fun i y hy => ?_⟩
    by_cases hi : i < n
    · rw [List.getElem?_append_left (by omega)] at hy
      exact hp i y hy
    · have : i = n := by
        have := (List.getElem?_eq_some_iff.1 hy).1
        simp at this
        omega
      subst this
      rw [List.getElem?_append_right (by omega)] at hy
      simp [hl] at hy
      subst hy
      exact hx

section
variable {P : Program} {w : World} {t e : TypeId} {v : Value} {E : Type}
theorem fit_row {c : Nat} (enc : E → List Value) (good : E → Prop) (ht : P.underlying t = some (.slice e)) (hc : P.cellsOf e = c) (hpos : 0 < c)
    (hE : ∀ cs', cs'.length = c → Fit P w e cs' → ∃ x, cs' = enc x ∧ good x) (h : Fit P w t [v]) :
    ∃ A len cap, ∃ xs : List E, v = .slice A len cap ∧ len ≤ cap ∧ cap ≤ maxLen ∧ xs.length = len ∧ (∀ x ∈ xs, good x) ∧ Row w A c enc xs := by
  obtain ⟨A, len, cap, hv, hl, hm, hn, hr⟩ := fit_slice ht hc h
  injection hv with hv _
  subst hv
  rcases A with _ | ad
  · obtain rfl := hn rfl
    exact ⟨none, 0, cap, [], rfl, hl, hm, rfl, (fun x hx => by simp at hx), fun i x hx => by simp at hx⟩
  · obtain ⟨xs, hlen, hp⟩ := list_of len (fun i x => (∀ j, j < c → w.cell? ((ad.add (i * c)).add j) = (enc x)[j]?) ∧ (enc x).length = c ∧ good x) (fun i hi => by
      obtain ⟨cs', h1, h2, h3⟩ := hr ad rfl i hi
      obtain ⟨x, rfl, hg⟩ := hE cs' h1 h3
      exact ⟨x, h2, h1, hg⟩)
    refine ⟨some ad, len, cap, xs, rfl, hl, hm, hlen, (fun x hx => ?_), fun i x hx => ?_⟩
    · obtain ⟨i, hi, rfl⟩ := List.getElem_of_mem hx
      exact (hp i _ (List.getElem?_eq_getElem hi)).2.2
    · have hi : i < len := by have := (List.getElem?_eq_some_iff.1 hx).1; omega
      obtain ⟨h0, _, _⟩ := hp 0 _ (List.getElem?_eq_getElem (by omega))
      obtain ⟨h2, h1, _⟩ := hp i x hx
      have q0 := h0 0 hpos
      obtain ⟨_, h1', _⟩ := hp 0 _ (List.getElem?_eq_getElem (by omega))
      rw [List.getElem?_eq_getElem (by omega)] at q0
      have hs := World.cell?_spot q0
      simp [Addr.add] at hs
      obtain ⟨b, off, spot⟩ := ad
      simp at hs
      subst hs
      refine ⟨b, off, rfl, ?_, fun j u hu => ?_⟩
      · have := cell_lt q0
        simpa [Addr.add] using this
      · have hj : j < c := by have := (List.getElem?_eq_some_iff.1 hu).1; omega
        have := h2 j hj
        rw [hu] at this
        rw [← this]
        congr 1
        unfold Addr.add
        by_cases k1 : i * c = 0 <;> by_cases k2 : j = 0 <;> simp [k1, k2, Nat.add_assoc]

theorem fit_row1 (enc : E → Value) (good : E → Prop) (ht : P.underlying t = some (.slice e)) (hc : P.cellsOf e = 1)
    (hE : ∀ cs', Fit P w e cs' → ∃ x, cs' = [enc x] ∧ good x) (h : Fit P w t [v]) :
    ∃ A len cap, ∃ xs : List E, v = .slice A len cap ∧ len ≤ cap ∧ cap ≤ maxLen ∧ xs.length = len ∧ (∀ x ∈ xs, good x) ∧ Row1 w A enc xs := by
  obtain ⟨A, len, cap, xs, h1, h2, h3, h4, h5, h6⟩ := fit_row (fun x => [enc x]) good ht hc (by omega) (fun cs' _ hf => hE cs' hf) h
  refine ⟨A, len, cap, xs, h1, h2, h3, h4, h5, fun i x hx => ?_⟩
  obtain ⟨b, off, hA, hb, hj⟩ := h6 i x hx
  exact ⟨b, off, hA, hb, by simpa using hj 0 _ rfl⟩

theorem arg_ints {k : IntKind} (ht : P.underlying t = some (.slice e)) (he : P.underlying e = some (.int k)) (hc : P.cellsOf e = 1) (h : Arg P w t v) :
    ∃ A len cap, ∃ xs : List Int, v = .slice A len cap ∧ len ≤ cap ∧ cap ≤ maxLen ∧ xs.length = len ∧ (∀ x ∈ xs, (Lit.int k x).wf = true) ∧ Row1 w A (Value.int k) xs :=
  fit_row1 _ _ ht hc (fun _ hf => fit_int he hf) (arg_slice ht h)
theorem arg_bools (ht : P.underlying t = some (.slice e)) (he : P.underlying e = some .bool) (hc : P.cellsOf e = 1) (h : Arg P w t v) :
    ∃ A len cap, ∃ xs : List Bool, v = .slice A len cap ∧ len ≤ cap ∧ cap ≤ maxLen ∧ xs.length = len ∧ Row1 w A Value.bool xs := by
  obtain ⟨A, len, cap, xs, h1, h2, h3, h4, _, h5⟩ := fit_row1 (E := Bool) Value.bool (fun _ => True) ht hc (fun _ hf => by obtain ⟨b, hb⟩ := fit_bool he hf; exact ⟨b, hb, trivial⟩) (arg_slice ht h)
  exact ⟨A, len, cap, xs, h1, h2, h3, h4, h5⟩
theorem arg_strings (ht : P.underlying t = some (.slice e)) (he : P.underlying e = some .string) (hc : P.cellsOf e = 1) (h : Arg P w t v) :
    ∃ A len cap, ∃ xs : List ByteArray, v = .slice A len cap ∧ len ≤ cap ∧ cap ≤ maxLen ∧ xs.length = len ∧ (∀ x ∈ xs, x.size ≤ maxLen) ∧ Row1 w A Value.string xs :=
  fit_row1 _ _ ht hc (fun _ hf => fit_string he hf) (arg_slice ht h)
end
end Go.Proofs.YtencbdcfcpohaaaDoor

/- Structs by value as arguments: a struct of one-cell fields; short lists by their elements. -/
namespace Go.Proofs.YtencbdcfcpohaaaDoor
set_option linter.unusedVariables false
set_option linter.unusedSimpArgs false
open Go.RowKit Go.ChangeShapes Go.WideShapes Go.ChangeAt Go.Deep

theorem list2_of {α : Type} {l : List α} {a0 a1 : α} (hl : l.length = 2) (h0 : l[0]? = some a0) (h1 : l[1]? = some a1) : l = [a0, a1] := by
  match l, hl with
  | [x0, x1], _ => simp at h0 h1; rw [h0, h1]
theorem list3_of {α : Type} {l : List α} {a0 a1 a2 : α} (hl : l.length = 3) (h0 : l[0]? = some a0) (h1 : l[1]? = some a1) (h2 : l[2]? = some a2) : l = [a0, a1, a2] := by
  match l, hl with
  | [x0, x1, x2], _ => simp at h0 h1 h2; rw [h0, h1, h2]
theorem list4_of {α : Type} {l : List α} {a0 a1 a2 a3 : α} (hl : l.length = 4) (h0 : l[0]? = some a0) (h1 : l[1]? = some a1) (h2 : l[2]? = some a2) (h3 : l[3]? = some a3) : l = [a0, a1, a2, a3] := by
  match l, hl with
  | [x0, x1, x2, x3], _ => simp at h0 h1 h2 h3; rw [h0, h1, h2, h3]
theorem list5_of {α : Type} {l : List α} {a0 a1 a2 a3 a4 : α} (hl : l.length = 5) (h0 : l[0]? = some a0) (h1 : l[1]? = some a1) (h2 : l[2]? = some a2) (h3 : l[3]? = some a3) (h4 : l[4]? = some a4) : l = [a0, a1, a2, a3, a4] := by
  match l, hl with
  | [x0, x1, x2, x3, x4], _ => simp at h0 h1 h2 h3 h4; rw [h0, h1, h2, h3, h4]

theorem take1_drop {α : Type} {l : List α} {i : Nat} {v : α} (h : (l.drop i).take 1 = [v]) : l[i]? = some v := by
  have : ((l.drop i).take 1)[0]? = some v := by rw [h]; rfl
  rw [List.getElem?_take_of_lt (by omega), List.getElem?_drop] at this
  simpa using this

section
variable {P : Program} {w : World} {t : TypeId} {cs : List Value}
/-- Each field's cells are those from its offset on. -/
theorem fit_fields {fs : Array Field} (n : Nat) (ht : P.underlying t = some (.struct fs)) (hC : P.cellsOf t = n) (h : Fit P w t cs) :
    cs.length = n ∧ ∀ (i o e c : Nat), (fs[i]?).map (fun f => (f.offset, f.type)) = some (o, e) → P.cellsOf e = c → Fit P w e ((cs.drop o).take c) := by
  obtain ⟨hl, hx⟩ := fit_struct ht h
  refine ⟨by rw [hl, hC], fun i o e c hf hc => ?_⟩
  cases hfi : fs[i]? with
  | none => rw [hfi] at hf; cases hf
  | some f =>
    rw [hfi] at hf
    simp only [Option.map_some, Option.some.injEq, Prod.mk.injEq] at hf
    obtain ⟨rfl, rfl⟩ := hf
    have := hx i f hfi
    rwa [hc] at this
theorem cell_int {k : IntKind} (ht : P.underlying t = some (.int k)) {i : Nat} (h : Fit P w t ((cs.drop i).take 1)) : ∃ n, cs[i]? = some (.int k n) ∧ (Lit.int k n).wf = true := by
  obtain ⟨n, h1, h2⟩ := fit_int ht h
  exact ⟨n, take1_drop h1, h2⟩
theorem cell_bool (ht : P.underlying t = some .bool) {i : Nat} (h : Fit P w t ((cs.drop i).take 1)) : ∃ b, cs[i]? = some (.bool b) := by
  obtain ⟨n, h1⟩ := fit_bool ht h
  exact ⟨n, take1_drop h1⟩
theorem cell_string (ht : P.underlying t = some .string) {i : Nat} (h : Fit P w t ((cs.drop i).take 1)) : ∃ s : ByteArray, cs[i]? = some (.string s) ∧ s.size ≤ maxLen := by
  obtain ⟨n, h1, h2⟩ := fit_string ht h
  exact ⟨n, take1_drop h1, h2⟩
end
end Go.Proofs.YtencbdcfcpohaaaDoor

/- OctetApart: unlike numbers have unlike bytes. -/
namespace Go.Proofs.YtencbdcfcpohaaaDoor
set_option linter.unusedVariables false
set_option linter.unusedSimpArgs false
open Go.RowKit

def encs (k : Nat) (l : List Int) : List UInt8 := l.flatMap fun x => le x.toNat k
theorem encs_length (k : Nat) (l : List Int) : (encs k l).length = l.length * k := by
  unfold encs
  induction l with
  | nil => simp
  | cons x l ih => simp [le_length, ih, Nat.add_mul, Nat.add_comm]
theorem encs_take (k : Nat) (l : List Int) (j : Nat) (h : j < l.length) : encs k (l.take (j + 1)) = encs k (l.take j) ++ le l[j].toNat k := by
  unfold encs
  rw [List.take_succ_eq_append_getElem h, List.flatMap_append]
  simp
theorem le_mod (n k : Nat) : le n k = le (n % 256 ^ k) k := by
  have h := numL_le (n % 256 ^ k) k (Nat.mod_lt _ (Nat.pow_pos (by decide)))
  apply List.ext_getElem?
  intro i
  by_cases hi : i < k
  · rw [le_get n k i hi, le_get (n % 256 ^ k) k i hi]
    congr 1
    apply UInt8.toNat.inj
    rw [UInt8.toNat_ofNat', UInt8.toNat_ofNat']
    obtain ⟨m, hm⟩ : ∃ m, k = i + 1 + m := ⟨k - i - 1, by omega⟩
    have e : 256 ^ k = 256 ^ i * (256 * 256 ^ m) := by rw [hm, Nat.pow_add, Nat.pow_succ, Nat.mul_assoc]
    rw [e, Nat.mod_mul_right_div_self, Nat.mod_mul_right_mod]
  · rw [List.getElem?_eq_none (by rw [le_length]; omega), List.getElem?_eq_none (by rw [le_length]; omega)]
theorem le_iff (n m k : Nat) : le n k = le m k ↔ n % 256 ^ k = m % 256 ^ k := by
  constructor
  · intro h
    rw [le_mod n, le_mod m] at h
    have := congrArg numL h
    rwa [numL_le _ _ (Nat.mod_lt _ (Nat.pow_pos (by decide))), numL_le _ _ (Nat.mod_lt _ (Nat.pow_pos (by decide)))] at this
  · intro h
    rw [le_mod n, le_mod m, h]
theorem same_step (k : Nat) (xs ys : List Int) (j : Nat) (hx : j < xs.length) (hy : j < ys.length) :
    decide (encs k (xs.take (j + 1)) = encs k (ys.take (j + 1))) = (decide (encs k (xs.take j) = encs k (ys.take j)) && decide (xs[j].toNat % 256 ^ k = ys[j].toNat % 256 ^ k)) := by
  rw [Bool.eq_iff_iff, Bool.and_eq_true, decide_eq_true_iff, decide_eq_true_iff, decide_eq_true_iff, encs_take k xs j hx, encs_take k ys j hy, ← le_iff]
  constructor
  · intro h
    exact List.append_inj h (by rw [encs_length, encs_length, List.length_take, List.length_take]; congr 1; omega)
  · intro h
    rw [h.1, h.2]

theorem Row1.cell_at {E : Type} {w w' : World} {b o : Nat} {enc : E → Value} {xs : List E} (h : Row1 w (some ⟨b, o, none⟩) enc xs) (hb : Below w.heap.size w w') {i : Nat} (hi : i < xs.length) : w'.cell? ⟨b, o + i, none⟩ = some (enc xs[i]) := by
  obtain ⟨b', o', he, _, hc⟩ := h.in_ hb hi
  cases he
  exact hc
set_option maxHeartbeats 4000000 in
theorem octetApart_core (A A' : Option Addr) (len cap len' cap' : Nat) (xs ys : List Int) (size : Int) (w : World) (hlen : xs.length = len) (hlen' : ys.length = len') (hm : len ≤ maxLen) (hm' : len' ≤ maxLen) (hx : ∀ x ∈ xs, 0 ≤ x ∧ x ≤ 18446744073709551615) (hy : ∀ x ∈ ys, 0 ≤ x ∧ x ≤ 18446744073709551615)
    (hrow : Row1 w A (Value.int .u64) xs) (hrow' : Row1 w A' (Value.int .u64) ys) :
    Calls Tryd.prog 6 #[.slice A len cap, .slice A' len' cap', .int .i64 size] w fun e w' => e = .returned (.bool true) ∧ Below w.heap.size w w' := by
  unfold maxLen at hm hm'
  obtain ⟨kk, hk, hk1⟩ := modU size 8 (by omega) (by omega)
  obtain ⟨k, hkk, hk2, hk3⟩ : ∃ k : Nat, 1 + (kk : Int) = k ∧ 1 ≤ k ∧ k ≤ 8 := ⟨kk + 1, by omega, by omega, by omega⟩
  have AW := Lib.hid awake1
  go_enter Tryd.func6, Tryd.ntmps6
  go_wp2_with fail
  refine (AW.out _).mono ?_
  rintro e w1 ⟨rfl, hb1⟩
  have W0 := W2.new_ w1
  go_upto_region 7 with fail
  generalize hN : (if (40 : Int) < (if len' < len then (len' : Int) else len) then (40 : Int) else (if len' < len then (len' : Int) else len)) = N
  obtain ⟨n, rfl, hn1, hn2, hn3⟩ : ∃ n : Nat, N = n ∧ n ≤ len ∧ n ≤ len' ∧ n ≤ 40 := by
    refine ⟨N.toNat, ?_, ?_, ?_, ?_⟩ <;> (rw [← hN]; (repeat' split) <;> omega)
  go_wp2_with fail
  clear hN hk hkk hk1
  go_loopw [11, 12] (fun s i wr => ∃ (j : Nat) (B : Bool), j ≤ n ∧ i = .int .i64 j ∧ s = .bool B ∧ Hid (decide (encs k (xs.take j) = encs k (ys.take j)) = B) ∧ W2 w1 w1.heap.size w1.heap.size (w1.heap.size + 1) (encs k (xs.take j)) (encs k (ys.take j)) wr) (fun _ i _ => n - (intOf i).toNat)
  case atStart => exact ⟨0, true, by omega, rfl, rfl, by simp [Hid], by simpa [encs] using W0⟩
  case round =>
    obtain ⟨j, B, hj, rfl, rfl, HB, hW⟩ := hrel
    clear W0
    by_cases hlt : j < n
    · have hjx : j < xs.length := by omega
      have hjy : j < ys.length := by omega
      obtain ⟨b0, o0, rfl, hlt0, q0⟩ := hrow.in_ (below_then hb1 hW.below) hjx
      obtain ⟨b1, o1, rfl, hlt1, q1⟩ := hrow'.in_ (below_then hb1 hW.below) hjy
      obtain ⟨X, hX⟩ : ∃ X : Nat, xs[j] = (X : Int) := ⟨xs[j].toNat, by have := hx _ (List.getElem_mem hjx); omega⟩
      obtain ⟨Y, hY⟩ : ∃ Y : Nat, ys[j] = (Y : Int) := ⟨ys[j].toNat, by have := hy _ (List.getElem_mem hjy); omega⟩
      have hX1 : X < 18446744073709551616 := by have := hx _ (List.getElem_mem hjx); omega
      have hY1 : Y < 18446744073709551616 := by have := hy _ (List.getElem_mem hjy); omega
      have HQ0 := Lib.hid (fun (W : World) (hb : Below w.heap.size w W) => (hrow.cell_at hb hjx).trans (by rw [hX]) : ∀ W : World, Below w.heap.size w W → W.cell? ⟨b0, o0 + j, none⟩ = some (.int .u64 X))
      have HQ1 := Lib.hid (fun (W : World) (hb : Below w.heap.size w W) => (hrow'.cell_at hb hjy).trans (by rw [hY]) : ∀ W : World, Below w.heap.size w W → W.cell? ⟨b1, o1 + j, none⟩ = some (.int .u64 Y))
      rw [hX] at q0
      clear q1
      have hst := same_step k xs ys j hjx hjy
      rw [hX, hY, HB.out] at hst
      simp only [Int.toNat_natCast] at hst
      have HST := Lib.hid hst
      have ex := encs_take k xs j hjx
      have ey := encs_take k ys j hjy
      rw [hX] at ex
      rw [hY] at ey
      simp only [Int.toNat_natCast] at ex ey
      have EX := Lib.hid ex
      have EY := Lib.hid ey
      have lx : (encs k (xs.take j)).length ≤ 1000 := by rw [encs_length, List.length_take]; have : min j xs.length * k ≤ 40 * 8 := Nat.mul_le_mul (by omega) hk3; omega
      have ly : (encs k (ys.take j)).length ≤ 1000 := by rw [encs_length, List.length_take]; have : min j ys.length * k ≤ 40 * 8 := Nat.mul_le_mul (by omega) hk3; omega
      clear hst ex ey hX hY
      have hcl : clampSize k = k := getN_clamp k hk2 hk3
      have Hcl := Lib.hid hcl
      clear hcl
      go_wp2_with fail
      refine (hW.put1 X k k Hcl.out hX1 (by omega)).mono ?_
      rintro e w2 ⟨rfl, hW⟩
      clear q0
      have q1 := HQ1.out _ (below_then hb1 hW.below)
      go_wp2_with fail
      refine (hW.put2 Y k k Hcl.out hY1 (by omega)).mono ?_
      rintro e w3 ⟨rfl, hW⟩
      clear q1
      have q0 := HQ0.out _ (below_then hb1 hW.below)
      have q1 := HQ1.out _ (below_then hb1 hW.below)
      by_cases h8 : k < 8
      · have h8' : (k : Int) < 8 := by omega
        have h8d : decide ((k : Int) < 8) = true := by simpa using h8'
        obtain ⟨M, hM⟩ : ∃ M : Nat, 256 ^ k = M := ⟨_, rfl⟩
        have hM1 : 0 < M := by rw [← hM]; exact Nat.pow_pos (by decide)
        have hM2 : M < 18446744073709551616 := by rw [← hM]; have := Nat.pow_le_pow_right (show 0 < 256 by decide) (show k ≤ 7 by omega); omega
        have hsh : IntKind.u64.wrap (2 ^ (8 * k)) = (M : Int) := by
          have e : (2 : Int) ^ (8 * k) = ((256 ^ k : Nat) : Int) := by rw [show (256 : Nat) = 2 ^ 8 by decide, ← Nat.pow_mul]; simp
          rw [e, hM]
          exact IntWalk.u64_in _ (by omega)
        have hMz : ¬ ((M : Int) = 0) := by omega
        have hMz2 : ((M : Int) == 0) = false := by simp; omega
        have hE : ((X : Int) % M == (Y : Int) % M) = decide (X % M = Y % M) := by rw [Bool.eq_iff_iff, beq_iff_eq, decide_eq_true_iff]; omega
        rw [hM] at HST
        generalize decide (X % M = Y % M) = E at hE HST
        have hMn : ¬ M = 0 := by omega
        clear hM hMz hM1 hM2
        cases B
        · go_wp2_with fail
          go_roundw
          case rel => exact ⟨j + 1, _, by omega, by go_num, rfl, by rw [HST.out]; rfl, by rw [EX.out, EY.out]; exact hW⟩
          case measure => simp [intOf]; omega
        · go_wp2_with fail
          go_roundw
          case rel => exact ⟨j + 1, _, by omega, by go_num, rfl, by rw [HST.out]; simp [Hid], by rw [EX.out, EY.out]; exact hW⟩
          case measure => simp [intOf]; omega
      · have h8' : ¬ (k : Int) < 8 := by omega
        have h8d : decide ((k : Int) < 8) = false := by simp; omega
        have e8 : 256 ^ k = 18446744073709551616 := by rw [show k = 8 by omega]
        have hE : ((X : Int) == (Y : Int)) = decide (X % 256 ^ k = Y % 256 ^ k) := by rw [Bool.eq_iff_iff, beq_iff_eq, decide_eq_true_iff, e8, Nat.mod_eq_of_lt hX1, Nat.mod_eq_of_lt hY1]; omega
        clear e8
        generalize decide (X % 256 ^ k = Y % 256 ^ k) = E at hE HST
        cases B
        · go_wp2_with fail
          go_roundw
          case rel => exact ⟨j + 1, _, by omega, by go_num, rfl, by rw [HST.out]; rfl, by rw [EX.out, EY.out]; exact hW⟩
          case measure => simp [intOf]; omega
        · go_wp2_with fail
          go_roundw
          case rel => exact ⟨j + 1, _, by omega, by go_num, rfl, by rw [HST.out]; simp [Hid], by rw [EX.out, EY.out]; exact hW⟩
          case measure => simp [intOf]; omega
    · obtain rfl : j = n := by omega
      clear hlt hj hx hy hrow hrow'
      have lx : ((encs k (xs.take j)).length : Int) = (j : Int) * k := by rw [encs_length, List.length_take, Nat.min_eq_left (by omega)]; exact Int.natCast_mul j k
      have ly : ((encs k (ys.take j)).length : Int) = (j : Int) * k := by rw [encs_length, List.length_take, Nat.min_eq_left (by omega)]; exact Int.natCast_mul j k
      have hjk : j * k ≤ 40 * 8 := Nat.mul_le_mul hn3 hk3
      have hjk' : (j : Int) * k ≤ 320 := by rw [← Int.natCast_mul]; omega
      have hjk0 : 0 ≤ (j : Int) * k := by rw [← Int.natCast_mul]; omega
      generalize encs k (xs.take j) = L at HB hW lx
      generalize encs k (ys.take j) = L' at HB hW ly
      have hq : ((⟨L.toArray⟩ : ByteArray).toList == (⟨L'.toArray⟩ : ByteArray).toList) = B := by
        rw [← HB.out, Bool.eq_iff_iff, beq_iff_eq, decide_eq_true_iff, ByteArray.toList_eq, ByteArray.toList_eq]
      simp only [ByteArray.toList_eq] at hq
      go_wp2_with fail
      refine hW.str1.mono ?_
      rintro e w5 ⟨rfl, hW⟩
      go_wp2_with fail
      refine hW.str2.mono ?_
      rintro e w6 ⟨rfl, hW⟩
      cases B
      · go_wp2_with fail
        refine hW.len1.mono ?_
        rintro e w7 ⟨rfl, rfl⟩
        go_wp2_with fail
        refine hW.len2.mono ?_
        rintro e w8 ⟨rfl, rfl⟩
        go_wp2_with fail
        go_ret
        exact ⟨rfl, below_then hb1 hW.below⟩
      · go_wp2_with fail
        refine hW.len1.mono ?_
        rintro e w7 ⟨rfl, rfl⟩
        go_wp2_with fail
        refine hW.len2.mono ?_
        rintro e w8 ⟨rfl, rfl⟩
        go_wp2_with fail
        go_ret
        exact ⟨rfl, below_then hb1 hW.below⟩
theorem octetApart_walk (w : World) (v0 v1 v2 : Value) (h0 : Arg Tryd.prog w 53 v0) (h1 : Arg Tryd.prog w 53 v1) (h2 : Arg Tryd.prog w 3 v2) :
    Calls Tryd.prog 6 #[v0, v1, v2] w fun e w' => e = .returned (.bool true) ∧ Below w.heap.size w w' := by
  obtain ⟨A, len, cap, xs, rfl, hc, hm, h3, h5, h4⟩ := arg_ints Tryd.underlying53 Tryd.underlying31 (by kernel_rfl) h0
  obtain ⟨A', len', cap', ys, rfl, hc', hm', h3', h5', h4'⟩ := arg_ints Tryd.underlying53 Tryd.underlying31 (by kernel_rfl) h1
  obtain ⟨s, rfl, _⟩ := arg_int Tryd.underlying3 h2
  exact octetApart_core A A' len cap len' cap' xs ys s w h3 h3' (by omega) (by omega) (fun x hx => bounds_u64 (h5 x hx)) (fun x hx => bounds_u64 (h5' x hx)) h4 h4'
end Go.Proofs.YtencbdcfcpohaaaDoor
