/- What an argument that can be read as data looks like, by its type: lemmas that open an argument. No function of the program in sight. -/
import Derived.Test.YtdpohbaeopidmaaKOwnersExact00
import Derived.ProofKit
import Derived.OpenShut
import Derived.ChangeOld
import Derived.Deep.Fields
import Derived.Test.YtdpohbaeopidmaaKOwnersExact02
import Derived.Test.YtdpohbaeopidmaaKOwnersExact03
namespace Go.Proofs.Ytdpohbaeopidmaa
set_option linter.unusedVariables false
set_option linter.unusedSimpArgs false
open Go.RowKit Go.ChangeShapes Go.WideShapes Go.ChangeAt

/-- These cells read as a value of type t. -/
def Fit (P : Program) (w : World) (t : TypeId) (cs : List Value) : Prop :=
  ∃ (H : Type) (enc : TypeId × Value → H) (fuel : Nat) (x : DataW H × List MemPlace), DataW.trod enc P w 0 (fun _ => true) true fuel t cs = some x

/-- An argument of type t. -/
def Arg (P : Program) (w : World) (t : TypeId) (v : Value) : Prop := Fit P w t v.cells.toList ∧ ∃ r base, Value.okWide P w r base t v

section
variable {P : Program} {w : World} {t : TypeId} {cs : List Value} {v : Value}
theorem Arg.mk_ {H : Type} {enc : TypeId × Value → H} {d : DataW H} {p : List MemPlace} {r : Reach} {base : Nat} (h : DataW.Trod enc P w 0 (fun _ => true) true t v d p) (hv : Value.okWide P w r base t v) : Arg P w t v := by
  obtain ⟨fuel, hf⟩ := h
  exact ⟨⟨H, enc, fuel, _, hf⟩, r, base, hv⟩
theorem fit_bool (ht : P.underlying t = some .bool) (h : Fit P w t cs) : ∃ b, cs = [.bool b] := by
  obtain ⟨H, enc, fuel, x, h⟩ := h
  obtain ⟨b, h1, _⟩ := DataW.trod_bool ht h
  exact ⟨b, h1⟩
theorem fit_int {k : IntKind} (ht : P.underlying t = some (.int k)) (h : Fit P w t cs) : ∃ n, cs = [.int k n] ∧ (Lit.int k n).wf = true := by
  obtain ⟨H, enc, fuel, x, h⟩ := h
  obtain ⟨n, h1, _, h2⟩ := DataW.trod_int ht h
  exact ⟨n, h1, h2⟩
theorem fit_string (ht : P.underlying t = some .string) (h : Fit P w t cs) : ∃ s : ByteArray, cs = [.string s] ∧ s.size ≤ maxLen := by
  obtain ⟨H, enc, fuel, x, h⟩ := h
  obtain ⟨n, h1, _, h2⟩ := DataW.trod_string ht h
  exact ⟨n, h1, h2⟩
theorem fit_struct {fs : Array Field} (ht : P.underlying t = some (.struct fs)) (h : Fit P w t cs) :
    cs.length = P.cellsOf t ∧ ∀ (i : Nat) (f : Field), fs[i]? = some f → Fit P w f.type ((cs.drop f.offset).take (P.cellsOf f.type)) := by
  obtain ⟨H, enc, fuel, x, h⟩ := h
  obtain ⟨xs, n, _, _, hl, hx, hg⟩ := DataW.trod_struct ht h
  refine ⟨hl, fun i f hf => ?_⟩
  have hi : i < xs.length := by rw [hx]; exact (Array.getElem?_eq_some_iff.1 hf).1
  exact ⟨H, enc, n, xs[i], (hg i f hf).trans (List.getElem?_eq_getElem hi)⟩
theorem fit_array {n : Nat} {e : TypeId} (ht : P.underlying t = some (.array n e)) (h : Fit P w t cs) :
    cs.length = P.cellsOf t ∧ ∀ i, i < n → Fit P w e ((cs.drop (i * P.cellsOf e)).take (P.cellsOf e)) := by
  obtain ⟨H, enc, fuel, x, h⟩ := h
  obtain ⟨xs, m, _, _, hl, hx, hg⟩ := DataW.trod_array ht h
  refine ⟨hl, fun i hi => ?_⟩
  exact ⟨H, enc, m, xs[i], (hg i hi).trans (List.getElem?_eq_getElem (by omega))⟩
/-- A slice: its elements lie from an address on, c cells each. -/
theorem fit_slice {e : TypeId} {c : Nat} (ht : P.underlying t = some (.slice e)) (hc : P.cellsOf e = c) (h : Fit P w t cs) :
    ∃ A len cap, cs = [.slice A len cap] ∧ len ≤ cap ∧ cap ≤ maxLen ∧ (A = none → len = 0) ∧
      (∀ ad, A = some ad → ∀ i, i < len → ∃ cs', cs'.length = c ∧ (∀ j, j < c → w.cell? ((ad.add (i * c)).add j) = cs'[j]?) ∧ Fit P w e cs') := by
  obtain ⟨H, enc, fuel, x, h⟩ := h
  rcases DataW.trod_slice ht h with ⟨rfl, _⟩ | ⟨a, len, cap, elems, rest, n, _, rfl, _, _, hl, hm, hlen, hel, _, _⟩
  · exact ⟨none, 0, 0, rfl, Nat.le_refl _, by decide, fun _ => rfl, fun ad e => by cases e⟩
  · refine ⟨some a, len, cap, rfl, hl, hm, (fun e => by cases e), fun ad e i hi => ?_⟩
    injection e with e
    subst e
    have := hel i hi
    rw [List.getElem?_eq_getElem (by omega)] at this
    obtain ⟨cs', h1, h2⟩ := Option.bind_eq_some_iff.1 this
    obtain ⟨_, h3, h4⟩ := World.cells?_some h1
    subst hc
    exact ⟨cs', h3, h4, H, enc, n, _, h2⟩

theorem arg_bool (ht : P.underlying t = some .bool) (h : Arg P w t v) : ∃ b, v = .bool b := by
  obtain ⟨_, r, base, hv⟩ := h
  exact okWide_bool ht hv
theorem arg_int {k : IntKind} (ht : P.underlying t = some (.int k)) (h : Arg P w t v) : ∃ n, v = .int k n ∧ (Lit.int k n).wf = true := by
  obtain ⟨hf, r, base, hv⟩ := h
  obtain ⟨n, rfl⟩ := okWide_int ht hv
  obtain ⟨m, h1, h2⟩ := fit_int ht hf
  simp [Value.cells] at h1
  subst h1
  exact ⟨n, rfl, h2⟩
theorem arg_string (ht : P.underlying t = some .string) (h : Arg P w t v) : ∃ s : ByteArray, v = .string s ∧ s.size ≤ maxLen := by
  obtain ⟨hf, r, base, hv⟩ := h
  obtain ⟨n, rfl⟩ := okWide_string ht hv
  obtain ⟨m, h1, h2⟩ := fit_string ht hf
  simp [Value.cells] at h1
  subst h1
  exact ⟨n, rfl, h2⟩
theorem arg_slice {e : TypeId} (ht : P.underlying t = some (.slice e)) (h : Arg P w t v) : Fit P w t [v] := by
  obtain ⟨hf, r, base, hv⟩ := h
  obtain ⟨a, len, cap, rfl⟩ := okWide_slice ht hv
  exact hf
theorem arg_struct {fs : Array Field} (ht : P.underlying t = some (.struct fs)) (h : Arg P w t v) : ∃ cs, v = .agg ⟨cs⟩ ∧ Fit P w t cs := by
  obtain ⟨hf, r, base, hv⟩ := h
  obtain ⟨cs, rfl, _⟩ := okWide_struct ht hv
  exact ⟨cs.toList, rfl, hf⟩
theorem arg_array {n : Nat} {e : TypeId} (ht : P.underlying t = some (.array n e)) (h : Arg P w t v) : ∃ cs, v = .agg ⟨cs⟩ ∧ Fit P w t cs := by
  obtain ⟨hf, r, base, hv⟩ := h
  simp only [Value.okWide, ht] at hv
  obtain ⟨cs, rfl, _, _⟩ := hv
  exact ⟨cs.toList, rfl, hf⟩
end

/-! ### Slices as lists of data: 'Row': element i lies at 'off + i * c', its cells are 'enc x'; 'Row1': elements of one cell. -/
theorem cell_lt {w : World} {a : Addr} {v : Value} (h : w.cell? a = some v) : a.block < w.heap.size := by
  rcases Nat.lt_or_ge a.block w.heap.size with hlt | hge
  · exact hlt
  · have e : w.heap[a.block]? = none := by simp [hge]
    simp [World.cell?, e] at h

def Row {E : Type} (w : World) (A : Option Addr) (c : Nat) (enc : E → List Value) (xs : List E) : Prop :=
  ∀ i x, xs[i]? = some x → ∃ b off, A = some ⟨b, off, none⟩ ∧ b < w.heap.size ∧ ∀ j u, (enc x)[j]? = some u → w.cell? ⟨b, off + i * c + j, none⟩ = some u
def Row1 {E : Type} (w : World) (A : Option Addr) (enc : E → Value) (xs : List E) : Prop :=
  ∀ i x, xs[i]? = some x → ∃ b off, A = some ⟨b, off, none⟩ ∧ b < w.heap.size ∧ w.cell? ⟨b, off + i, none⟩ = some (enc x)

theorem Row.below {E : Type} {w w' : World} {A : Option Addr} {c : Nat} {enc : E → List Value} {xs : List E} (h : Row w A c enc xs) (hb : Below w.heap.size w w') : Row w' A c enc xs := by
  intro i x hx
  obtain ⟨b, off, hA, hlt, hc⟩ := h i x hx
  exact ⟨b, off, hA, Nat.lt_of_lt_of_le hlt hb.size, fun j u hu => (hb.cell (p := ⟨b, _, none⟩) hlt).trans (hc j u hu)⟩
theorem Row1.below {E : Type} {w w' : World} {A : Option Addr} {enc : E → Value} {xs : List E} (h : Row1 w A enc xs) (hb : Below w.heap.size w w') : Row1 w' A enc xs := by
  intro i x hx
  obtain ⟨b, off, hA, hlt, hc⟩ := h i x hx
  exact ⟨b, off, hA, Nat.lt_of_lt_of_le hlt hb.size, (hb.cell (p := ⟨b, _, none⟩) hlt).trans hc⟩
theorem Row1.at_ {E : Type} {w : World} {A : Option Addr} {enc : E → Value} {xs : List E} (h : Row1 w A enc xs) {i : Nat} (hi : i < xs.length) : ∃ b off, A = some ⟨b, off, none⟩ ∧ b < w.heap.size ∧ w.cell? ⟨b, off + i, none⟩ = some (enc xs[i]) :=
  h i _ (List.getElem?_eq_getElem hi)
theorem Row.at_ {E : Type} {w : World} {A : Option Addr} {c : Nat} {enc : E → List Value} {xs : List E} (h : Row w A c enc xs) {i : Nat} (hi : i < xs.length) : ∃ b off, A = some ⟨b, off, none⟩ ∧ b < w.heap.size ∧ ∀ j u, (enc xs[i])[j]? = some u → w.cell? ⟨b, off + i * c + j, none⟩ = some u :=
  h i _ (List.getElem?_eq_getElem hi)

/-- An element in a later world. -/
theorem Row1.in_ {E : Type} {w w' : World} {A : Option Addr} {enc : E → Value} {xs : List E} (h : Row1 w A enc xs) (hb : Below w.heap.size w w') {i : Nat} (hi : i < xs.length) : ∃ b off, A = some ⟨b, off, none⟩ ∧ b < w.heap.size ∧ w'.cell? ⟨b, off + i, none⟩ = some (enc xs[i]) := by
  obtain ⟨b, off, hA, hlt, hc⟩ := h.at_ hi
  exact ⟨b, off, hA, hlt, (hb.cell (p := ⟨b, _, none⟩) hlt).trans hc⟩
theorem Row.in_ {E : Type} {w w' : World} {A : Option Addr} {c : Nat} {enc : E → List Value} {xs : List E} (h : Row w A c enc xs) (hb : Below w.heap.size w w') {i : Nat} (hi : i < xs.length) : ∃ b off, A = some ⟨b, off, none⟩ ∧ b < w.heap.size ∧ ∀ j u, (enc xs[i])[j]? = some u → w'.cell? ⟨b, off + i * c + j, none⟩ = some u := by
  obtain ⟨b, off, hA, hlt, hc⟩ := h.at_ hi
  exact ⟨b, off, hA, hlt, fun j u hu => (hb.cell (p := ⟨b, _, none⟩) hlt).trans (hc j u hu)⟩

theorem list_of {E : Type} (n : Nat) (p : Nat → E → Prop) (h : ∀ i, i < n → ∃ x, p i x) : ∃ xs : List E, xs.length = n ∧ ∀ i x, xs[i]? = some x → p i x := by
  induction n with
  | zero => exact ⟨[], rfl, fun i x hx => by simp at hx⟩
  | succ n ih =>
    obtain ⟨xs, hl, hp⟩ := ih (fun i hi => h i (by omega))
    obtain ⟨x, hx⟩ := h n (by omega)
    refine ⟨xs ++ [x], by simp [hl], fun i y hy => ?_⟩
    by_cases hi : i < n
    · rw [List.getElem?_append_left (by omega)] at hy
      exact hp i y hy
    · have : i = n := by
        have := (List.getElem?_eq_some_iff.1 hy).1
        simp at this
        omega
      subst this
      rw [List.getElem?_append_right (by omega)] at hy
      simp [hl] at hy
      subst hy
      exact hx

section
variable {P : Program} {w : World} {t e : TypeId} {v : Value} {E : Type}
theorem fit_row {c : Nat} (enc : E → List Value) (good : E → Prop) (ht : P.underlying t = some (.slice e)) (hc : P.cellsOf e = c) (hpos : 0 < c)
    (hE : ∀ cs', cs'.length = c → Fit P w e cs' → ∃ x, cs' = enc x ∧ good x) (h : Fit P w t [v]) :
    ∃ A len cap, ∃ xs : List E, v = .slice A len cap ∧ len ≤ cap ∧ cap ≤ maxLen ∧ xs.length = len ∧ (∀ x ∈ xs, good x) ∧ Row w A c enc xs := by
  obtain ⟨A, len, cap, hv, hl, hm, hn, hr⟩ := fit_slice ht hc h
  injection hv with hv _
  subst hv
  rcases A with _ | ad
  · obtain rfl := hn rfl
    exact ⟨none, 0, cap, [], rfl, hl, hm, rfl, (fun x hx => by simp at hx), fun i x hx => by simp at hx⟩
  · obtain ⟨xs, hlen, hp⟩ := list_of len (fun i x => (∀ j, j < c → w.cell? ((ad.add (i * c)).add j) = (enc x)[j]?) ∧ (enc x).length = c ∧ good x) (fun i hi => by
      obtain ⟨cs', h1, h2, h3⟩ := hr ad rfl i hi
      obtain ⟨x, rfl, hg⟩ := hE cs' h1 h3
      exact ⟨x, h2, h1, hg⟩)
    refine ⟨some ad, len, cap, xs, rfl, hl, hm, hlen, (fun x hx => ?_), fun i x hx => ?_⟩
    · obtain ⟨i, hi, rfl⟩ := List.getElem_of_mem hx
      exact (hp i _ (List.getElem?_eq_getElem hi)).2.2
    · have hi : i < len := by have := (List.getElem?_eq_some_iff.1 hx).1; omega
      obtain ⟨h0, _, _⟩ := hp 0 _ (List.getElem?_eq_getElem (by omega))
      obtain ⟨h2, h1, _⟩ := hp i x hx
      have q0 := h0 0 hpos
      obtain ⟨_, h1', _⟩ := hp 0 _ (List.getElem?_eq_getElem (by omega))
      rw [List.getElem?_eq_getElem (by omega)] at q0
      have hs := World.cell?_spot q0
      simp [Addr.add] at hs
      obtain ⟨b, off, spot⟩ := ad
      simp at hs
      subst hs
      refine ⟨b, off, rfl, ?_, fun j u hu => ?_⟩
      · have := cell_lt q0
        simpa [Addr.add] using this
      · have hj : j < c := by have := (List.getElem?_eq_some_iff.1 hu).1; omega
        have := h2 j hj
        rw [hu] at this
        rw [← this]
        congr 1
        unfold Addr.add
        by_cases k1 : i * c = 0 <;> by_cases k2 : j = 0 <;> simp [k1, k2, Nat.add_assoc]

theorem fit_row1 (enc : E → Value) (good : E → Prop) (ht : P.underlying t = some (.slice e)) (hc : P.cellsOf e = 1)
    (hE : ∀ cs', Fit P w e cs' → ∃ x, cs' = [enc x] ∧ good x) (h : Fit P w t [v]) :
    ∃ A len cap, ∃ xs : List E, v = .slice A len cap ∧ len ≤ cap ∧ cap ≤ maxLen ∧ xs.length = len ∧ (∀ x ∈ xs, good x) ∧ Row1 w A enc xs := by
  obtain ⟨A, len, cap, xs, h1, h2, h3, h4, h5, h6⟩ := fit_row (fun x => [enc x]) good ht hc (by omega) (fun cs' _ hf => hE cs' hf) h
  refine ⟨A, len, cap, xs, h1, h2, h3, h4, h5, fun i x hx => ?_⟩
  obtain ⟨b, off, hA, hb, hj⟩ := h6 i x hx
  exact ⟨b, off, hA, hb, by simpa using hj 0 _ rfl⟩

theorem arg_ints {k : IntKind} (ht : P.underlying t = some (.slice e)) (he : P.underlying e = some (.int k)) (hc : P.cellsOf e = 1) (h : Arg P w t v) :
    ∃ A len cap, ∃ xs : List Int, v = .slice A len cap ∧ len ≤ cap ∧ cap ≤ maxLen ∧ xs.length = len ∧ (∀ x ∈ xs, (Lit.int k x).wf = true) ∧ Row1 w A (Value.int k) xs :=
  fit_row1 _ _ ht hc (fun _ hf => fit_int he hf) (arg_slice ht h)
theorem arg_bools (ht : P.underlying t = some (.slice e)) (he : P.underlying e = some .bool) (hc : P.cellsOf e = 1) (h : Arg P w t v) :
    ∃ A len cap, ∃ xs : List Bool, v = .slice A len cap ∧ len ≤ cap ∧ cap ≤ maxLen ∧ xs.length = len ∧ Row1 w A Value.bool xs := by
  obtain ⟨A, len, cap, xs, h1, h2, h3, h4, _, h5⟩ := fit_row1 (E := Bool) Value.bool (fun _ => True) ht hc (fun _ hf => by obtain ⟨b, hb⟩ := fit_bool he hf; exact ⟨b, hb, trivial⟩) (arg_slice ht h)
  exact ⟨A, len, cap, xs, h1, h2, h3, h4, h5⟩
theorem arg_strings (ht : P.underlying t = some (.slice e)) (he : P.underlying e = some .string) (hc : P.cellsOf e = 1) (h : Arg P w t v) :
    ∃ A len cap, ∃ xs : List ByteArray, v = .slice A len cap ∧ len ≤ cap ∧ cap ≤ maxLen ∧ xs.length = len ∧ (∀ x ∈ xs, x.size ≤ maxLen) ∧ Row1 w A Value.string xs :=
  fit_row1 _ _ ht hc (fun _ hf => fit_string he hf) (arg_slice ht h)
end
end Go.Proofs.Ytdpohbaeopidmaa

/- Structs by value as arguments: a struct of one-cell fields; short lists by their elements. -/
namespace Go.Proofs.Ytdpohbaeopidmaa
set_option linter.unusedVariables false
set_option linter.unusedSimpArgs false
open Go.RowKit Go.ChangeShapes Go.WideShapes Go.ChangeAt Go.Deep

theorem list2_of {α : Type} {l : List α} {a0 a1 : α} (hl : l.length = 2) (h0 : l[0]? = some a0) (h1 : l[1]? = some a1) : l = [a0, a1] := by
  match l, hl with
  | [x0, x1], _ => simp at h0 h1; rw [h0, h1]
theorem list3_of {α : Type} {l : List α} {a0 a1 a2 : α} (hl : l.length = 3) (h0 : l[0]? = some a0) (h1 : l[1]? = some a1) (h2 : l[2]? = some a2) : l = [a0, a1, a2] := by
  match l, hl with
  | [x0, x1, x2], _ => simp at h0 h1 h2; rw [h0, h1, h2]
theorem list4_of {α : Type} {l : List α} {a0 a1 a2 a3 : α} (hl : l.length = 4) (h0 : l[0]? = some a0) (h1 : l[1]? = some a1) (h2 : l[2]? = some a2) (h3 : l[3]? = some a3) : l = [a0, a1, a2, a3] := by
  match l, hl with
  | [x0, x1, x2, x3], _ => simp at h0 h1 h2 h3; rw [h0, h1, h2, h3]
theorem list5_of {α : Type} {l : List α} {a0 a1 a2 a3 a4 : α} (hl : l.length = 5) (h0 : l[0]? = some a0) (h1 : l[1]? = some a1) (h2 : l[2]? = some a2) (h3 : l[3]? = some a3) (h4 : l[4]? = some a4) : l = [a0, a1, a2, a3, a4] := by
  match l, hl with
  | [x0, x1, x2, x3, x4], _ => simp at h0 h1 h2 h3 h4; rw [h0, h1, h2, h3, h4]

theorem take1_drop {α : Type} {l : List α} {i : Nat} {v : α} (h : (l.drop i).take 1 = [v]) : l[i]? = some v := by
  have : ((l.drop i).take 1)[0]? = some v := by rw [h]; rfl
  rw [List.getElem?_take_of_lt (by omega), List.getElem?_drop] at this
  simpa using this

section
variable {P : Program} {w : World} {t : TypeId} {cs : List Value}
/-- Each field's cells are those from its offset on. -/
theorem fit_fields {fs : Array Field} (n : Nat) (ht : P.underlying t = some (.struct fs)) (hC : P.cellsOf t = n) (h : Fit P w t cs) :
    cs.length = n ∧ ∀ (i o e c : Nat), (fs[i]?).map (fun f => (f.offset, f.type)) = some (o, e) → P.cellsOf e = c → Fit P w e ((cs.drop o).take c) := by
  obtain ⟨hl, hx⟩ := fit_struct ht h
  refine ⟨by rw [hl, hC], fun i o e c hf hc => ?_⟩
  cases hfi : fs[i]? with
  | none => rw [hfi] at hf; cases hf
  | some f =>
    rw [hfi] at hf
    simp only [Option.map_some, Option.some.injEq, Prod.mk.injEq] at hf
    obtain ⟨rfl, rfl⟩ := hf
    have := hx i f hfi
    rwa [hc] at this
theorem cell_int {k : IntKind} (ht : P.underlying t = some (.int k)) {i : Nat} (h : Fit P w t ((cs.drop i).take 1)) : ∃ n, cs[i]? = some (.int k n) ∧ (Lit.int k n).wf = true := by
  obtain ⟨n, h1, h2⟩ := fit_int ht h
  exact ⟨n, take1_drop h1, h2⟩
theorem cell_bool (ht : P.underlying t = some .bool) {i : Nat} (h : Fit P w t ((cs.drop i).take 1)) : ∃ b, cs[i]? = some (.bool b) := by
  obtain ⟨n, h1⟩ := fit_bool ht h
  exact ⟨n, take1_drop h1⟩
theorem cell_string (ht : P.underlying t = some .string) {i : Nat} (h : Fit P w t ((cs.drop i).take 1)) : ∃ s : ByteArray, cs[i]? = some (.string s) ∧ s.size ≤ maxLen := by
  obtain ⟨n, h1, h2⟩ := fit_string ht h
  exact ⟨n, take1_drop h1, h2⟩
end
end Go.Proofs.Ytdpohbaeopidmaa

/- owners: comparing. -/
namespace Go.Proofs.Ytdpohbaeopidmaa
set_option linter.unusedVariables false
set_option linter.unusedSimpArgs false
open Go.RowKit

/-- An owner: volume, birth, place. -/
abbrev OwD := Int × Int × Int
def ownC (x : OwD) : List Value := [.int .i64 x.1, .int .i64 x.2.1, .int .i64 x.2.2]
def ownV (x : OwD) : Value := .agg #[.int .i64 x.1, .int .i64 x.2.1, .int .i64 x.2.2]
theorem ownC_len (x : OwD) : (ownC x).length = 3 := rfl
theorem ownC_one (x : OwD) : ∀ u ∈ ownC x, u.oneCell' = true := by
  intro u hu
  simp [ownC] at hu
  rcases hu with rfl | rfl | rfl <;> rfl
theorem flat_one (X : List OwD) : ∀ u ∈ X.flatMap ownC, u.oneCell' = true := by
  intro u hu
  obtain ⟨x, _, hx⟩ := List.mem_flatMap.1 hu
  exact ownC_one x u hx
theorem flat_len (X : List OwD) : (X.flatMap ownC).length = X.length * 3 := by
  induction X with
  | nil => rfl
  | cons x X ih => rw [List.flatMap_cons, List.length_append, ih, ownC_len, List.length_cons]; omega

def cmpI (x y : Int) : Int := if x < y then -1 else if y < x then 1 else 0
theorem isnanI_any (x : Int) (w : World) : Calls Try.prog 108 #[.int .i64 x] w fun e w' => e = .returned (.bool false) ∧ w = w' := by
  go_enter Try.func108, Try.ntmps108
  go_wp2_with fail
  go_ret
  exact ⟨rfl, rfl⟩
theorem cmpI_any (x y : Int) (w : World) : Calls Try.prog 95 #[.int .i64 x, .int .i64 y] w fun e w' => e = .returned (.int .i64 (cmpI x y)) ∧ w = w' := by
  by_cases h1 : x < y
  · have e : cmpI x y = -1 := by unfold cmpI; rw [if_pos h1]
    rw [e]
    clear e
    go_enter Try.func95, Try.ntmps95
    go_wp2_with fail
    refine (isnanI_any x _).mono ?_
    rintro e w1 ⟨rfl, rfl⟩
    go_wp2_with fail
    refine (isnanI_any y _).mono ?_
    rintro e w1 ⟨rfl, rfl⟩
    go_wp2_with fail
    go_ret
    exact ⟨rfl, rfl⟩
  · by_cases h2 : y < x
    · have e : cmpI x y = 1 := by unfold cmpI; rw [if_neg h1, if_pos h2]
      rw [e]
      clear e
      go_enter Try.func95, Try.ntmps95
      go_wp2_with fail
      refine (isnanI_any x _).mono ?_
      rintro e w1 ⟨rfl, rfl⟩
      go_wp2_with fail
      refine (isnanI_any y _).mono ?_
      rintro e w1 ⟨rfl, rfl⟩
      go_wp2_with fail
      go_ret
      exact ⟨rfl, rfl⟩
    · have e : cmpI x y = 0 := by unfold cmpI; rw [if_neg h1, if_neg h2]
      rw [e]
      clear e
      go_enter Try.func95, Try.ntmps95
      go_wp2_with fail
      refine (isnanI_any x _).mono ?_
      rintro e w1 ⟨rfl, rfl⟩
      go_wp2_with fail
      refine (isnanI_any y _).mono ?_
      rintro e w1 ⟨rfl, rfl⟩
      go_wp2_with fail
      go_ret
      exact ⟨rfl, rfl⟩
/-- The first that isn't 0. -/
def firstNZ : List Int → Int
  | [] => 0
  | x :: r => if x = 0 then firstNZ r else x
set_option maxHeartbeats 1000000 in
theorem or_any (l : List Int) (g cap : Nat) (w : World) (hm : l.length ≤ 1000) (hc : ∀ (i : Nat) (x : Int), l[i]? = some x → w.cell? ⟨g, i, none⟩ = some (.int .i64 x)) :
    Calls Try.prog 94 #[.slice (some ⟨g, 0, none⟩) l.length cap] w fun e w' => e = .returned (.int .i64 (firstNZ l)) ∧ w = w' := by
  obtain ⟨n, hn⟩ : ∃ n, l.length = n := ⟨_, rfl⟩
  rw [hn] at hm ⊢
  have HN := Lib.hid hn
  have HC := Lib.hid hc
  obtain ⟨F, hF⟩ : ∃ F, firstNZ l = F := ⟨_, rfl⟩
  rw [hF]
  have HF := Lib.hid hF
  clear hn hc hF
  go_enter Try.func94, Try.ntmps94
  go_wp2_with fail
  go_loop [8] (fun i => ∃ k : Nat, k ≤ n ∧ i = .int .i64 k ∧ firstNZ (l.drop k) = F) (fun i => n - (intOf i).toNat)
  case atStart => exact ⟨0, by omega, rfl, HF.out⟩
  case round =>
    obtain ⟨k, hk, rfl, hr⟩ := hrel
    by_cases hlt : k < n
    · have hkl : k < l.length := by rw [HN.out]; exact hlt
      have hd : l.drop k = l[k] :: l.drop (k + 1) := List.drop_eq_getElem_cons hkl
      have q0 := HC.out k l[k] (List.getElem?_eq_getElem hkl)
      obtain ⟨x, hx⟩ : ∃ x, l[k] = x := ⟨_, rfl⟩
      rw [hx] at q0 hd
      rw [hd] at hr
      unfold firstNZ at hr
      have HR := Lib.hid hr
      clear hr hd hx hkl
      by_cases hx0 : x = 0
      · subst hx0
        go_wp2_with fail
        go_round
        case rel => exact ⟨k + 1, by omega, by go_num, by have := HR.out; rw [if_pos rfl] at this; exact this⟩
        case measure => simp [intOf]; omega
      · have hb : (x != 0) = true := by simpa using hx0
        go_wp2_with fail
        go_ret
        exact ⟨ret_int (by have := HR.out; rw [if_neg hx0] at this; exact this), rfl⟩
    · have : F = 0 := by rw [← hr, List.drop_of_length_le (by rw [HN.out]; omega)]; rfl
      have HF0 := Lib.hid this
      clear this hr
      go_wp2_with fail
      go_ret
      exact ⟨ret_int HF0.out.symm, rfl⟩
def cmpO (x y : OwD) : Int := firstNZ [cmpI x.1 y.1, cmpI x.2.1 y.2.1, cmpI x.2.2 y.2.2]
set_option maxRecDepth 100000 in
set_option maxHeartbeats 2000000 in
theorem cmpO_any (x y : OwD) (w : World) : Calls Try.prog 67 #[ownV x, ownV y] w fun e w' => e = .returned (.int .i64 (cmpO x y)) ∧ Ext w w' := by
  obtain ⟨x1, x2, x3⟩ := x
  obtain ⟨y1, y2, y3⟩ := y
  unfold ownV
  have HO := Lib.hid (fun (g : Nat) (W : World) (hB : Blk W g 3 #[.int .i64 (cmpI x1 y1), .int .i64 (cmpI x2 y2), .int .i64 (cmpI x3 y3)]) => or_any [cmpI x1 y1, cmpI x2 y2, cmpI x3 y3] g 3 W (by simp) (fun i x hx => by
    rw [hB.cell]
    match i, hx with
    | 0, hx => simp at hx; simp [hx]
    | 1, hx => simp at hx; simp [hx]
    | 2, hx => simp at hx; simp [hx]))
  obtain ⟨F, hF⟩ : ∃ F, cmpO (x1, x2, x3) (y1, y2, y3) = F := ⟨_, rfl⟩
  rw [hF]
  have HF := Lib.hid hF
  clear hF
  go_enter Try.func67, Try.ntmps67
  go_upto_region 1 with fail
  have O1 := ((Own.start w).new 31 #[.int .i64 x1, .int .i64 x2, .int .i64 x3]).new 31 #[.int .i64 y1, .int .i64 y2, .int .i64 y3]
  simp only [World.size_alloc] at O1
  generalize (w.alloc (.cells #[.int .i64 x1, .int .i64 x2, .int .i64 x3] 31)).alloc (.cells #[.int .i64 y1, .int .i64 y2, .int .i64 y3] 31) = w1 at O1 ⊢
  obtain ⟨w0_, rfl⟩ : ∃ w0_, w0_ = w1 := ⟨_, rfl⟩
  have HO1 := Lib.hid O1
  clear O1
  generalize w.heap.size + 1 = g2 at HO1 ⊢
  obtain ⟨g1, hg1⟩ : ∃ g1, w.heap.size = g1 := ⟨_, rfl⟩
  have HO1 : Hid (Own w.heap.size w [(g2, 31, #[.int .i64 y1, .int .i64 y2, .int .i64 y3]), (g1, 31, #[.int .i64 x1, .int .i64 x2, .int .i64 x3])] w0_) := hg1 ▸ HO1
  rw [hg1]
  clear hg1
  refine wp_phasedR (Ext) (fun l w => Ext w0_ w) [[], [0], [], [2], [0, 1, 2, 3], [], [5], [], [7], [0, 1, 2, 3, 4, 5, 6, 7, 8], [], [10], [], [12], [0, 1, 2, 3, 4, 5, 6, 7, 8, 9, 10, 11, 12, 13], [0, 1, 2, 3, 4, 5, 6, 7, 8, 9, 10, 11, 12, 13, 14], [0, 1, 2, 3, 4, 5, 6, 7, 8, 9, 10, 11, 12, 13, 14, 15], [0, 1, 2, 3, 4, 5, 6, 7, 8, 9, 10, 11, 12, 13, 14, 15, 16]] [5, 6, 7, 8, 9, 10, 11, 12, 13, 14, 15, 16, 17, 18, 19, 20] (Ext.refl) (Ext.drew _) (by kernel_rfl) ?_
  apply BuildR.det 5 (Ext.refl) (fun l w h => h) (by rfl) (by rfl) rfl
  case h =>   -- 0: t5 := Op.fieldAddr 31 (tmp 2) 0
    intro lx ax wx hE hR hF
    have e2 : ax.eval (.tmp 2) = .pointer (some ⟨g1, 0, none⟩) := hE.eval 2 (by rfl) rfl
    simp [go_sem, BigFrame.eval_const, BigFrame.eval_global, BigFrame.eval_func, ↓IntWalk.iteOmega, ev e2]
    with_reducible rfl
  apply BuildR.det 6 (Ext.refl) (fun l w h => h) (by rfl) (by rfl) rfl
  case h =>   -- 1: t6 := Op.load 3 (tmp 5)
    intro lx ax wx hE hR hF
    have e5 : ax.eval (.tmp 5) = _ := hF 0 (det 5 _) (by decide) (.head _)
    have hx := (HO1.out.ext hR).all.2.1; have hy := (HO1.out.ext hR).all.1; have a0 := hx.cell 0; have a1 := hx.cell 1; have a2 := hx.cell 2; have b0 := hy.cell 0; have b1 := hy.cell 1; have b2 := hy.cell 2; simp at a0 a1 a2 b0 b1 b2
    simp [go_sem, BigFrame.eval_const, BigFrame.eval_global, BigFrame.eval_func, ↓IntWalk.iteOmega, ev e5, a0, a1, a2, b0, b1, b2]
    with_reducible rfl
  apply BuildR.det 7 (Ext.refl) (fun l w h => h) (by rfl) (by rfl) rfl
  case h =>   -- 2: t7 := Op.fieldAddr 31 (tmp 3) 0
    intro lx ax wx hE hR hF
    have e3 : ax.eval (.tmp 3) = .pointer (some ⟨g2, 0, none⟩) := hE.eval 3 (by rfl) rfl
    simp [go_sem, BigFrame.eval_const, BigFrame.eval_global, BigFrame.eval_func, ↓IntWalk.iteOmega, ev e3]
    with_reducible rfl
  apply BuildR.det 8 (Ext.refl) (fun l w h => h) (by rfl) (by rfl) rfl
  case h =>   -- 3: t8 := Op.load 3 (tmp 7)
    intro lx ax wx hE hR hF
    have e7 : ax.eval (.tmp 7) = _ := hF 2 (det 7 _) (by decide) (.head _)
    have hx := (HO1.out.ext hR).all.2.1; have hy := (HO1.out.ext hR).all.1; have a0 := hx.cell 0; have a1 := hx.cell 1; have a2 := hx.cell 2; have b0 := hy.cell 0; have b1 := hy.cell 1; have b2 := hy.cell 2; simp at a0 a1 a2 b0 b1 b2
    simp [go_sem, BigFrame.eval_const, BigFrame.eval_global, BigFrame.eval_func, ↓IntWalk.iteOmega, ev e7, a0, a1, a2, b0, b1, b2]
    with_reducible rfl
  apply BuildR.call 9 (by rfl) (by rfl) rfl
  case h =>   -- 4: t9 := Op.call {callee := Callee.value (func 95), args := #[tmp 6, tmp 8], ar
    intro lx ax wx hE hR hF
    have e6 : ax.eval (.tmp 6) = _ := hF 1 (det 6 _) (by decide) (.tail _ (.tail _ (.head _)))
    have e8 : ax.eval (.tmp 8) = _ := hF 3 (det 8 _) (by decide) (.head _)
    simp [go_sem, BigFrame.eval_const, BigFrame.eval_global, BigFrame.eval_func, ↓IntWalk.iteOmega, ev e6, ev e8]
    with_reducible exact ⟨rfl, rfl⟩
  case hc => intro lx wx hR hl hA; exact (cmpI_any x1 y1 wx).mono (fun e w' ⟨h1, h2⟩ => ⟨h1, ext_of_same h2, h2 ▸ hR⟩)
  apply BuildR.det 10 (Ext.refl) (fun l w h => h) (by rfl) (by rfl) rfl
  case h =>   -- 5: t10 := Op.fieldAddr 31 (tmp 2) 1
    intro lx ax wx hE hR hF
    have e2 : ax.eval (.tmp 2) = .pointer (some ⟨g1, 0, none⟩) := hE.eval 2 (by rfl) rfl
    simp [go_sem, BigFrame.eval_const, BigFrame.eval_global, BigFrame.eval_func, ↓IntWalk.iteOmega, ev e2]
    with_reducible rfl
  apply BuildR.det 11 (Ext.refl) (fun l w h => h) (by rfl) (by rfl) rfl
  case h =>   -- 6: t11 := Op.load 3 (tmp 10)
    intro lx ax wx hE hR hF
    have e10 : ax.eval (.tmp 10) = _ := hF 5 (det 10 _) (by decide) (.head _)
    have hx := (HO1.out.ext hR).all.2.1; have hy := (HO1.out.ext hR).all.1; have a0 := hx.cell 0; have a1 := hx.cell 1; have a2 := hx.cell 2; have b0 := hy.cell 0; have b1 := hy.cell 1; have b2 := hy.cell 2; simp at a0 a1 a2 b0 b1 b2
    simp [go_sem, BigFrame.eval_const, BigFrame.eval_global, BigFrame.eval_func, ↓IntWalk.iteOmega, ev e10, a0, a1, a2, b0, b1, b2]
    with_reducible rfl
  apply BuildR.det 12 (Ext.refl) (fun l w h => h) (by rfl) (by rfl) rfl
  case h =>   -- 7: t12 := Op.fieldAddr 31 (tmp 3) 1
    intro lx ax wx hE hR hF
    have e3 : ax.eval (.tmp 3) = .pointer (some ⟨g2, 0, none⟩) := hE.eval 3 (by rfl) rfl
    simp [go_sem, BigFrame.eval_const, BigFrame.eval_global, BigFrame.eval_func, ↓IntWalk.iteOmega, ev e3]
    with_reducible rfl
  apply BuildR.det 13 (Ext.refl) (fun l w h => h) (by rfl) (by rfl) rfl
  case h =>   -- 8: t13 := Op.load 3 (tmp 12)
    intro lx ax wx hE hR hF
    have e12 : ax.eval (.tmp 12) = _ := hF 7 (det 12 _) (by decide) (.head _)
    have hx := (HO1.out.ext hR).all.2.1; have hy := (HO1.out.ext hR).all.1; have a0 := hx.cell 0; have a1 := hx.cell 1; have a2 := hx.cell 2; have b0 := hy.cell 0; have b1 := hy.cell 1; have b2 := hy.cell 2; simp at a0 a1 a2 b0 b1 b2
    simp [go_sem, BigFrame.eval_const, BigFrame.eval_global, BigFrame.eval_func, ↓IntWalk.iteOmega, ev e12, a0, a1, a2, b0, b1, b2]
    with_reducible rfl
  apply BuildR.call 14 (by rfl) (by rfl) rfl
  case h =>   -- 9: t14 := Op.call {callee := Callee.value (func 95), args := #[tmp 11, tmp 13], 
    intro lx ax wx hE hR hF
    have e11 : ax.eval (.tmp 11) = _ := hF 6 (det 11 _) (by decide) (.tail _ (.tail _ (.head _)))
    have e13 : ax.eval (.tmp 13) = _ := hF 8 (det 13 _) (by decide) (.head _)
    simp [go_sem, BigFrame.eval_const, BigFrame.eval_global, BigFrame.eval_func, ↓IntWalk.iteOmega, ev e11, ev e13]
    with_reducible exact ⟨rfl, rfl⟩
  case hc => intro lx wx hR hl hA; exact (cmpI_any x2 y2 wx).mono (fun e w' ⟨h1, h2⟩ => ⟨h1, ext_of_same h2, h2 ▸ hR⟩)
  apply BuildR.det 15 (Ext.refl) (fun l w h => h) (by rfl) (by rfl) rfl
  case h =>   -- 10: t15 := Op.fieldAddr 31 (tmp 2) 2
    intro lx ax wx hE hR hF
    have e2 : ax.eval (.tmp 2) = .pointer (some ⟨g1, 0, none⟩) := hE.eval 2 (by rfl) rfl
    simp [go_sem, BigFrame.eval_const, BigFrame.eval_global, BigFrame.eval_func, ↓IntWalk.iteOmega, ev e2]
    with_reducible rfl
  apply BuildR.det 16 (Ext.refl) (fun l w h => h) (by rfl) (by rfl) rfl
  case h =>   -- 11: t16 := Op.load 3 (tmp 15)
    intro lx ax wx hE hR hF
    have e15 : ax.eval (.tmp 15) = _ := hF 10 (det 15 _) (by decide) (.head _)
    have hx := (HO1.out.ext hR).all.2.1; have hy := (HO1.out.ext hR).all.1; have a0 := hx.cell 0; have a1 := hx.cell 1; have a2 := hx.cell 2; have b0 := hy.cell 0; have b1 := hy.cell 1; have b2 := hy.cell 2; simp at a0 a1 a2 b0 b1 b2
    simp [go_sem, BigFrame.eval_const, BigFrame.eval_global, BigFrame.eval_func, ↓IntWalk.iteOmega, ev e15, a0, a1, a2, b0, b1, b2]
    with_reducible rfl
  apply BuildR.det 17 (Ext.refl) (fun l w h => h) (by rfl) (by rfl) rfl
  case h =>   -- 12: t17 := Op.fieldAddr 31 (tmp 3) 2
    intro lx ax wx hE hR hF
    have e3 : ax.eval (.tmp 3) = .pointer (some ⟨g2, 0, none⟩) := hE.eval 3 (by rfl) rfl
    simp [go_sem, BigFrame.eval_const, BigFrame.eval_global, BigFrame.eval_func, ↓IntWalk.iteOmega, ev e3]
    with_reducible rfl
  apply BuildR.det 18 (Ext.refl) (fun l w h => h) (by rfl) (by rfl) rfl
  case h =>   -- 13: t18 := Op.load 3 (tmp 17)
    intro lx ax wx hE hR hF
    have e17 : ax.eval (.tmp 17) = _ := hF 12 (det 17 _) (by decide) (.head _)
    have hx := (HO1.out.ext hR).all.2.1; have hy := (HO1.out.ext hR).all.1; have a0 := hx.cell 0; have a1 := hx.cell 1; have a2 := hx.cell 2; have b0 := hy.cell 0; have b1 := hy.cell 1; have b2 := hy.cell 2; simp at a0 a1 a2 b0 b1 b2
    simp [go_sem, BigFrame.eval_const, BigFrame.eval_global, BigFrame.eval_func, ↓IntWalk.iteOmega, ev e17, a0, a1, a2, b0, b1, b2]
    with_reducible rfl
  apply BuildR.call 19 (by rfl) (by rfl) rfl
  case h =>   -- 14: t19 := Op.call {callee := Callee.value (func 95), args := #[tmp 16, tmp 18], 
    intro lx ax wx hE hR hF
    have e16 : ax.eval (.tmp 16) = _ := hF 11 (det 16 _) (by decide) (.tail _ (.tail _ (.head _)))
    have e18 : ax.eval (.tmp 18) = _ := hF 13 (det 18 _) (by decide) (.head _)
    simp [go_sem, BigFrame.eval_const, BigFrame.eval_global, BigFrame.eval_func, ↓IntWalk.iteOmega, ev e16, ev e18]
    with_reducible exact ⟨rfl, rfl⟩
  case hc => intro lx wx hR hl hA; exact (cmpI_any x3 y3 wx).mono (fun e w' ⟨h1, h2⟩ => ⟨h1, ext_of_same h2, h2 ▸ hR⟩)
  refine BuildR.new 20 (fun v w => ∃ g, v = .slice (some ⟨g, 0, none⟩) 3 3 ∧ Blk w g 3 #[.int .i64 (cmpI x1 y1), .int .i64 (cmpI x2 y2), .int .i64 (cmpI x3 y3)]) (fun v w w' hR ⟨g, h1, h2⟩ => ⟨g, h1, h2.ext hR⟩) (by rfl) (by rfl) rfl ?_ ?_
  · intro lx ax wx hE hR hl hA hF
    have e9 : ax.eval (.tmp 9) = _ := hF 4 (det 9 _) (by decide) (.tail _ (.tail _ (.tail _ (.tail _ (.tail _ (.tail _ (.tail _ (.tail _ (.tail _ (.tail _ (.head _)))))))))))
    have e14 : ax.eval (.tmp 14) = _ := hF 9 (det 14 _) (by decide) (.tail _ (.tail _ (.tail _ (.tail _ (.tail _ (.head _))))))
    have e19 : ax.eval (.tmp 19) = _ := hF 14 (det 19 _) (by decide) (.head _)
    exact ⟨_, _, by simp [go_sem, ev e9, ev e14, ev e19], Ext.alloc _ _, Ext.trans hR (Ext.alloc _ _), _, rfl, Blk.new _ _ _⟩
  apply BuildR.stop
  refine ⟨by kernel_rfl, ?_⟩
  intro lx ax w3 hE R3 hL hF
  have e5 : ax.eval (.tmp 5) = _ := hF 0 (det 5 _) (.tail _ (.tail _ (.tail _ (.tail _ (.tail _ (.tail _ (.tail _ (.tail _ (.tail _ (.tail _ (.tail _ (.tail _ (.tail _ (.tail _ (.tail _ (.head _))))))))))))))))
  have e6 : ax.eval (.tmp 6) = _ := hF 1 (det 6 _) (.tail _ (.tail _ (.tail _ (.tail _ (.tail _ (.tail _ (.tail _ (.tail _ (.tail _ (.tail _ (.tail _ (.tail _ (.tail _ (.tail _ (.head _)))))))))))))))
  have e7 : ax.eval (.tmp 7) = _ := hF 2 (det 7 _) (.tail _ (.tail _ (.tail _ (.tail _ (.tail _ (.tail _ (.tail _ (.tail _ (.tail _ (.tail _ (.tail _ (.tail _ (.tail _ (.head _))))))))))))))
  have e8 : ax.eval (.tmp 8) = _ := hF 3 (det 8 _) (.tail _ (.tail _ (.tail _ (.tail _ (.tail _ (.tail _ (.tail _ (.tail _ (.tail _ (.tail _ (.tail _ (.tail _ (.head _)))))))))))))
  have e9 : ax.eval (.tmp 9) = _ := hF 4 (det 9 _) (.tail _ (.tail _ (.tail _ (.tail _ (.tail _ (.tail _ (.tail _ (.tail _ (.tail _ (.tail _ (.tail _ (.head _))))))))))))
  have e10 : ax.eval (.tmp 10) = _ := hF 5 (det 10 _) (.tail _ (.tail _ (.tail _ (.tail _ (.tail _ (.tail _ (.tail _ (.tail _ (.tail _ (.tail _ (.head _)))))))))))
  have e11 : ax.eval (.tmp 11) = _ := hF 6 (det 11 _) (.tail _ (.tail _ (.tail _ (.tail _ (.tail _ (.tail _ (.tail _ (.tail _ (.tail _ (.head _))))))))))
  have e12 : ax.eval (.tmp 12) = _ := hF 7 (det 12 _) (.tail _ (.tail _ (.tail _ (.tail _ (.tail _ (.tail _ (.tail _ (.tail _ (.head _)))))))))
  have e13 : ax.eval (.tmp 13) = _ := hF 8 (det 13 _) (.tail _ (.tail _ (.tail _ (.tail _ (.tail _ (.tail _ (.tail _ (.head _))))))))
  have e14 : ax.eval (.tmp 14) = _ := hF 9 (det 14 _) (.tail _ (.tail _ (.tail _ (.tail _ (.tail _ (.tail _ (.head _)))))))
  have e15 : ax.eval (.tmp 15) = _ := hF 10 (det 15 _) (.tail _ (.tail _ (.tail _ (.tail _ (.tail _ (.head _))))))
  have e16 : ax.eval (.tmp 16) = _ := hF 11 (det 16 _) (.tail _ (.tail _ (.tail _ (.tail _ (.head _)))))
  have e17 : ax.eval (.tmp 17) = _ := hF 12 (det 17 _) (.tail _ (.tail _ (.tail _ (.head _))))
  have e18 : ax.eval (.tmp 18) = _ := hF 13 (det 18 _) (.tail _ (.tail _ (.head _)))
  have e19 : ax.eval (.tmp 19) = _ := hF 14 (det 19 _) (.tail _ (.head _))
  have f20 := hF 15 _ (.head _)
  obtain ⟨g3, e20, hg3⟩ := f20
  rw [AllEq.frame (D := [5, 6, 7, 8, 9, 10, 11, 12, 13, 14, 15, 16, 17, 18, 19, 20]) (AllEq.cons e5 (AllEq.cons e6 (AllEq.cons e7 (AllEq.cons e8 (AllEq.cons e9 (AllEq.cons e10 (AllEq.cons e11 (AllEq.cons e12 (AllEq.cons e13 (AllEq.cons e14 (AllEq.cons e15 (AllEq.cons e16 (AllEq.cons e17 (AllEq.cons e18 (AllEq.cons e19 (AllEq.cons e20 (AllEq.nil))))))))))))))))) hE rfl]
  clear hF hE e5 e6 e7 e8 e9 e10 e11 e12 e13 e14 e15 e16 e17 e18 e19 e20
  simp only [List.foldl_cons, List.foldl_nil, Act.put, List.setIfInBounds_toArray, List.set_cons_succ, List.set_cons_zero]
  simp only [List.length_cons, List.length_nil, Nat.zero_add, Nat.reduceAdd, List.drop_succ_cons, List.drop_zero, List.drop_nil, tailOps]
  clear hL
  go_wp2_with fail
  refine (HO.out g3 _ hg3).mono ?_
  rintro e w4 ⟨rfl, rfl⟩
  have HE := Lib.hid (HO1.out.ext R3).below
  go_wp2_with fail
  go_ret
  exact ⟨ret_int HF.out, HE.out⟩
theorem cmpI_zero {x y : Int} : cmpI x y = 0 ↔ x = y := by
  unfold cmpI
  split
  · omega
  · split <;> omega
theorem cmpI_neg {x y : Int} : cmpI x y < 0 ↔ x < y := by
  unfold cmpI
  split
  · omega
  · split <;> omega
/-- Less, by volume, birth, place. -/
def ltO (x y : OwD) : Prop := x.1 < y.1 ∨ x.1 = y.1 ∧ (x.2.1 < y.2.1 ∨ x.2.1 = y.2.1 ∧ x.2.2 < y.2.2)
theorem ltO_irrefl (x : OwD) : ¬ ltO x x := by unfold ltO; omega
theorem ltO_trans {x y z : OwD} (h : ltO x y) (k : ltO y z) : ltO x z := by unfold ltO at *; omega
theorem ltO_total {x y : OwD} (h : ¬ ltO x y) : x = y ∨ ltO y x := by
  obtain ⟨a, b, c⟩ := x
  obtain ⟨d, e, f⟩ := y
  unfold ltO at *
  simp only [Prod.mk.injEq] at *
  omega
theorem cmpO_neg {x y : OwD} : cmpO x y < 0 ↔ ltO x y := by
  unfold cmpO firstNZ firstNZ firstNZ firstNZ ltO
  by_cases h1 : cmpI x.1 y.1 = 0
  · have e1 := cmpI_zero.1 h1
    rw [if_pos h1]
    by_cases h2 : cmpI x.2.1 y.2.1 = 0
    · have e2 := cmpI_zero.1 h2
      rw [if_pos h2]
      by_cases h3 : cmpI x.2.2 y.2.2 = 0
      · have e3 := cmpI_zero.1 h3
        rw [if_pos h3]
        omega
      · rw [if_neg h3, cmpI_neg]
        omega
    · have := mt cmpI_zero.2 h2
      rw [if_neg h2, cmpI_neg]
      omega
  · have := mt cmpI_zero.2 h1
    rw [if_neg h1, cmpI_neg]
    omega
theorem cmpO_zero {x y : OwD} : cmpO x y = 0 ↔ x = y := by
  unfold cmpO firstNZ firstNZ firstNZ firstNZ
  obtain ⟨a, b, c⟩ := x
  obtain ⟨d, e, f⟩ := y
  simp only [Prod.mk.injEq]
  by_cases h1 : cmpI a d = 0
  · rw [if_pos h1]
    have e1 := cmpI_zero.1 h1
    by_cases h2 : cmpI b e = 0
    · rw [if_pos h2]
      have e2 := cmpI_zero.1 h2
      by_cases h3 : cmpI c f = 0
      · rw [if_pos h3]
        have e3 := cmpI_zero.1 h3
        simp [e1, e2, e3]
      · rw [if_neg h3]
        have := mt cmpI_zero.2 h3
        exact ⟨fun h => absurd h h3, fun h => absurd h.2.2 this⟩
    · rw [if_neg h2]
      have := mt cmpI_zero.2 h2
      exact ⟨fun h => absurd h h2, fun h => absurd h.2.1 this⟩
  · rw [if_neg h1]
    have := mt cmpI_zero.2 h1
    exact ⟨fun h => absurd h h1, fun h => absurd h.1 this⟩
end Go.Proofs.Ytdpohbaeopidmaa
