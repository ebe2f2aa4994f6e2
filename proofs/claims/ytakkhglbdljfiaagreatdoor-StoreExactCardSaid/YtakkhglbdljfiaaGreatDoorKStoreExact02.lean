/- Maps: a store at a key that is there, in the round of a range over that very map; what is left behind maps.DeleteFunc. No program in sight. -/
import Derived.Test.YtakkhglbdljfiaaGreatDoorKStoreExact00
import Derived.Maps.RangeWalk
import Derived.Maps.Ext
import Derived.Lib.SlMapFilter
import Derived.ProofKit
import Derived.OpenShut
import Derived.ChangeOld
import Derived.Deep.Fields
import Derived.Lib.FrozenHead2
import Derived.Test.YtakkhglbdljfiaaGreatDoorKStoreExact01
namespace Go.Proofs.YtakkhglbdljfiaaGreatDoor
set_option linter.unusedVariables false
set_option linter.unusedSimpArgs false
open Go.RowKit Go.Maps Go.ChangeMaps Go.MapKept Go.WideShapes
open Go.WideElems (Fit rd rg pl rd_key rd_val rg_of rd_mk other_key)

section
variable {H : Type} {P : Program} {k : TypeId} {R : Value → Option (DataW H × List MemPlace)} {w : World} {b r n : Nat} {D : DataW H} {left : Lit → Bool} {cnt : Nat}

theorem has_mem {es : List (Lit × DataW H)} {kl : Lit} (h : Maps.has (.map es) kl = true) : ∃ d, (kl, d) ∈ es := by
  obtain ⟨p, hp, hs⟩ := List.any_eq_true.1 h
  have := WideAt.sameKey_eq hs
  exact ⟨p.2, by rw [← this]; exact hp⟩
end
open Go.RowKit Go.ChangeShapes Go.WideShapes Go.ChangeAt

/-- These cells read as a value of type t. -/
def Fit (P : Program) (w : World) (t : TypeId) (cs : List Value) : Prop :=
  ∃ (H : Type) (enc : TypeId × Value → H) (fuel : Nat) (x : DataW H × List MemPlace), DataW.trod enc P w 0 (fun _ => true) true fuel t cs = some x

/-- An argument of type t. -/
def Arg (P : Program) (w : World) (t : TypeId) (v : Value) : Prop := Fit P w t v.cells.toList ∧ ∃ r base, Value.okWide P w r base t v

section
variable {P : Program} {w : World} {t : TypeId} {cs : List Value} {v : Value}
theorem fit_int {k : IntKind} (ht : P.underlying t = some (.int k)) (h : Fit P w t cs) : ∃ n, cs = [.int k n] ∧ (Lit.int k n).wf = true := by
  obtain ⟨H, enc, fuel, x, h⟩ := h
  obtain ⟨n, h1, _, h2⟩ := DataW.trod_int ht h
  exact ⟨n, h1, h2⟩
theorem fit_struct {fs : Array Field} (ht : P.underlying t = some (.struct fs)) (h : Fit P w t cs) :
    cs.length = P.cellsOf t ∧ ∀ (i : Nat) (f : Field), fs[i]? = some f → Fit P w f.type ((cs.drop f.offset).take (P.cellsOf f.type)) := by
  obtain ⟨H, enc, fuel, x, h⟩ := h
  obtain ⟨xs, n, _, _, hl, hx, hg⟩ := DataW.trod_struct ht h
  refine ⟨hl, fun i f hf => ?_⟩
  have hi : i < xs.length := by rw [hx]; exact (Array.getElem?_eq_some_iff.1 hf).1
  exact ⟨H, enc, n, xs[i], (hg i f hf).trans (List.getElem?_eq_getElem hi)⟩
/-- A slice: its elements lie from an address on, c cells each. -/
theorem fit_slice {e : TypeId} {c : Nat} (ht : P.underlying t = some (.slice e)) (hc : P.cellsOf e = c) (h : Fit P w t cs) :
    ∃ A len cap, cs = [.slice A len cap] ∧ len ≤ cap ∧ cap ≤ maxLen ∧ (A = none → len = 0) ∧
      (∀ ad, A = some ad → ∀ i, i < len → ∃ cs', cs'.length = c ∧ (∀ j, j < c → w.cell? ((ad.add (i * c)).add j) = cs'[j]?) ∧ Fit P w e cs') := by
  obtain ⟨H, enc, fuel, x, h⟩ := h
  rcases DataW.trod_slice ht h with ⟨rfl, _⟩ | ⟨a, len, cap, elems, rest, n, _, rfl, _, _, hl, hm, hlen, hel, _, _⟩
  · exact ⟨none, 0, 0, rfl, Nat.le_refl _, by decide, fun _ => rfl, fun ad e => by cases e⟩
  · refine ⟨some a, len, cap, rfl, hl, hm, (fun e => by cases e), fun ad e i hi => ?_⟩
    injection e with e
    subst e
    have := hel i hi
    rw [List.getElem?_eq_getElem (by omega)] at this
    obtain ⟨cs', h1, h2⟩ := Option.bind_eq_some_iff.1 this
    obtain ⟨_, h3, h4⟩ := World.cells?_some h1
    subst hc
    exact ⟨cs', h3, h4, H, enc, n, _, h2⟩

theorem arg_int {k : IntKind} (ht : P.underlying t = some (.int k)) (h : Arg P w t v) : ∃ n, v = .int k n ∧ (Lit.int k n).wf = true := by
  obtain ⟨hf, r, base, hv⟩ := h
  obtain ⟨n, rfl⟩ := okWide_int ht hv
  obtain ⟨m, h1, h2⟩ := fit_int ht hf
  simp [Value.cells] at h1
  subst h1
  exact ⟨n, rfl, h2⟩
theorem arg_slice {e : TypeId} (ht : P.underlying t = some (.slice e)) (h : Arg P w t v) : Fit P w t [v] := by
  obtain ⟨hf, r, base, hv⟩ := h
  obtain ⟨a, len, cap, rfl⟩ := okWide_slice ht hv
  exact hf
end

/-! ### Slices as lists of data: 'Row': element i lies at 'off + i * c', its cells are 'enc x'; 'Row1': elements of one cell. -/
theorem cell_lt {w : World} {a : Addr} {v : Value} (h : w.cell? a = some v) : a.block < w.heap.size := by
  rcases Nat.lt_or_ge a.block w.heap.size with hlt | hge
  · exact hlt
  · have e : w.heap[a.block]? = none := by simp [hge]
    simp [World.cell?, e] at h

def Row {E : Type} (w : World) (A : Option Addr) (c : Nat) (enc : E → List Value) (xs : List E) : Prop :=
  ∀ i x, xs[i]? = some x → ∃ b off, A = some ⟨b, off, none⟩ ∧ b < w.heap.size ∧ ∀ j u, (enc x)[j]? = some u → w.cell? ⟨b, off + i * c + j, none⟩ = some u
def Row1 {E : Type} (w : World) (A : Option Addr) (enc : E → Value) (xs : List E) : Prop :=
  ∀ i x, xs[i]? = some x → ∃ b off, A = some ⟨b, off, none⟩ ∧ b < w.heap.size ∧ w.cell? ⟨b, off + i, none⟩ = some (enc x)

theorem Row.below {E : Type} {w w' : World} {A : Option Addr} {c : Nat} {enc : E → List Value} {xs : List E} (h : Row w A c enc xs) (hb : Below w.heap.size w w') : Row w' A c enc xs := by
  intro i x hx
  obtain ⟨b, off, hA, hlt, hc⟩ := h i x hx
  exact ⟨b, off, hA, Nat.lt_of_lt_of_le hlt hb.size, fun j u hu => (hb.cell (p := ⟨b, _, none⟩) hlt).trans (hc j u hu)⟩
theorem Row1.below {E : Type} {w w' : World} {A : Option Addr} {enc : E → Value} {xs : List E} (h : Row1 w A enc xs) (hb : Below w.heap.size w w') : Row1 w' A enc xs := by
  intro i x hx
  obtain ⟨b, off, hA, hlt, hc⟩ := h i x hx
  exact ⟨b, off, hA, Nat.lt_of_lt_of_le hlt hb.size, (hb.cell (p := ⟨b, _, none⟩) hlt).trans hc⟩
theorem Row1.at_ {E : Type} {w : World} {A : Option Addr} {enc : E → Value} {xs : List E} (h : Row1 w A enc xs) {i : Nat} (hi : i < xs.length) : ∃ b off, A = some ⟨b, off, none⟩ ∧ b < w.heap.size ∧ w.cell? ⟨b, off + i, none⟩ = some (enc xs[i]) :=
  h i _ (List.getElem?_eq_getElem hi)
theorem Row.at_ {E : Type} {w : World} {A : Option Addr} {c : Nat} {enc : E → List Value} {xs : List E} (h : Row w A c enc xs) {i : Nat} (hi : i < xs.length) : ∃ b off, A = some ⟨b, off, none⟩ ∧ b < w.heap.size ∧ ∀ j u, (enc xs[i])[j]? = some u → w.cell? ⟨b, off + i * c + j, none⟩ = some u :=
  h i _ (List.getElem?_eq_getElem hi)

/-- An element in a later world. -/
theorem Row1.in_ {E : Type} {w w' : World} {A : Option Addr} {enc : E → Value} {xs : List E} (h : Row1 w A enc xs) (hb : Below w.heap.size w w') {i : Nat} (hi : i < xs.length) : ∃ b off, A = some ⟨b, off, none⟩ ∧ b < w.heap.size ∧ w'.cell? ⟨b, off + i, none⟩ = some (enc xs[i]) := by
  obtain ⟨b, off, hA, hlt, hc⟩ := h.at_ hi
  exact ⟨b, off, hA, hlt, (hb.cell (p := ⟨b, _, none⟩) hlt).trans hc⟩
theorem Row.in_ {E : Type} {w w' : World} {A : Option Addr} {c : Nat} {enc : E → List Value} {xs : List E} (h : Row w A c enc xs) (hb : Below w.heap.size w w') {i : Nat} (hi : i < xs.length) : ∃ b off, A = some ⟨b, off, none⟩ ∧ b < w.heap.size ∧ ∀ j u, (enc xs[i])[j]? = some u → w'.cell? ⟨b, off + i * c + j, none⟩ = some u := by
  obtain ⟨b, off, hA, hlt, hc⟩ := h.at_ hi
  exact ⟨b, off, hA, hlt, fun j u hu => (hb.cell (p := ⟨b, _, none⟩) hlt).trans (hc j u hu)⟩

theorem list_of {E : Type} (n : Nat) (p : Nat → E → Prop) (h : ∀ i, i < n → ∃ x, p i x) : ∃ xs : List E, xs.length = n ∧ ∀ i x, xs[i]? = some x → p i x := by
  induction n with
  | zero => exact ⟨[], rfl, fun i x hx => by simp at hx⟩
  | succ n ih =>
    obtain ⟨xs, hl, hp⟩ := ih (fun i hi => h i (by omega))
    obtain ⟨x, hx⟩ := h n (by omega)
    refine ⟨xs ++ [x], by simp [hl], fun i y hy => ?_⟩
    by_cases hi : i < n
    · rw [List.getElem?_append_left (by omega)] at hy
      exact hp i y hy
    · have : i = n := by
        have := (List.getElem?_eq_some_iff.1 hy).1
        simp at this
        omega
      subst this
      rw [List.getElem?_append_right (by omega)] at hy
      simp [hl] at hy
      subst hy
      exact hx

section
variable {P : Program} {w : World} {t e : TypeId} {v : Value} {E : Type}
theorem fit_row {c : Nat} (enc : E → List Value) (good : E → Prop) (ht : P.underlying t = some (.slice e)) (hc : P.cellsOf e = c) (hpos : 0 < c)
    (hE : ∀ cs', cs'.length = c → Fit P w e cs' → ∃ x, cs' = enc x ∧ good x) (h : Fit P w t [v]) :
    ∃ A len cap, ∃ xs : List E, v = .slice A len cap ∧ len ≤ cap ∧ cap ≤ maxLen ∧ xs.length = len ∧ (∀ x ∈ xs, good x) ∧ Row w A c enc xs := by
  obtain ⟨A, len, cap, hv, hl, hm, hn, hr⟩ := fit_slice ht hc h
  injection hv with hv _
  subst hv
  rcases A with _ | ad
  · obtain rfl := hn rfl
    exact ⟨none, 0, cap, [], rfl, hl, hm, rfl, (fun x hx => by simp at hx), fun i x hx => by simp at hx⟩
  · obtain ⟨xs, hlen, hp⟩ := list_of len (fun i x => (∀ j, j < c → w.cell? ((ad.add (i * c)).add j) = (enc x)[j]?) ∧ (enc x).length = c ∧ good x) (fun i hi => by
      obtain ⟨cs', h1, h2, h3⟩ := hr ad rfl i hi
      obtain ⟨x, rfl, hg⟩ := hE cs' h1 h3
      exact ⟨x, h2, h1, hg⟩)
    refine ⟨some ad, len, cap, xs, rfl, hl, hm, hlen, (fun x hx => ?_), fun i x hx => ?_⟩
    · obtain ⟨i, hi, rfl⟩ := List.getElem_of_mem hx
      exact (hp i _ (List.getElem?_eq_getElem hi)).2.2
    · have hi : i < len := by have := (List.getElem?_eq_some_iff.1 hx).1; omega
      obtain ⟨h0, _, _⟩ := hp 0 _ (List.getElem?_eq_getElem (by omega))
      obtain ⟨h2, h1, _⟩ := hp i x hx
      have q0 := h0 0 hpos
      obtain ⟨_, h1', _⟩ := hp 0 _ (List.getElem?_eq_getElem (by omega))
      rw [List.getElem?_eq_getElem (by omega)] at q0
      have hs := World.cell?_spot q0
      simp [Addr.add] at hs
      obtain ⟨b, off, spot⟩ := ad
      simp at hs
      subst hs
      refine ⟨b, off, rfl, ?_, fun j u hu => ?_⟩
      · have := cell_lt q0
        simpa [Addr.add] using this
      · have hj : j < c := by have := (List.getElem?_eq_some_iff.1 hu).1; omega
        have := h2 j hj
        rw [hu] at this
        rw [← this]
        congr 1
        unfold Addr.add
        by_cases k1 : i * c = 0 <;> by_cases k2 : j = 0 <;> simp [k1, k2, Nat.add_assoc]

theorem fit_row1 (enc : E → Value) (good : E → Prop) (ht : P.underlying t = some (.slice e)) (hc : P.cellsOf e = 1)
    (hE : ∀ cs', Fit P w e cs' → ∃ x, cs' = [enc x] ∧ good x) (h : Fit P w t [v]) :
    ∃ A len cap, ∃ xs : List E, v = .slice A len cap ∧ len ≤ cap ∧ cap ≤ maxLen ∧ xs.length = len ∧ (∀ x ∈ xs, good x) ∧ Row1 w A enc xs := by
  obtain ⟨A, len, cap, xs, h1, h2, h3, h4, h5, h6⟩ := fit_row (fun x => [enc x]) good ht hc (by omega) (fun cs' _ hf => hE cs' hf) h
  refine ⟨A, len, cap, xs, h1, h2, h3, h4, h5, fun i x hx => ?_⟩
  obtain ⟨b, off, hA, hb, hj⟩ := h6 i x hx
  exact ⟨b, off, hA, hb, by simpa using hj 0 _ rfl⟩

end
open Go.RowKit Go.ChangeShapes Go.WideShapes Go.ChangeAt Go.Deep

theorem take1_drop {α : Type} {l : List α} {i : Nat} {v : α} (h : (l.drop i).take 1 = [v]) : l[i]? = some v := by
  have : ((l.drop i).take 1)[0]? = some v := by rw [h]; rfl
  rw [List.getElem?_take_of_lt (by omega), List.getElem?_drop] at this
  simpa using this

section
variable {P : Program} {w : World} {t : TypeId} {cs : List Value}
/-- Each field's cells are those from its offset on. -/
theorem fit_fields {fs : Array Field} (n : Nat) (ht : P.underlying t = some (.struct fs)) (hC : P.cellsOf t = n) (h : Fit P w t cs) :
    cs.length = n ∧ ∀ (i o e c : Nat), (fs[i]?).map (fun f => (f.offset, f.type)) = some (o, e) → P.cellsOf e = c → Fit P w e ((cs.drop o).take c) := by
  obtain ⟨hl, hx⟩ := fit_struct ht h
  refine ⟨by rw [hl, hC], fun i o e c hf hc => ?_⟩
  cases hfi : fs[i]? with
  | none => rw [hfi] at hf; cases hf
  | some f =>
    rw [hfi] at hf
    simp only [Option.map_some, Option.some.injEq, Prod.mk.injEq] at hf
    obtain ⟨rfl, rfl⟩ := hf
    have := hx i f hfi
    rwa [hc] at this
theorem Z70 {k : IntKind} (ht : P.underlying t = some (.int k)) {i : Nat} (h : Fit P w t ((cs.drop i).take 1)) : ∃ n, cs[i]? = some (.int k n) ∧ (Lit.int k n).wf = true := by
  obtain ⟨n, h1, h2⟩ := fit_int ht h
  exact ⟨n, take1_drop h1, h2⟩
end
open Go Go.RowKit Go.Lib

theorem Z66 {w : World} {base base' : Nat} {e : TypeId} {size : Nat} {v : Value} {n : Nat} {xs : List Value} (h : w.ownsRowF base e size v n xs) (hb : base' ≤ base) : w.ownsRowF base' e size v n xs := by
  refine ⟨h.1, ?_⟩
  rcases h.2 with hn | ⟨g, cap, cur, fz, hv, hg, rest⟩
  · exact .inl hn
  · exact .inr ⟨g, cap, cur, fz, hv, Nat.le_trans hb hg, rest⟩
theorem Z58 {w w' : World} {e : TypeId} {size : Nat} {v : Value} {n : Nat} {xs : List Value} (h : w'.ownsRowF w.heap.size e size v n xs) : v.ownBlock = (Value.slice none 0 0).ownBlock ∨ ∃ k, v.ownBlock = some k ∧ w.heap.size ≤ k := by
  rcases h.2 with ⟨rfl, _⟩ | ⟨g, cap, cur, fz, rfl, hg, _⟩
  · exact .inl rfl
  · exact .inr ⟨g, rfl, hg⟩

section
variable {P : Program} (w : World)

theorem Z46 (base : Nat) (t u ty e : TypeId) (i : TypeInfo) (ht : P.underlying t = some (.slice e)) (hu : P.underlying u = some .string) (hi : P.info? e = some i) (hz : i.zero = some (.int .u8 0))
    (hsize : i.size = 1) (hby : i.bytes = 1)
    (v : Value) (n : Nat) (xs : List Value) (hown : w.ownsRowF base e 1 v n xs) (s : ByteArray)
    (h63 : n + s.size ≤ maxLen) (hbytes : n + s.size ≤ 140737488355328) (hbase : base ≤ w.heap.size) :
    ∃ v' w', (Builtin.append_ #[t, u] ty #[v, .string s]).run P w = .ok v' w' ∧ w'.ownsRowF base e 1 v' (n + s.size) (xs ++ strCells s) ∧ w.grownBy w' v.ownBlock ∧
      (v'.ownBlock = v.ownBlock ∨ ∃ k, v'.ownBlock = some k ∧ w.heap.size ≤ k) := by
  rcases hown.2 with ⟨rfl, rfl⟩ | ⟨g, cap, cur, fz, rfl, hbg, hg, hfz, hnc, hcm, hcs, htake⟩
  · -- no row yet: the elder law
    obtain ⟨v', w', h1, h2, h3, h4⟩ := run_append_own_string (P := P) w w.heap.size t u ty e i ht hu hi hz hsize hby (.slice none 0 0) 0 xs ⟨hown.1, .inl ⟨rfl, rfl⟩⟩ s h63 hbytes (Nat.le_refl _)
    exact ⟨v', w', h1, Z66 (World.ownsRowF_of h2) hbase, h3, Z58 (World.ownsRowF_of h2)⟩
  · have hsmall : n + s.size ≤ 9223372036854775807 := by simp only [maxLen] at h63; omega
    have hxl : xs.length = n := by simpa using hown.1
    have hlen : (xs ++ strCells s).length = (n + s.size) * 1 := by rw [List.length_append, hxl, strCells_length, Nat.mul_one]
    by_cases hroom : n + s.size ≤ cap
    · have hcs' : cur.size = cap := by simpa using hcs
      have hr := run_append_room_stringF (P := P) w t u ty e i ht hu hi hsize g n cap cur fz hg (by simpa using hfz) s hroom (by omega)
      refine ⟨_, _, hr, ⟨hlen, .inr ⟨g, cap, _, fz, rfl, hbg, setRow_heap w g cur _ e _ hg, by omega, hroom, hcm, ?_, ?_⟩⟩, ⟨rfl, rfl, rfl, by simp, fun k _ hk => setRow_other w g k _ (fun e => hk (by simp [Value.ownBlock, e]))⟩, .inl rfl⟩
      · simp only [List.size_toArray, List.length_append, List.length_take, List.length_drop, Array.length_toList, strCells_length]
        omega
      · have ht' : cur.toList.take n = xs := by simpa using htake
        rw [ht', ← hlen]
        exact List.take_left
    · have holds : ∀ j u, xs[j]? = some u → w.cell? ((⟨g, 0, none⟩ : Addr).add j) = some u := hown.cells (g := g) rfl
      have hr := run_append_grow_string (P := P) w t u ty e i (.int .u8 0) ht hu hi hz ⟨g, 0, none⟩ n cap xs (by rw [hsize]; simpa using hxl) holds s (by omega) (by omega) (by rw [hby]; exact growslice_fits (by omega) (by omega))
      have hge := grownCap_ge w (n + s.size) cap e
      have hcm2 : grownCap w (n + s.size) cap e ≤ maxLen := grownCap_le_maxLen w (n + s.size) cap e h63
      refine ⟨_, _, hr, ⟨hlen, .inr ⟨w.heap.size, _, _, (0, 0), rfl, hbase, _root_.Go.heap_alloc_new w.drew _, Nat.zero_le _, hge, hcm2, ?_, ?_⟩⟩, ⟨rfl, rfl, rfl, by simp, fun k hk _ => _root_.Go.heap_alloc_old w.drew _ hk⟩, .inr ⟨_, rfl, Nat.le_refl _⟩⟩
      · have hz1 : (Value.int IntKind.u8 0).cells.size = 1 := rfl
        simp only [Array.size_append, List.size_toArray, size_zeroCells, hz1, hxl, strCells_length]
        omega
      · simp only [Array.toList_append, List.append_assoc]
        rw [← List.append_assoc, ← hlen]
        exact List.take_left

theorem Z35 {ops : Array Oper} {rest : List Oper} {o : Oper} {a : Act} {Q : Exit → Act → World → Prop} (hgd : o.guard = none) (sl x : Operand) (t u : TypeId)
    (ho : o.op = .call { callee := .builtin .append, args := #[sl, x], argTypes := #[t, u] })
    (base : Nat) (e : TypeId) (i : TypeInfo) (ht : P.underlying t = some (.slice e)) (hu : P.underlying u = some .string) (hi : P.info? e = some i) (hz : i.zero = some (.int .u8 0))
    (hsize : i.size = 1) (hby : i.bytes = 1)
    (v : Value) (n : Nat) (xs : List Value) (hs : a.eval sl = v) (hown : w.ownsRowF base e 1 v n xs) (s : ByteArray) (hx : a.eval x = .string s)
    (h63 : n + s.size ≤ maxLen) (hbytes : n + s.size ≤ 140737488355328) (hbase : base ≤ w.heap.size)
    (h : ∀ v' w', w'.ownsRowF base e 1 v' (n + s.size) (xs ++ strCells s) → w.grownBy w' v.ownBlock → (v'.ownBlock = v.ownBlock ∨ ∃ k, v'.ownBlock = some k ∧ w.heap.size ≤ k) → wpList P ops Q rest (a.put o.dst v') w') : wpList P ops Q (o :: rest) a w := by
  refine wpList_plain hgd fun K hK => ?_
  obtain ⟨v', w', hr, h2, h3, h4⟩ := Z46 (P := P) w base t u o.type e i ht hu hi hz hsize hby v n xs hown s h63 hbytes hbase
  unfold Oper.wp execOp
  simp only [ho, resolve, invoke, builtin, Sem.run_bind, Sem.run_pure, Result.andThen_ok, List.map_toArray, List.map_cons, List.map_nil, hs, hx, hr]
  exact hK _ _ (h v' w' h2 h3 h4)


theorem Z2i (base : Nat) (t ty e : TypeId) (i : TypeInfo) (z : Value) (size bytes : Nat) (ht : P.underlying t = some (.slice e)) (hi : P.info? e = some i) (hz : i.zero = some z)
    (hsize : i.size = size) (hby : i.bytes = bytes) (hzs : z.cells.size = size) (hsz : 0 < size)
    (v : Value) (n : Nat) (xs : List Value) (hown : w.ownsRowF base e size v n xs)
    (a : Addr) (m c : Nat) (news : List Value) (hl : news.length = m * size) (hnews : ∀ j u, news[j]? = some u → w.cell? (a.add j) = some u) (h1 : ∀ u ∈ news, u.oneCell' = true)
    (h63 : n + m ≤ maxLen) (hbytes : (n + m) * bytes ≤ 140737488355328) (hbase : base ≤ w.heap.size) :
    ∃ v' w', (Builtin.append_ #[t, t] ty #[v, .slice (some a) m c]).run P w = .ok v' w' ∧ w'.ownsRowF base e size v' (n + m) (xs ++ news) ∧ w.grownBy w' v.ownBlock ∧
      (v'.ownBlock = v.ownBlock ∨ ∃ k, v'.ownBlock = some k ∧ w.heap.size ≤ k) := by
  rcases hown.2 with ⟨rfl, rfl⟩ | ⟨g, cap, cur, fz, rfl, hbg, hg, hfz, hnc, hcm, hcs, htake⟩
  · obtain ⟨v', w', r1, r2, r3, r4⟩ := run_append_own (P := P) w w.heap.size t ty e i z size bytes ht hi hz hsize hby hzs hsz (.slice none 0 0) 0 xs ⟨hown.1, .inl ⟨rfl, rfl⟩⟩ a m c news hl hnews h1 h63 hbytes (Nat.le_refl _)
    exact ⟨v', w', r1, Z66 (World.ownsRowF_of r2) hbase, r3, Z58 (World.ownsRowF_of r2)⟩
  · subst hsize
    subst hby
    have hsmall : n + m ≤ 9223372036854775807 := by simp only [maxLen] at h63; omega
    have hlen : (xs ++ news).length = (n + m) * i.size := by rw [List.length_append, hown.1, hl, Nat.add_mul]
    by_cases hroom : n + m ≤ cap
    · have hfit : n * i.size + news.length ≤ cur.size := by rw [hl, hcs, ← Nat.add_mul]; exact Nat.mul_le_mul_right _ hroom
      have hr := run_append_roomF (P := P) w t ty e i ht hi g n cap cur fz hg hfz a m c news hl hnews h1 hroom hfit
      refine ⟨_, _, hr, ⟨hlen, .inr ⟨g, cap, _, fz, rfl, hbg, setRow_heap w g cur _ e _ hg, Nat.le_trans hfz (Nat.mul_le_mul_right _ (Nat.le_add_right n m)), hroom, hcm, ?_, ?_⟩⟩, ⟨rfl, rfl, rfl, by simp, fun k _ hk => setRow_other w g k _ (fun e => hk (by simp [Value.ownBlock, e]))⟩, .inl rfl⟩
      · simp only [List.size_toArray, List.length_append, List.length_take, List.length_drop, Array.length_toList]
        omega
      · rw [htake, ← hlen]
        exact List.take_left
    · have holds : ∀ j u, xs[j]? = some u → w.cell? ((⟨g, 0, none⟩ : Addr).add j) = some u := hown.cells (g := g) rfl
      have hr := run_append_grow (P := P) w t ty e i z ht hi hz ⟨g, 0, none⟩ n cap xs hown.1 holds a m c news hl hnews (by omega) (by omega) (growslice_fits (by omega) hbytes)
      have hge := grownCap_ge w (n + m) cap e
      have hcm2 : grownCap w (n + m) cap e ≤ maxLen := grownCap_le_maxLen w (n + m) cap e h63
      refine ⟨_, _, hr, ⟨hlen, .inr ⟨w.heap.size, _, _, (0, 0), rfl, hbase, _root_.Go.heap_alloc_new w.drew _, Nat.zero_le _, hge, hcm2, ?_, ?_⟩⟩, ⟨rfl, rfl, rfl, by simp, fun k hk _ => _root_.Go.heap_alloc_old w.drew _ hk⟩, .inr ⟨_, rfl, Nat.le_refl _⟩⟩
      · simp only [Array.size_append, List.size_toArray, size_zeroCells, hzs, hown.1, hl, ← Nat.add_mul]
        congr 1
        omega
      · simp only [Array.toList_append, List.append_assoc]
        rw [← List.append_assoc, ← hlen]
        exact List.take_left

theorem Z75 {ops : Array Oper} {rest : List Oper} {o : Oper} {a : Act} {Q : Exit → Act → World → Prop} (hgd : o.guard = none) (s x : Operand) (t : TypeId)
    (ho : o.op = .call { callee := .builtin .append, args := #[s, x], argTypes := #[t, t] })
    (base : Nat) (e : TypeId) (i : TypeInfo) (z : Value) (size bytes : Nat) (ht : P.underlying t = some (.slice e)) (hi : P.info? e = some i) (hz : i.zero = some z)
    (hsize : i.size = size) (hby : i.bytes = bytes) (hzs : z.cells.size = size) (hsz : 0 < size)
    (v : Value) (n : Nat) (xs : List Value) (hs : a.eval s = v) (hown : w.ownsRowF base e size v n xs)
    (ad : Addr) (m c : Nat) (news : List Value) (hx : a.eval x = .slice (some ad) m c) (hl : news.length = m * size) (hnews : ∀ j u, news[j]? = some u → w.cell? (ad.add j) = some u) (h1 : ∀ u ∈ news, u.oneCell' = true)
    (h63 : n + m ≤ maxLen) (hbytes : (n + m) * bytes ≤ 140737488355328) (hbase : base ≤ w.heap.size)
    (h : ∀ v' w', w'.ownsRowF base e size v' (n + m) (xs ++ news) → w.grownBy w' v.ownBlock → (v'.ownBlock = v.ownBlock ∨ ∃ k, v'.ownBlock = some k ∧ w.heap.size ≤ k) → wpList P ops Q rest (a.put o.dst v') w') : wpList P ops Q (o :: rest) a w := by
  refine wpList_plain hgd fun K hK => ?_
  obtain ⟨v', w', hr, h2, h3, h4⟩ := Z2i (P := P) w base t o.type e i z size bytes ht hi hz hsize hby hzs hsz v n xs hown ad m c news hl hnews h1 h63 hbytes hbase
  unfold Oper.wp execOp
  simp only [ho, resolve, invoke, builtin, Sem.run_bind, Sem.run_pure, Result.andThen_ok, List.map_toArray, List.map_cons, List.map_nil, hs, hx, hr]
  exact hK _ _ (h v' w' h2 h3 h4)
end
open Go.RowKit

/-- Blocks of one's own, and a row of one's own apart from them: n elements of c cells. -/
structure ORow (H : Nat) (A : World) (L : List BlkD) (e : TypeId) (c : Nat) (v : Value) (n : Nat) (cs : List Value) (w : World) : Prop where
  own : Own H A L w
  row : w.ownsRowF H e c v n cs
  apart : ∀ x ∈ L, v.ownBlock ≠ some x.1
/-- Blocks of other types than T stay as they are. -/
def KeepT (T : TypeId) (w w' : World) : Prop := ∀ k t cs, t ≠ T → Blk w k t cs → Blk w' k t cs
section
variable {H : Nat} {A w w' : World} {L L1 L2 : List BlkD} {e t T : TypeId} {c n m b : Nat} {v v' : Value} {xs ys : List Value} {cs cs' : Array Value}
theorem KeepT.refl (T : TypeId) (w : World) : KeepT T w w := fun _ _ _ _ h => h
theorem KeepT.of_ext (h : Ext w w') : KeepT T w w' := fun _ _ _ _ hb => hb.ext h
theorem blk_type {k : Nat} {t t' : TypeId} {cs cs' : Array Value} (h : Blk w k t cs) (h' : Blk w k t' cs') : t = t' := by
  unfold Blk at h h'
  rw [h] at h'
  injection h' with h'
  injection h'
theorem KeepT.of_upd (h : Blk w b T cs) (hg : w.grownBy w' (some b)) : KeepT T w w' := fun k t cs' ht hb =>
  hb.grown hg (by intro e; injection e with e; subst e; exact ht (blk_type hb h))

theorem ORow.start (h : Own H A L w) (e : TypeId) (c : Nat) : ORow H A L e c (.slice none 0 0) 0 [] w :=
  ⟨h, World.ownsRowF_nil w H e c, fun _ _ h => by simp [Value.ownBlock] at h⟩
theorem ORow.ext (h : ORow H A L e c v n xs w) (k : Ext w w') : ORow H A L e c v n xs w' :=
  ⟨h.own.ext k, h.row.kept (Z3f k none) (Classical.em _), h.apart⟩
theorem ORow.new (h : ORow H A L e c v n xs w) (t : TypeId) (cs : Array Value) : ORow H A ((w.heap.size, t, cs) :: L) e c v n xs (w.alloc (.cells cs t)) :=
  ⟨h.own.new t cs, h.row.kept (Z3f (Ext.alloc w _) none) (Classical.em _), fun x hx he => by
    rcases List.mem_cons.1 hx with rfl | hx
    · exact absurd (h.row.lt _ he).2 (by simp)
    · exact h.apart x hx he⟩
theorem ORow.put (h : ORow H A L e c v n xs w) (hL : L = L1 ++ (b, t, cs) :: L2) (cs' : Array Value) (hg : w.grownBy w' (some b)) (hb : Blk w' b t cs') : ORow H A (L1 ++ (b, t, cs') :: L2) e c v n xs w' := by
  refine ⟨h.own.put hL cs' hg hb, h.row.kept hg (.inr (h.apart (b, t, cs) (by rw [hL]; simp))), fun x hx => ?_⟩
  subst hL
  rcases List.mem_append.1 hx with hx | hx
  · exact h.apart x (by simp [hx])
  · rcases List.mem_cons.1 hx with rfl | hx
    · exact h.apart (b, t, cs) (by simp)
    · exact h.apart x (by simp [hx])
theorem ORow.set (h : ORow H A L e c v n xs w) (hL : L = L1 ++ (b, t, cs) :: L2) (i : Nat) (u : Value) : ORow H A (L1 ++ (b, t, cs.setIfInBounds i u) :: L2) e c v n xs (w.setCell ⟨b, i, none⟩ u) :=
  h.put hL _ (Z1k (World.grownBy.refl w _) (.inl rfl) u) ((h.own.all.mem (x := (b, t, cs)) (by rw [hL]; simp) : Blk w b t cs).set_ i u)
theorem ORow.grow (h : ORow H A L e c v n xs w) (h2 : w'.ownsRowF H e c v' m ys) (hg : w.grownBy w' v.ownBlock) (h4 : v'.ownBlock = v.ownBlock ∨ ∃ k, v'.ownBlock = some k ∧ w.heap.size ≤ k) : ORow H A L e c v' m ys w' := by
  refine ⟨?_, h2, fun x hx he => ?_⟩
  · cases hv : v.ownBlock with
    | none =>
      rw [hv] at hg
      exact h.own.ext ⟨hg.os, hg.tape, hg.output, hg.size, fun i hi => hg.block i hi (by simp)⟩
    | some g =>
      rw [hv] at hg
      exact h.own.far (h.row.lt g hv).1 (fun x hx e => h.apart x hx (by rw [hv, e])) hg
  · rcases h4 with h4 | ⟨k, h4, hk⟩
    · rw [h4] at he; exact h.apart x hx he
    · rw [h4] at he; injection he with he; have := h.own.lt hx; omega
theorem ORow.tail {x : BlkD} (h : ORow H A (x :: L) e c v n xs w) : ORow H A L e c v n xs w := ⟨h.own.tail, h.row, fun y hy => h.apart y (by simp [hy])⟩
theorem ORow.slice (h : ORow H A L e c v n xs w) : ∃ B cap, v = .slice B n cap := by
  rcases h.row.2 with ⟨rfl, rfl⟩ | ⟨g, cap, cur, fz, rfl, _⟩
  · exact ⟨none, 0, rfl⟩
  · exact ⟨some ⟨g, 0, none⟩, cap, rfl⟩
/-- It is a row of data. -/
theorem Z3n {E : Type} {enc : E → List Value} {c : Nat} (hc : ∀ x, (enc x).length = c) : ∀ (xs : List E) (i : Nat) (x : E) (j : Nat) (u : Value), xs[i]? = some x → (enc x)[j]? = some u → (xs.flatMap enc)[i * c + j]? = some u
  | [], i, x, j, u, h, _ => by simp at h
  | y :: ys, 0, x, j, u, h, hu => by
    simp at h
    subst h
    have hj : j < (enc y).length := (List.getElem?_eq_some_iff.1 hu).1
    rw [List.flatMap_cons, Nat.zero_mul, Nat.zero_add, List.getElem?_append_left hj]
    exact hu
  | y :: ys, i + 1, x, j, u, h, hu => by
    have := Z3n hc ys i x j u (by simpa using h) hu
    rw [List.flatMap_cons, List.getElem?_append_right (by rw [hc, Nat.add_mul]; omega), hc]
    rw [show (i + 1) * c + j - c = i * c + j by rw [Nat.add_mul]; omega]
    exact this
theorem ORow.rows {E : Type} {enc : E → List Value} {zs : List E} (h : ORow H A L e c v n (zs.flatMap enc) w) (hc : ∀ x, (enc x).length = c) (hn : zs.length = n) :
    ∃ B cap, v = .slice B n cap ∧ n ≤ cap ∧ cap ≤ maxLen ∧ Row w B c enc zs := by
  rcases h.row.2 with ⟨rfl, rfl⟩ | ⟨g, cap, cur, fz, rfl, hb, hg, hfz, hcap, hmax, hcs, ht⟩
  · refine ⟨none, 0, rfl, Nat.le_refl _, by decide, fun i x hx => ?_⟩
    have : zs = [] := List.length_eq_zero_iff.1 hn
    subst this
    simp at hx
  · refine ⟨some ⟨g, 0, none⟩, cap, rfl, hcap, hmax, fun i x hx => ⟨g, 0, rfl, (Array.getElem?_eq_some_iff.1 hg).1, fun j u hu => ?_⟩⟩
    have := h.row.cells (g := g) rfl (i * c + j) u (Z3n hc zs i x j u hx hu)
    have hadd : (⟨g, 0, none⟩ : Addr).add (i * c + j) = ⟨g, i * c + j, none⟩ := by unfold Addr.add; split <;> simp_all
    rw [hadd] at this
    rw [Nat.zero_add]
    exact this

variable {P : Program}
/-- append of elements that lie in a block. -/
theorem ORow.append {o : Oper} {a : Act} {K : Act → World → Prop} {Q : Exit → Act → World → Prop} (h : ORow H A L e c v n xs w) (s x : Operand) (t : TypeId)
    (ho : o.op = .call { callee := .builtin .append, args := #[s, x], argTypes := #[t, t] })
    (i : TypeInfo) (z : Value) (bytes : Nat) (ht : P.underlying t = some (.slice e)) (hi : P.info? e = some i) (hz : i.zero = some z)
    (hsize : i.size = c) (hby : i.bytes = bytes) (hzs : z.cells.size = c) (hsz : 0 < c)
    (hs : a.eval s = v) (g m cp : Nat) (news : List Value) (hx : a.eval x = .slice (some ⟨g, 0, none⟩) m cp) (tg : TypeId) (hb : Blk w g tg news.toArray) (hl : news.length = m * c) (h1 : ∀ u ∈ news, u.oneCell' = true)
    (h63 : n + m ≤ maxLen) (hbytes : (n + m) * bytes ≤ 140737488355328)
    (hk : ∀ v' w', ORow H A L e c v' (n + m) (xs ++ news) w' → w.grownBy w' v.ownBlock → K (a.put o.dst v') w') : o.wp P a w K Q := by
  obtain ⟨v', w', hr, h2, h3, h4⟩ := Z2i (P := P) w H t o.type e i z c bytes ht hi hz hsize hby hzs hsz v n xs h.row ⟨g, 0, none⟩ m cp news hl (fun j u hu => by
    have := hb.cell j
    have hadd : (⟨g, 0, none⟩ : Addr).add j = ⟨g, j, none⟩ := by unfold Addr.add; split <;> simp_all
    rw [hadd, this]
    simpa using hu) h1 h63 hbytes h.own.size
  unfold Oper.wp execOp
  simp only [ho, resolve, invoke, builtin, Sem.run_bind, Sem.run_pure, Result.andThen_ok, List.map_toArray, List.map_cons, List.map_nil, hs, hx, hr]
  exact hk _ _ (h.grow h2 h3 h4) h3
end

theorem nodup_lt_le : ∀ (N : Nat) (l : List Nat), l.Nodup → (∀ x ∈ l, x < N) → l.length ≤ N := by
  intro N
  induction N with
  | zero =>
    intro l _ h
    cases l with
    | nil => simp
    | cons x l => have := h x (by simp); omega
  | succ N ih =>
    intro l hn h
    by_cases hm : N ∈ l
    · have h1 := ih (l.erase N) (hn.erase N) (fun x hx => by
        have h2 := h x (List.mem_of_mem_erase hx)
        have h3 : x ≠ N := fun e => by subst e; exact (hn.not_mem_erase) hx
        omega)
      rw [List.length_erase_of_mem hm] at h1
      omega
    · have := ih l hn (fun x hx => by
        have h2 := h x hx
        have h3 : x ≠ N := fun e => by subst e; exact hm hx
        omega)
      omega
theorem Z5m (l : List Int) (lo : Int) (N : Nat) (hn : l.Nodup) (h : ∀ x ∈ l, lo ≤ x ∧ x < lo + N) : l.length ≤ N := by
  have h1 : (l.map fun x => (x - lo).toNat).Nodup := by
    rw [List.nodup_iff_pairwise_ne, List.pairwise_map]
    refine (List.nodup_iff_pairwise_ne.1 hn).imp_of_mem (fun {a b} ha hb hab e => hab ?_)
    have := h a ha
    have := h b hb
    omega
  have := nodup_lt_le N _ h1 (fun y hy => by
    obtain ⟨x, hx, rfl⟩ := List.mem_map.1 hy
    have := h x hx
    omega)
  simpa using this
def litI : Lit → Int
  | .int _ x => x
  | _ => 0
/-- A map with keys of a range has no more entries than the range. -/
theorem VM.tight {w : World} {b n : Nat} {m : Int → Option Value} (h : VM w b n m) (lo : Int) (N : Nat) (hk : ∀ i, wfV i → (m i).isSome = true → lo ≤ i ∧ i < lo + N) : VM w b N m := by
  obtain ⟨D, hown, hD⟩ := h
  refine ⟨D, ?_, hD⟩
  obtain ⟨es, clock, hb, F, hs, rfl⟩ := id hown
  refine ⟨es, clock, hb, F, ?_, rfl⟩
  have hapart := fit_apart Z1s F
  have hkeys : ∀ e ∈ es.toList, ∃ x, (Go.WideElems.rg Tryz.prog 3 heldE e).1 = .int .i64 x ∧ wfV x ∧ (m x).isSome = true := by
    intro e he
    obtain ⟨y, hy⟩ := F.reads e he
    obtain ⟨x, h1, h2, h3⟩ := Maps.keyOf_int_inv Tryz.underlying3 (Go.WideElems.rd_key hy)
    have hrg : (Go.WideElems.rg Tryz.prog 3 heldE e).1 = .int .i64 x := by rw [Go.WideElems.rg_of hy]; exact h2
    refine ⟨x, hrg, h3, ?_⟩
    rw [← (hD x h3).2]
    refine List.any_eq_true.2 ⟨Go.WideElems.rg Tryz.prog 3 heldE e, mem_sorted.2 (List.mem_map.2 ⟨e, he, rfl⟩), ?_⟩
    rw [hrg]
    exact WideAt.sameKey_self (keyV x)
  obtain ⟨f, hf⟩ : ∃ f : MapEntry → Int, ∀ e ∈ es.toList, (Go.WideElems.rg Tryz.prog 3 heldE e).1 = .int .i64 (f e) ∧ wfV (f e) ∧ (m (f e)).isSome = true := by
    refine ⟨fun e => litI (Go.WideElems.rg Tryz.prog 3 heldE e).1, fun e he => ?_⟩
    obtain ⟨x, h1, h2, h3⟩ := hkeys e he
    have h4 : litI (Go.WideElems.rg Tryz.prog 3 heldE e).1 = x := by rw [h1]; rfl
    simp only [h4]
    exact ⟨h1, h2, h3⟩
  have hnd : (es.toList.map f).Nodup := by
    rw [List.nodup_iff_pairwise_ne, List.pairwise_map]
    rw [List.pairwise_map] at hapart
    refine hapart.imp_of_mem (fun {a b} ha hb hab e => hab ?_)
    rw [(hf a ha).1, (hf b hb).1, e]
  have := Z5m (es.toList.map f) lo N hnd (fun x hx => by
    obtain ⟨e, he, rfl⟩ := List.mem_map.1 hx
    exact hk _ (hf e he).2.1 (hf e he).2.2)
  simpa using this
theorem OwnT.newRow {H : Nat} {A w w' : World} {L : List Thing} {T : TypeId} {k n : Nat} {v : Value} {xs : List Value} (h : OwnT H A L w) (hE : Ext w w') (hr : w'.ownsRow w.heap.size T k v n xs) : OwnT H A (tRow T k v n xs :: L) w' := by
  refine h.cons hE (tRow T k v n xs) ⟨hr.1, ?_⟩ (fun i hi => (hr.lt i (by simpa [tRow] using hi)).1)
  rcases hr.2 with hn | ⟨g, cap, cur, h1, _, h2⟩
  · exact .inl hn
  · exact .inr ⟨g, cap, cur, h1, Nat.zero_le _, h2⟩
theorem OwnT.nilRow {H : Nat} {A w : World} {R : List Thing} (h : OwnT H A R w) (T : TypeId) (k : Nat) : OwnT H A (tRow T k (.slice none 0 0) 0 [] :: R) w :=
  h.cons (Ext.refl _) (tRow T k (.slice none 0 0) 0 []) (World.ownsRow_nil _ _ _ _) (fun i hi => by simp [tRow, Value.ownBlock] at hi)
section
variable {H : Nat} {A w : World} {R : List Thing} {T : TypeId} {k n : Nat} {v : Value} {xs : List Value}
theorem OwnT.rowBase (h : OwnT H A (tRow T k v n xs :: R) w) : w.ownsRow H T k v n xs := by
  have hr := h.r0
  refine ⟨hr.1, ?_⟩
  rcases hr.2 with hn | ⟨g, cap, cur, rfl, _, rest⟩
  · exact .inl hn
  · exact .inr ⟨g, cap, cur, rfl, h.high (tRow T k (.slice (some ⟨g, 0, none⟩) n cap) n xs) (by simp) g (by simp [tRow, Value.ownBlock]), rest⟩
theorem OwnT.appendOne {P : Program} (h : OwnT H A (tRow T k v n xs :: R) w) (t : TypeId) (i : TypeInfo) (z : Value) (bytes : Nat) (ht : P.underlying t = some (.slice T)) (hi : P.info? T = some i) (hz : i.zero = some z)
    (hsize : i.size = k) (hby : i.bytes = bytes) (hzs : z.cells.size = k) (hk : 0 < k) (g : Nat) (tg : TypeId) (news : List Value) (hb : Blk w g tg news.toArray) (hl : news.length = k) (h1 : ∀ u ∈ news, u.oneCell' = true)
    (h63 : n + 1 ≤ maxLen) (hbytes : (n + 1) * bytes ≤ 140737488355328) :
    ∃ v' w', (∀ ty, (Builtin.append_ #[t, t] ty #[v, .slice (some ⟨g, 0, none⟩) 1 1]).run P w = .ok v' w') ∧ OwnT H A (tRow T k v' (n + 1) (xs ++ news) :: R) w' := by
  obtain ⟨v', w', hrun, h2, h3, h4⟩ := Z2h (P := P) w t t T i z k bytes ht hi hz hsize hby hzs hk v n xs h.r0 ⟨g, 0, none⟩ 1 1 news (by omega) (fun j u hu => by
    have := hb.cell j
    have hadd : (⟨g, 0, none⟩ : Addr).add j = ⟨g, j, none⟩ := by unfold Addr.add; split <;> simp_all
    rw [hadd, this]
    simpa using hu) h1 h63 hbytes
  exact ⟨v', w', fun _ => hrun, h.row h2 h3 h4⟩
end
/-- A row of one's own as data. -/
theorem Z57 {E : Type} {enc : E → List Value} {k : Nat} (hk : ∀ x, (enc x).length = k) (hk0 : 0 < k) {w : World} {base n : Nat} {T : TypeId} {v : Value} {X : List E} (h : w.ownsRow base T k v n (X.flatMap enc)) : ∃ B cap, v = .slice B n cap ∧ n ≤ cap ∧ cap ≤ maxLen ∧ X.length = n ∧ Row w B k enc X := by
  have hfl : ∀ X : List E, (X.flatMap enc).length = X.length * k := fun X => by
    induction X with
    | nil => simp
    | cons x X ih => rw [List.flatMap_cons, List.length_append, ih, hk, List.length_cons, Nat.succ_mul]; omega
  have hl : X.length = n := by
    have := h.1
    rw [hfl] at this
    exact Nat.eq_of_mul_eq_mul_right hk0 this
  have hF := World.ownsRowF_of h
  rcases h.2 with ⟨rfl, rfl⟩ | ⟨g, cap, cur, rfl, hb, hg, hcap, hmax, hcs, ht⟩
  · refine ⟨none, 0, rfl, Nat.le_refl _, by decide, hl, fun i x hx => ?_⟩
    have : X = [] := List.length_eq_zero_iff.1 hl
    subst this
    simp at hx
  · refine ⟨some ⟨g, 0, none⟩, cap, rfl, hcap, hmax, hl, fun i x hx => ⟨g, 0, rfl, (Array.getElem?_eq_some_iff.1 hg).1, fun j u hu => ?_⟩⟩
    have := hF.cells (g := g) rfl (i * k + j) u (Z3n hk X i x j u hx hu)
    have hadd : (⟨g, 0, none⟩ : Addr).add (i * k + j) = ⟨g, i * k + j, none⟩ := by unfold Addr.add; split <;> simp_all
    rw [hadd] at this
    rw [Nat.zero_add]
    exact this
theorem Z7j {w w' : World} {base : Nat} {T : TypeId} {k n : Nat} {v : Value} {xs : List Value} (h : w.ownsRow base T k v n xs) (hE : Ext w w') : w'.ownsRow base T k v n xs := by
  refine ⟨h.1, ?_⟩
  rcases h.2 with hn | ⟨g, cap, cur, rfl, hb, hg, rest⟩
  · exact .inl hn
  · exact .inr ⟨g, cap, cur, rfl, hb, (hE.block g (Array.getElem?_eq_some_iff.1 hg).1).trans hg, rest⟩
open Go.RowKit Go.Maps

abbrev Sec := List UInt8
def strsV (S : List Sec) : List Value := S.map fun s => .string (sB s)
def looV (L : Int → Option Sec) : Int → Option Value := fun i => (L i).map fun s => .string (sB s)
def putS (L : Int → Option Sec) (i : Int) (s : Sec) : Int → Option Sec := fun j => if j = i then some s else L j
theorem looV_put (L : Int → Option Sec) (i : Int) (s : Sec) : looV (putS L i s) = putV (looV L) i (.string (sB s)) := by
  funext j
  unfold looV putS putV
  split <;> rfl
theorem looV_none : looV (fun _ => none) = fun _ => none := rfl
theorem looV_some {L : Int → Option Sec} {i : Int} {v : Value} (h : looV L i = some v) : ∃ s, L i = some s ∧ v = .string (sB s) := by
  obtain ⟨s, h1, h2⟩ := Option.map_eq_some_iff.1 h
  exact ⟨s, h1, h2.symm⟩
theorem looV_is (L : Int → Option Sec) (i : Int) : (looV L i).isSome = (L i).isSome := by unfold looV; simp
structure DOk (n : Nat) (S : List Sec) (L : Int → Option Sec) : Prop where
  le : n ≤ 16384
  len : S.length = n
  sz : ∀ s ∈ S, s.length = 16
  rng : ∀ i s, L i = some s → (0 ≤ i ∧ i < n) ∧ s.length = 16
/-- A device: block p; its safe sectors S in a row; the map bm of the loose ones L. -/
def tDisc (p mb : Nat) (B : Option Addr) (n cap bm : Nat) (S : List Sec) (L : Int → Option Sec) : Thing where
  foot := p :: bm :: (Value.slice B n cap).ownBlock.toList
  holds := fun w => (p :: bm :: (Value.slice B n cap).ownBlock.toList).Nodup ∧ DOk n S L ∧ Blk w p 114 #[.pointer (some ⟨mb, 0, none⟩), .slice B n cap, .map (some bm)] ∧
    w.ownsRow 0 9 1 (.slice B n cap) n (strsV S) ∧ VM w bm 16384 (looV L)
  keep := fun w w' hs h ⟨h1, h2, h3, h4, h5⟩ => ⟨h1, h2, (h p (by simp)).trans h3, (tRow 9 1 (.slice B n cap) n (strsV S)).keep w w' hs (fun i hi => h i (by simp [tRow] at hi ⊢; exact .inr (.inr hi))) h4, h5.same (h bm (by simp))⟩
  lt := fun w ⟨h1, h2, h3, h4, h5⟩ i hi => by
    rcases List.mem_cons.1 hi with rfl | hi
    · exact Blk.lt h3
    · rcases List.mem_cons.1 hi with rfl | hi
      · exact h5.lt
      · exact (tRow 9 1 (.slice B n cap) n (strsV S)).lt w h4 i hi
section
variable {H : Nat} {A w w' : World} {R : List Thing} {p mb n cap bm : Nat} {B : Option Addr} {S : List Sec} {L : Int → Option Sec}
theorem OwnT.dok (h : OwnT H A (tDisc p mb B n cap bm S L :: R) w) : DOk n S L := h.all.1.2.1
/-- A device by its parts. -/
theorem OwnT.openD (h : OwnT H A (tDisc p mb B n cap bm S L :: R) w) : OwnT H A (tBlk p 114 #[.pointer (some ⟨mb, 0, none⟩), .slice B n cap, .map (some bm)] :: tRow 9 1 (.slice B n cap) n (strsV S) :: tMap bm 16384 (looV L) :: R) w := by
  obtain ⟨h1, h2, h3, h4, h5⟩ := h.all.1
  have hd := List.pairwise_cons.1 h.diff
  rw [List.nodup_cons, List.nodup_cons] at h1
  obtain ⟨n1, n2, n3⟩ := h1
  have hf : ∀ i, i = p ∨ i = bm ∨ i ∈ (Value.slice B n cap).ownBlock.toList → i ∈ (tDisc p mb B n cap bm S L).foot := fun i hi => by
    show i ∈ p :: bm :: _
    rcases hi with rfl | rfl | hi
    · simp
    · simp
    · exact List.mem_cons_of_mem _ (List.mem_cons_of_mem _ hi)
  refine ⟨h.below, h.size, ⟨h3, h4, h5, Ths.of fun x hx => h.all.mem (by simp [hx])⟩, fun x hx i hi => ?_, ?_⟩
  · rcases List.mem_cons.1 hx with rfl | hx
    · exact h.high _ (by simp) i (hf i (.inl (by simpa [tBlk] using hi)))
    · rcases List.mem_cons.1 hx with rfl | hx
      · exact h.high _ (by simp) i (hf i (.inr (.inr hi)))
      · rcases List.mem_cons.1 hx with rfl | hx
        · exact h.high _ (by simp) i (hf i (.inr (.inl (by simpa [tMap] using hi))))
        · exact h.high x (by simp [hx]) i hi
  · refine List.Pairwise.cons (fun y hy i hi hj => ?_) (List.Pairwise.cons (fun y hy i hi hj => ?_) (List.Pairwise.cons (fun y hy i hi hj => ?_) hd.2))
    · have hi : i = p := by simpa [tBlk] using hi
      subst hi
      rcases List.mem_cons.1 hy with rfl | hy
      · exact n1 (List.mem_cons_of_mem _ hj)
      · rcases List.mem_cons.1 hy with rfl | hy
        · exact n1 (by have : i = bm := by simpa [tMap] using hj
                       simp [this])
        · exact hd.1 y hy i (hf i (.inl rfl)) hj
    · rcases List.mem_cons.1 hy with rfl | hy
      · have : i = bm := by simpa [tMap] using hj
        subst this
        exact n2 hi
      · exact hd.1 y hy i (hf i (.inr (.inr hi))) hj
    · exact hd.1 y hy i (hf i (.inr (.inl (by simpa [tMap] using hi)))) hj
theorem OwnT.closeD {S : List Sec} {L : Int → Option Sec} {k : Nat} (h : OwnT H A (tBlk p 114 #[.pointer (some ⟨mb, 0, none⟩), .slice B n cap, .map (some bm)] :: tRow 9 1 (.slice B n cap) n (strsV S) :: tMap bm k (looV L) :: R) w) (hk : DOk n S L) : OwnT H A (tDisc p mb B n cap bm S L :: R) w := by
  obtain ⟨h3, h4, h5, hR⟩ := h.all
  have hd := List.pairwise_cons.1 h.diff
  have hd2 := List.pairwise_cons.1 hd.2
  have hd3 := List.pairwise_cons.1 hd2.2
  have e1 : p ≠ bm := fun e => hd.1 (tMap bm k (looV L)) (by simp) p (by simp [tBlk]) (by simp [tMap, e])
  have e2 : p ∉ (Value.slice B n cap).ownBlock.toList := fun e => hd.1 _ (List.mem_cons_self ..) p (by simp [tBlk]) e
  have e3 : bm ∉ (Value.slice B n cap).ownBlock.toList := fun e => hd2.1 (tMap bm k (looV L)) (by simp) bm e (by simp [tMap])
  have h5' : VM w bm 16384 (looV L) := (VM.tight h5 0 n (fun i _ hs => by
    rw [looV_is] at hs
    obtain ⟨s, hs⟩ := Option.isSome_iff_exists.1 hs
    have := (hk.rng i s hs).1
    omega)).mono hk.le
  have hnd : (p :: bm :: (Value.slice B n cap).ownBlock.toList).Nodup := by
    rw [List.nodup_cons, List.nodup_cons]
    refine ⟨fun e => ?_, e3, ?_⟩
    · rcases List.mem_cons.1 e with e | e
      · exact e1 e
      · exact e2 e
    · cases (Value.slice B n cap).ownBlock <;> simp
  refine ⟨h.below, h.size, ⟨⟨hnd, hk, h3, h4, h5'⟩, hR⟩, fun x hx i hi => ?_, ?_⟩
  · rcases List.mem_cons.1 hx with rfl | hx
    · rcases List.mem_cons.1 hi with rfl | hi
      · exact h.high _ (List.mem_cons_self ..) i (by simp [tBlk])
      · rcases List.mem_cons.1 hi with rfl | hi
        · exact h.high (tMap i k (looV L)) (by simp) i (by simp [tMap])
        · exact h.high _ (List.mem_cons_of_mem _ (List.mem_cons_self ..)) i hi
    · exact h.high x (by simp [hx]) i hi
  · refine List.Pairwise.cons (fun y hy i hi hj => ?_) hd3.2
    rcases List.mem_cons.1 hi with rfl | hi
    · exact hd.1 y (by simp [hy]) i (by simp [tBlk]) hj
    · rcases List.mem_cons.1 hi with rfl | hi
      · exact hd3.1 y hy i (by simp [tMap]) hj
      · exact hd2.1 y (by simp [hy]) i hi hj
/-- What is read there. -/
structure DiscR (p mb : Nat) (B : Option Addr) (n cap bm : Nat) (S : List Sec) (L : Int → Option Sec) (w : World) : Prop where
  ok : DOk n S L
  blk : Blk w p 114 #[.pointer (some ⟨mb, 0, none⟩), .slice B n cap, .map (some bm)]
  row : w.ownsRow 0 9 1 (.slice B n cap) n (strsV S)
  map : VM w bm 16384 (looV L)
theorem OwnT.disc (h : OwnT H A (tDisc p mb B n cap bm S L :: R) w) : DiscR p mb B n cap bm S L w := ⟨h.all.1.2.1, h.all.1.2.2.1, h.all.1.2.2.2.1, h.all.1.2.2.2.2⟩
theorem Thing.disc (h : (tDisc p mb B n cap bm S L).holds w) : DiscR p mb B n cap bm S L w := ⟨h.2.1, h.2.2.1, h.2.2.2.1, h.2.2.2.2⟩
theorem DiscR.ext (h : DiscR p mb B n cap bm S L w) (k : Ext w w') : DiscR p mb B n cap bm S L w' := ⟨h.ok, h.blk.ext k, Z7j h.row k, h.map.ext k⟩
theorem DiscR.sec (h : DiscR p mb B n cap bm S L w) {i : Nat} {s : Sec} (hi : S[i]? = some s) : ∃ g, B = some ⟨g, 0, none⟩ ∧ w.cell? ⟨g, i, none⟩ = some (.string (sB s)) := by
  have hil := (List.getElem?_eq_some_iff.1 hi).1
  obtain ⟨g, c, e, _⟩ := Z7g h.row (by have := h.ok.len; omega)
  injection e with e1 _ e3
  subst e1 e3
  exact ⟨g, rfl, (Z53 h.row (i := i) (v := .string (sB s)) (by simp [strsV, hi])).1⟩
end
end Go.Proofs.YtakkhglbdljfiaaGreatDoor
