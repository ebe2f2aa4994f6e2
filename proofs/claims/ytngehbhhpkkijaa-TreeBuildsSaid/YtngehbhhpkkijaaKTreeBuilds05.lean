/- What an argument that can be read as data looks like, by its type: lemmas that open an argument. No function of the program in sight. -/
import Derived.Test.YtngehbhhpkkijaaKTreeBuilds00
import Derived.ProofKit
import Derived.OpenShut
import Derived.ChangeOld
import Derived.Deep.Fields
import Derived.Test.YtngehbhhpkkijaaKTreeBuilds01
import Derived.Test.YtngehbhhpkkijaaKTreeBuilds02
namespace Go.Proofs.Ytngehbhhpkkijaa
set_option linter.unusedVariables false
set_option linter.unusedSimpArgs false
open Go.RowKit Go.ChangeShapes Go.WideShapes Go.ChangeAt

/-- These cells read as a value of type t. -/
def Fit (P : Program) (w : World) (t : TypeId) (cs : List Value) : Prop :=
  ∃ (H : Type) (enc : TypeId × Value → H) (fuel : Nat) (x : DataW H × List MemPlace), DataW.trod enc P w 0 (fun _ => true) true fuel t cs = some x

/-- An argument of type t. -/
def Arg (P : Program) (w : World) (t : TypeId) (v : Value) : Prop := Fit P w t v.cells.toList ∧ ∃ r base, Value.okWide P w r base t v

section
variable {P : Program} {w : World} {t : TypeId} {cs : List Value} {v : Value}
theorem Z80 {k : IntKind} (ht : P.underlying t = some (.int k)) (h : Fit P w t cs) : ∃ n, cs = [.int k n] ∧ (Lit.int k n).wf = true := by
  obtain ⟨H, enc, fuel, x, h⟩ := h
  obtain ⟨n, h1, _, h2⟩ := DataW.trod_int ht h
  exact ⟨n, h1, h2⟩
theorem Z6x {fs : Array Field} (ht : P.underlying t = some (.struct fs)) (h : Fit P w t cs) :
    cs.length = P.cellsOf t ∧ ∀ (i : Nat) (f : Field), fs[i]? = some f → Fit P w f.type ((cs.drop f.offset).take (P.cellsOf f.type)) := by
  obtain ⟨H, enc, fuel, x, h⟩ := h
  obtain ⟨xs, n, _, _, hl, hx, hg⟩ := DataW.trod_struct ht h
  refine ⟨hl, fun i f hf => ?_⟩
  have hi : i < xs.length := by rw [hx]; exact (Array.getElem?_eq_some_iff.1 hf).1
  exact ⟨H, enc, n, xs[i], (hg i f hf).trans (List.getElem?_eq_getElem hi)⟩
/-- A slice: its elements lie from an address on, c cells each. -/
theorem Z7z {e : TypeId} {c : Nat} (ht : P.underlying t = some (.slice e)) (hc : P.cellsOf e = c) (h : Fit P w t cs) :
    ∃ A len cap, cs = [.slice A len cap] ∧ len ≤ cap ∧ cap ≤ maxLen ∧ (A = none → len = 0) ∧
      (∀ ad, A = some ad → ∀ i, i < len → ∃ cs', cs'.length = c ∧ (∀ j, j < c → w.cell? ((ad.add (i * c)).add j) = cs'[j]?) ∧ Fit P w e cs') := by
  obtain ⟨H, enc, fuel, x, h⟩ := h
  rcases DataW.trod_slice ht h with ⟨rfl, _⟩ | ⟨a, len, cap, elems, rest, n, _, rfl, _, _, hl, hm, hlen, hel, _, _⟩
  · exact ⟨none, 0, 0, rfl, Nat.le_refl _, by decide, fun _ => rfl, fun ad e => by cases e⟩
  · refine ⟨some a, len, cap, rfl, hl, hm, (fun e => by cases e), fun ad e i hi => ?_⟩
    injection e with e
    subst e
    have := hel i hi
    rw [List.getElem?_eq_getElem (by omega)] at this
    obtain ⟨cs', h1, h2⟩ := Option.bind_eq_some_iff.1 this
    obtain ⟨_, h3, h4⟩ := World.cells?_some h1
    subst hc
    exact ⟨cs', h3, h4, H, enc, n, _, h2⟩

theorem arg_int {k : IntKind} (ht : P.underlying t = some (.int k)) (h : Arg P w t v) : ∃ n, v = .int k n ∧ (Lit.int k n).wf = true := by
  obtain ⟨hf, r, base, hv⟩ := h
  obtain ⟨n, rfl⟩ := okWide_int ht hv
  obtain ⟨m, h1, h2⟩ := Z80 ht hf
  simp [Value.cells] at h1
  subst h1
  exact ⟨n, rfl, h2⟩
theorem Z83 {e : TypeId} (ht : P.underlying t = some (.slice e)) (h : Arg P w t v) : Fit P w t [v] := by
  obtain ⟨hf, r, base, hv⟩ := h
  obtain ⟨a, len, cap, rfl⟩ := okWide_slice ht hv
  exact hf
end

/-! ### Slices as lists of data: 'Row': element i lies at 'off + i * c', its cells are 'enc x'; 'Row1': elements of one cell. -/
theorem cell_lt {w : World} {a : Addr} {v : Value} (h : w.cell? a = some v) : a.block < w.heap.size := by
  rcases Nat.lt_or_ge a.block w.heap.size with hlt | hge
  · exact hlt
  · have e : w.heap[a.block]? = none := by simp [hge]
    simp [World.cell?, e] at h

def Row {E : Type} (w : World) (A : Option Addr) (c : Nat) (enc : E → List Value) (xs : List E) : Prop :=
  ∀ i x, xs[i]? = some x → ∃ b off, A = some ⟨b, off, none⟩ ∧ b < w.heap.size ∧ ∀ j u, (enc x)[j]? = some u → w.cell? ⟨b, off + i * c + j, none⟩ = some u
def Row1 {E : Type} (w : World) (A : Option Addr) (enc : E → Value) (xs : List E) : Prop :=
  ∀ i x, xs[i]? = some x → ∃ b off, A = some ⟨b, off, none⟩ ∧ b < w.heap.size ∧ w.cell? ⟨b, off + i, none⟩ = some (enc x)

theorem Row.below {E : Type} {w w' : World} {A : Option Addr} {c : Nat} {enc : E → List Value} {xs : List E} (h : Row w A c enc xs) (hb : Below w.heap.size w w') : Row w' A c enc xs := by
  intro i x hx
  obtain ⟨b, off, hA, hlt, hc⟩ := h i x hx
  exact ⟨b, off, hA, Nat.lt_of_lt_of_le hlt hb.size, fun j u hu => (hb.cell (p := ⟨b, _, none⟩) hlt).trans (hc j u hu)⟩
theorem Row1.below {E : Type} {w w' : World} {A : Option Addr} {enc : E → Value} {xs : List E} (h : Row1 w A enc xs) (hb : Below w.heap.size w w') : Row1 w' A enc xs := by
  intro i x hx
  obtain ⟨b, off, hA, hlt, hc⟩ := h i x hx
  exact ⟨b, off, hA, Nat.lt_of_lt_of_le hlt hb.size, (hb.cell (p := ⟨b, _, none⟩) hlt).trans hc⟩
theorem Row1.at_ {E : Type} {w : World} {A : Option Addr} {enc : E → Value} {xs : List E} (h : Row1 w A enc xs) {i : Nat} (hi : i < xs.length) : ∃ b off, A = some ⟨b, off, none⟩ ∧ b < w.heap.size ∧ w.cell? ⟨b, off + i, none⟩ = some (enc xs[i]) :=
  h i _ (List.getElem?_eq_getElem hi)
theorem Row.at_ {E : Type} {w : World} {A : Option Addr} {c : Nat} {enc : E → List Value} {xs : List E} (h : Row w A c enc xs) {i : Nat} (hi : i < xs.length) : ∃ b off, A = some ⟨b, off, none⟩ ∧ b < w.heap.size ∧ ∀ j u, (enc xs[i])[j]? = some u → w.cell? ⟨b, off + i * c + j, none⟩ = some u :=
  h i _ (List.getElem?_eq_getElem hi)

/-- An element in a later world. -/
theorem Row1.in_ {E : Type} {w w' : World} {A : Option Addr} {enc : E → Value} {xs : List E} (h : Row1 w A enc xs) (hb : Below w.heap.size w w') {i : Nat} (hi : i < xs.length) : ∃ b off, A = some ⟨b, off, none⟩ ∧ b < w.heap.size ∧ w'.cell? ⟨b, off + i, none⟩ = some (enc xs[i]) := by
  obtain ⟨b, off, hA, hlt, hc⟩ := h.at_ hi
  exact ⟨b, off, hA, hlt, (hb.cell (p := ⟨b, _, none⟩) hlt).trans hc⟩
theorem Row.in_ {E : Type} {w w' : World} {A : Option Addr} {c : Nat} {enc : E → List Value} {xs : List E} (h : Row w A c enc xs) (hb : Below w.heap.size w w') {i : Nat} (hi : i < xs.length) : ∃ b off, A = some ⟨b, off, none⟩ ∧ b < w.heap.size ∧ ∀ j u, (enc xs[i])[j]? = some u → w'.cell? ⟨b, off + i * c + j, none⟩ = some u := by
  obtain ⟨b, off, hA, hlt, hc⟩ := h.at_ hi
  exact ⟨b, off, hA, hlt, fun j u hu => (hb.cell (p := ⟨b, _, none⟩) hlt).trans (hc j u hu)⟩

theorem list_of {E : Type} (n : Nat) (p : Nat → E → Prop) (h : ∀ i, i < n → ∃ x, p i x) : ∃ xs : List E, xs.length = n ∧ ∀ i x, xs[i]? = some x → p i x := by
  induction n with
  | zero => exact ⟨[], rfl, fun i x hx => by simp at hx⟩
  | succ n ih =>
    obtain ⟨xs, hl, hp⟩ := ih (fun i hi => h i (by omega))
    obtain ⟨x, hx⟩ := h n (by omega)
    refine ⟨xs ++ [x], by simp [hl], fun i y hy => ?_⟩
    by_cases hi : i < n
    · rw [List.getElem?_append_left (by omega)] at hy
      exact hp i y hy
    · have : i = n := by
        have := (List.getElem?_eq_some_iff.1 hy).1
        simp at this
        omega
      subst this
      rw [List.getElem?_append_right (by omega)] at hy
      simp [hl] at hy
      subst hy
      exact hx

section
variable {P : Program} {w : World} {t e : TypeId} {v : Value} {E : Type}
theorem fit_row {c : Nat} (enc : E → List Value) (good : E → Prop) (ht : P.underlying t = some (.slice e)) (hc : P.cellsOf e = c) (hpos : 0 < c)
    (hE : ∀ cs', cs'.length = c → Fit P w e cs' → ∃ x, cs' = enc x ∧ good x) (h : Fit P w t [v]) :
    ∃ A len cap, ∃ xs : List E, v = .slice A len cap ∧ len ≤ cap ∧ cap ≤ maxLen ∧ xs.length = len ∧ (∀ x ∈ xs, good x) ∧ Row w A c enc xs := by
  obtain ⟨A, len, cap, hv, hl, hm, hn, hr⟩ := Z7z ht hc h
  injection hv with hv _
  subst hv
  rcases A with _ | ad
  · obtain rfl := hn rfl
    exact ⟨none, 0, cap, [], rfl, hl, hm, rfl, (fun x hx => by simp at hx), fun i x hx => by simp at hx⟩
  · obtain ⟨xs, hlen, hp⟩ := list_of len (fun i x => (∀ j, j < c → w.cell? ((ad.add (i * c)).add j) = (enc x)[j]?) ∧ (enc x).length = c ∧ good x) (fun i hi => by
      obtain ⟨cs', h1, h2, h3⟩ := hr ad rfl i hi
      obtain ⟨x, rfl, hg⟩ := hE cs' h1 h3
      exact ⟨x, h2, h1, hg⟩)
    refine ⟨some ad, len, cap, xs, rfl, hl, hm, hlen, (fun x hx => ?_), fun i x hx => ?_⟩
    · obtain ⟨i, hi, rfl⟩ := List.getElem_of_mem hx
      exact (hp i _ (List.getElem?_eq_getElem hi)).2.2
    · have hi : i < len := by have := (List.getElem?_eq_some_iff.1 hx).1; omega
      obtain ⟨h0, _, _⟩ := hp 0 _ (List.getElem?_eq_getElem (by omega))
      obtain ⟨h2, h1, _⟩ := hp i x hx
      have q0 := h0 0 hpos
      obtain ⟨_, h1', _⟩ := hp 0 _ (List.getElem?_eq_getElem (by omega))
      rw [List.getElem?_eq_getElem (by omega)] at q0
      have hs := World.cell?_spot q0
      simp [Addr.add] at hs
      obtain ⟨b, off, spot⟩ := ad
      simp at hs
      subst hs
      refine ⟨b, off, rfl, ?_, fun j u hu => ?_⟩
      · have := cell_lt q0
        simpa [Addr.add] using this
      · have hj : j < c := by have := (List.getElem?_eq_some_iff.1 hu).1; omega
        have := h2 j hj
        rw [hu] at this
        rw [← this]
        congr 1
        unfold Addr.add
        by_cases k1 : i * c = 0 <;> by_cases k2 : j = 0 <;> simp [k1, k2, Nat.add_assoc]

end
end Go.Proofs.Ytngehbhhpkkijaa

/- Structs by value as arguments: a struct of one-cell fields; short lists by their elements. -/
namespace Go.Proofs.Ytngehbhhpkkijaa
set_option linter.unusedVariables false
set_option linter.unusedSimpArgs false
open Go.RowKit Go.ChangeShapes Go.WideShapes Go.ChangeAt Go.Deep

theorem Z6j {α : Type} {l : List α} {i : Nat} {v : α} (h : (l.drop i).take 1 = [v]) : l[i]? = some v := by
  have : ((l.drop i).take 1)[0]? = some v := by rw [h]; rfl
  rw [List.getElem?_take_of_lt (by omega), List.getElem?_drop] at this
  simpa using this

section
variable {P : Program} {w : World} {t : TypeId} {cs : List Value}
/-- Each field's cells are those from its offset on. -/
theorem Z6y {fs : Array Field} (n : Nat) (ht : P.underlying t = some (.struct fs)) (hC : P.cellsOf t = n) (h : Fit P w t cs) :
    cs.length = n ∧ ∀ (i o e c : Nat), (fs[i]?).map (fun f => (f.offset, f.type)) = some (o, e) → P.cellsOf e = c → Fit P w e ((cs.drop o).take c) := by
  obtain ⟨hl, hx⟩ := Z6x ht h
  refine ⟨by rw [hl, hC], fun i o e c hf hc => ?_⟩
  cases hfi : fs[i]? with
  | none => rw [hfi] at hf; cases hf
  | some f =>
    rw [hfi] at hf
    simp only [Option.map_some, Option.some.injEq, Prod.mk.injEq] at hf
    obtain ⟨rfl, rfl⟩ := hf
    have := hx i f hfi
    rwa [hc] at this
theorem Z6c {k : IntKind} (ht : P.underlying t = some (.int k)) {i : Nat} (h : Fit P w t ((cs.drop i).take 1)) : ∃ n, cs[i]? = some (.int k n) ∧ (Lit.int k n).wf = true := by
  obtain ⟨n, h1, h2⟩ := Z80 ht h
  exact ⟨n, Z6j h1, h2⟩
end
end Go.Proofs.Ytngehbhhpkkijaa

/- leaf: pairs, rise. -/
namespace Go.Proofs.Ytngehbhhpkkijaa
attribute [local simp] BigFrame.eval_const BigFrame.eval_global BigFrame.eval_func
set_option linter.unusedVariables false
set_option linter.unusedSimpArgs false
open Go.RowKit

def pairC (x : Nat × Nat) : List Value := [.int .u64 x.1, .int .u64 x.2]
def keyAt (xs : List (Nat × Nat)) (i : Nat) : Nat := (xs.getD i (0, 0)).1
def riseB (xs : List (Nat × Nat)) : Bool := decide (∀ i, i < xs.length → i + 1 < xs.length → keyAt xs i < keyAt xs (i + 1))
theorem Row.pair_in {w w' : World} {A : Option Addr} {xs : List (Nat × Nat)} (h : Row w A 2 pairC xs) (hb : Below w.heap.size w w') {j : Nat} (hj : j < xs.length) :
    ∃ b o, A = some ⟨b, o, none⟩ ∧ b < w.heap.size ∧ w'.cell? ⟨b, o + j * 2, none⟩ = some (.int .u64 xs[j].1) ∧ w'.cell? ⟨b, o + j * 2 + 1, none⟩ = some (.int .u64 xs[j].2) := by
  obtain ⟨b, o, hA, hlt, hc⟩ := h.in_ hb hj
  exact ⟨b, o, hA, hlt, hc 0 _ rfl, hc 1 _ rfl⟩
theorem Row.key_at {w w' : World} {b o : Nat} {xs : List (Nat × Nat)} (h : Row w (some ⟨b, o, none⟩) 2 pairC xs) (hb : Below w.heap.size w w') {j : Nat} (hj : j < xs.length) : w'.cell? ⟨b, o + j * 2, none⟩ = some (.int .u64 (keyAt xs j)) := by
  obtain ⟨b', o', he, _, hc, _⟩ := h.pair_in hb hj
  cases he
  rw [hc]
  simp [keyAt, List.getD, hj]

set_option maxHeartbeats 1000000 in
theorem rise_any (A : Option Addr) (len cap : Nat) (xs : List (Nat × Nat)) (w : World) (hlen : xs.length = len) (hm : len ≤ 1000000) (hrow : Row w A 2 pairC xs) (hx : ∀ x ∈ xs, x.1 < 18446744073709551616) :
    Calls Try.prog 92 #[.slice A len cap] w fun e w' => e = .returned (.bool (riseB xs)) ∧ Ext w w' := by
  have hk : ∀ j, keyAt xs j < 18446744073709551616 := by
    intro j
    unfold keyAt
    by_cases hj : j < xs.length
    · have := hx _ (List.getElem_mem hj); simpa [List.getD, hj] using this
    · simp [List.getD, hj]
  have HK := Lib.hid hk
  clear hk hx
  go_enter Try.func92, Try.ntmps92
  go_wp2_with fail
  go_loopw [3] (fun i wr => ∃ j : Nat, i = .int .i64 ((j + 1 : Nat) : Int) ∧ (j + 1 ≤ len ∨ j = 0) ∧ Ext w wr ∧ Hid (∀ i, i < j → i + 1 < xs.length → keyAt xs i < keyAt xs (i + 1))) (fun i _ => len - (intOf i).toNat)
  case atStart => exact ⟨0, rfl, .inr rfl, Ext.refl _, fun i hi => absurd hi (by omega)⟩
  case round =>
    obtain ⟨j, rfl, hj, hEx, HJ⟩ := hrel
    by_cases hlt : j + 1 < len
    · obtain ⟨b0, o0, rfl, hlt0, -, -⟩ := hrow.pair_in hEx (show j < xs.length by omega)
      have HQ := Lib.hid (fun (W : World) (h : Ext wr W) => And.intro (hrow.key_at (hEx.trans h) (show j < xs.length by omega)) (hrow.key_at (hEx.trans h) (show j + 1 < xs.length by omega)))
      have h1 := HK.out j
      have h2 := HK.out (j + 1)
      have HJ1 := Lib.hid (show ∀ i, i < j + 1 → i + 1 < xs.length → (keyAt xs j < keyAt xs (j + 1)) → keyAt xs i < keyAt xs (i + 1) from fun i hi hl hh => by
        by_cases e : i = j
        · subst e; exact hh
        · exact HJ.out i (by omega) hl)
      have HN := Lib.hid (show ¬ keyAt xs j < keyAt xs (j + 1) → riseB xs = false from fun hh => by
        unfold riseB
        rw [decide_eq_false_iff_not]
        exact fun h => hh (h j (by omega) (by omega)))
      generalize keyAt xs j = k0 at HQ h1 HJ1 HN
      generalize keyAt xs (j + 1) = k1 at HQ h2 HJ1 HN
      have hsub : IntKind.i64.wrap (((j + 1 : Nat) : Int) - 1) = (j : Int) := by rw [IntWalk.i64_in _ (by omega)]; omega
      have hsub2 : IntKind.i64.wrap (j : Int) = (j : Int) := IntWalk.i64_in _ (by omega)
      go_upto_region 4 with fail
      refine Z0a (R := Ext) (w0 := wr) [[], [], [1], [0, 1, 2], [0, 1, 2, 3], [0, 1, 2, 3, 4], [], [], [6, 7], [6, 7, 8], [6, 7, 8, 9], [0, 1, 2, 3, 4, 5, 6, 7, 8, 9, 10]] [10, 11, 12, 13, 14, 15, 16, 17, 18, 19, 20, 21] Ext.refl (fun _ _ _ => Ext.trans) (Ext.drew _) (by kernel_rfl) ?_
      apply Build.det 10 Ext.refl (by rfl) (by rfl) rfl
      case h =>
        intro ax wx hE hR hF
        have e0 : ax.eval (.tmp 0) = .slice (some ⟨b0, o0, none⟩) len cap := hE.eval 0 (by rfl) rfl
        simp [go_sem, ↓IntWalk.iteOmega, ev e0, hsub, hsub2]
        with_reducible rfl
      apply Build.det 11 Ext.refl (by rfl) (by rfl) rfl
      case h =>
        intro ax wx hE hR hF
        have e3 : ax.eval (.tmp 3) = .int .i64 ((j + 1 : Nat) : Int) := hE.eval 3 (by rfl) rfl
        simp [go_sem, ↓IntWalk.iteOmega, ev e3, hsub, hsub2]
        with_reducible rfl
      apply Build.det 12 Ext.refl (by rfl) (by rfl) rfl
      case h =>
        intro ax wx hE hR hF
        have e11 := hF 1 (det 11 _) (by decide) (.head _)
        simp [go_sem, ↓IntWalk.iteOmega, ev e11, hsub, hsub2]
        with_reducible rfl
      apply Build.det 13 Ext.refl (by rfl) (by rfl) rfl
      case h =>
        intro ax wx hE hR hF
        have e10 := hF 0 (det 10 _) (by decide) (.tail _ (.tail _ (.head _)))
        have e12 := hF 2 (det 12 _) (by decide) (.head _)
        simp [go_sem, ↓IntWalk.iteOmega, ev e10, ev e12, hsub, hsub2]
        with_reducible rfl
      apply Build.det 14 Ext.refl (by rfl) (by rfl) rfl
      case h =>
        intro ax wx hE hR hF
        have e13 := hF 3 (det 13 _) (by decide) (.head _)
        simp [go_sem, ↓IntWalk.iteOmega, ev e13, hsub, hsub2]
        with_reducible rfl
      apply Build.det 15 Ext.refl (by rfl) (by rfl) rfl
      case h =>
        intro ax wx hE hR hF
        have e14 := hF 4 (det 14 _) (by decide) (.head _)
        have q0 := (HQ.out _ hR).1; have q1 := (HQ.out _ hR).2
        simp [go_sem, ↓IntWalk.iteOmega, ev e14, hsub, hsub2, q0, q1]
        with_reducible rfl
      apply Build.det 16 Ext.refl (by rfl) (by rfl) rfl
      case h =>
        intro ax wx hE hR hF
        have e0 : ax.eval (.tmp 0) = .slice (some ⟨b0, o0, none⟩) len cap := hE.eval 0 (by rfl) rfl
        simp [go_sem, ↓IntWalk.iteOmega, ev e0, hsub, hsub2]
        with_reducible rfl
      apply Build.det 17 Ext.refl (by rfl) (by rfl) rfl
      case h =>
        intro ax wx hE hR hF
        have e3 : ax.eval (.tmp 3) = .int .i64 ((j + 1 : Nat) : Int) := hE.eval 3 (by rfl) rfl
        simp [go_sem, ↓IntWalk.iteOmega, ev e3, hsub, hsub2]
        with_reducible rfl
      apply Build.det 18 Ext.refl (by rfl) (by rfl) rfl
      case h =>
        intro ax wx hE hR hF
        have e16 := hF 6 (det 16 _) (by decide) (.tail _ (.head _))
        have e17 := hF 7 (det 17 _) (by decide) (.head _)
        simp [go_sem, ↓IntWalk.iteOmega, ev e16, ev e17, hsub, hsub2]
        with_reducible rfl
      apply Build.det 19 Ext.refl (by rfl) (by rfl) rfl
      case h =>
        intro ax wx hE hR hF
        have e18 := hF 8 (det 18 _) (by decide) (.head _)
        simp [go_sem, ↓IntWalk.iteOmega, ev e18, hsub, hsub2]
        with_reducible rfl
      apply Build.det 20 Ext.refl (by rfl) (by rfl) rfl
      case h =>
        intro ax wx hE hR hF
        have e19 := hF 9 (det 19 _) (by decide) (.head _)
        have q0 := (HQ.out _ hR).1; have q1 := (HQ.out _ hR).2
        simp [go_sem, ↓IntWalk.iteOmega, ev e19, hsub, hsub2, q0, q1]
        with_reducible rfl
      apply Build.det 21 Ext.refl (by rfl) (by rfl) rfl
      case h =>
        intro ax wx hE hR hF
        have e15 := hF 5 (det 15 _) (by decide) (.tail _ (.tail _ (.tail _ (.tail _ (.tail _ (.head _))))))
        have e20 := hF 10 (det 20 _) (by decide) (.head _)
        simp [go_sem, ↓IntWalk.iteOmega, ev e15, ev e20, hsub, hsub2]
        with_reducible rfl
      apply Build.stop
      refine ⟨by kernel_rfl, .inl ⟨rfl, ?_⟩⟩
      intro ax w2 hE R2 hF
      have e10 := hF 0 (det 10 _) (.tail _ (.tail _ (.tail _ (.tail _ (.tail _ (.tail _ (.tail _ (.tail _ (.tail _ (.tail _ (.tail _ (.head _))))))))))))
      have e11 := hF 1 (det 11 _) (.tail _ (.tail _ (.tail _ (.tail _ (.tail _ (.tail _ (.tail _ (.tail _ (.tail _ (.tail _ (.head _)))))))))))
      have e12 := hF 2 (det 12 _) (.tail _ (.tail _ (.tail _ (.tail _ (.tail _ (.tail _ (.tail _ (.tail _ (.tail _ (.head _))))))))))
      have e13 := hF 3 (det 13 _) (.tail _ (.tail _ (.tail _ (.tail _ (.tail _ (.tail _ (.tail _ (.tail _ (.head _)))))))))
      have e14 := hF 4 (det 14 _) (.tail _ (.tail _ (.tail _ (.tail _ (.tail _ (.tail _ (.tail _ (.head _))))))))
      have e15 := hF 5 (det 15 _) (.tail _ (.tail _ (.tail _ (.tail _ (.tail _ (.tail _ (.head _)))))))
      have e16 := hF 6 (det 16 _) (.tail _ (.tail _ (.tail _ (.tail _ (.tail _ (.head _))))))
      have e17 := hF 7 (det 17 _) (.tail _ (.tail _ (.tail _ (.tail _ (.head _)))))
      have e18 := hF 8 (det 18 _) (.tail _ (.tail _ (.tail _ (.head _))))
      have e19 := hF 9 (det 19 _) (.tail _ (.tail _ (.head _)))
      have e20 := hF 10 (det 20 _) (.tail _ (.head _))
      have e21 := hF 11 (det 21 _) (.head _)
      rw [AllEq.frame (D := [10, 11, 12, 13, 14, 15, 16, 17, 18, 19, 20, 21]) (AllEq.cons e10 (AllEq.cons e11 (AllEq.cons e12 (AllEq.cons e13 (AllEq.cons e14 (AllEq.cons e15 (AllEq.cons e16 (AllEq.cons e17 (AllEq.cons e18 (AllEq.cons e19 (AllEq.cons e20 (AllEq.cons e21 (AllEq.nil))))))))))))) hE rfl]
      clear hF hE e10 e11 e12 e13 e14 e15 e16 e17 e18 e19 e20 e21
      simp only [List.foldl_cons, List.foldl_nil, Act.put, List.setIfInBounds_toArray, List.set_cons_succ, List.set_cons_zero]

      have hE := hEx.trans R2
      by_cases hh : k0 < k1
      · have hd : decide (k1 ≤ k0) = false := by rw [decide_eq_false_iff_not]; omega
        have hd2 : decide ((k1 : Int) ≤ (k0 : Int)) = false := by rw [decide_eq_false_iff_not]; omega
        go_wp2_with fail
        go_roundw
        case rel => exact ⟨j + 1, by go_num, .inl (by omega), hE, fun i hi hl => HJ1.out i hi hl hh⟩
        case measure => simp [intOf]; omega
      · have hd : decide (k1 ≤ k0) = true := by rw [decide_eq_true_iff]; omega
        have hd2 : decide ((k1 : Int) ≤ (k0 : Int)) = true := by rw [decide_eq_true_iff]; omega
        go_wp2_with fail
        go_ret
        exact ⟨Z2n (HN.out hh).symm, hE⟩
    · have HR : Hid (riseB xs = true) := by
        show riseB xs = true
        unfold riseB
        rw [decide_eq_true_iff]
        exact fun i hi hl => HJ.out i (by omega) hl
      go_wp2_with fail
      go_ret
      exact ⟨Z2n HR.out.symm, hEx⟩
end Go.Proofs.Ytngehbhhpkkijaa

/- leaf: Find, Child. -/
namespace Go.Proofs.Ytngehbhhpkkijaa
set_option linter.unusedVariables false
set_option linter.unusedSimpArgs false
open Go.RowKit

theorem Z21 (x : Nat) (w : World) : Calls Try.prog 95 #[.int .u64 x] w fun e w' => e = .returned (.bool false) ∧ w = w' := by
  go_enter Try.func95, Try.ntmps95
  go_wp2_with fail
  go_ret
  exact ⟨rfl, rfl⟩
def cmpN (x y : Nat) : Int := if x < y then -1 else if y < x then 1 else 0
theorem Z5v (x y : Nat) (w : World) : Calls Try.prog 84 #[.int .u64 x, .int .u64 y] w fun e w' => e = .returned (.int .i64 (cmpN x y)) ∧ w = w' := by
  by_cases h1 : x < y
  · have e : cmpN x y = -1 := by unfold cmpN; rw [if_pos h1]
    rw [e]
    clear e
    go_enter Try.func84, Try.ntmps84
    go_wp2_with fail
    refine (Z21 x _).mono ?_
    rintro e w1 ⟨rfl, rfl⟩
    go_wp2_with fail
    refine (Z21 y _).mono ?_
    rintro e w1 ⟨rfl, rfl⟩
    go_wp2_with fail
    go_ret
    exact ⟨rfl, rfl⟩
  · by_cases h2 : y < x
    · have e : cmpN x y = 1 := by unfold cmpN; rw [if_neg h1, if_pos h2]
      rw [e]
      clear e
      go_enter Try.func84, Try.ntmps84
      go_wp2_with fail
      refine (Z21 x _).mono ?_
      rintro e w1 ⟨rfl, rfl⟩
      go_wp2_with fail
      refine (Z21 y _).mono ?_
      rintro e w1 ⟨rfl, rfl⟩
      go_wp2_with fail
      go_ret
      exact ⟨rfl, rfl⟩
    · have e : cmpN x y = 0 := by unfold cmpN; rw [if_neg h1, if_neg h2]
      rw [e]
      clear e
      go_enter Try.func84, Try.ntmps84
      go_wp2_with fail
      refine (Z21 x _).mono ?_
      rintro e w1 ⟨rfl, rfl⟩
      go_wp2_with fail
      refine (Z21 y _).mono ?_
      rintro e w1 ⟨rfl, rfl⟩
      go_wp2_with fail
      go_ret
      exact ⟨rfl, rfl⟩
theorem Z55 (x v y : Nat) (w : World) : Calls Try.prog 83 #[.agg #[.int .u64 x, .int .u64 v], .int .u64 y] w fun e w' => e = .returned (.int .i64 (cmpN x y)) ∧ Ext w w' := by
  have hE := Lib.hid (Ext.alloc w (.cells #[.int .u64 x, .int .u64 v] 38))
  go_enter Try.func83, Try.ntmps83
  go_wp2_with fail
  refine (Z5v x y _).mono ?_
  rintro e w1 ⟨rfl, rfl⟩
  go_wp2_with fail
  go_ret
  exact ⟨rfl, hE.out⟩
end Go.Proofs.Ytngehbhhpkkijaa

/- leaf: Find, Child. -/
namespace Go.Proofs.Ytngehbhhpkkijaa
set_option linter.unusedVariables false
set_option linter.unusedSimpArgs false
open Go.RowKit

set_option maxHeartbeats 2000000 in
theorem Z5x (A : Option Addr) (len cap : Nat) (xs : List (Nat × Nat)) (w : World) (hlen : xs.length = len) (hm : len ≤ 1000000) (hrow : Row w A 2 pairC xs) (key n : Nat) (hn : n ≤ len) (hb : ∀ i, i < n → keyAt xs i < key) (ha : ∀ i, n ≤ i → i < len → key ≤ keyAt xs i) :
    Calls Try.prog 82 #[.slice A len cap, .int .u64 key, .func (.func 83) #[] #[]] w fun e w' => e = .returned (.tuple #[.int .i64 n, .bool (decide (n < len ∧ keyAt xs n = key))]) ∧ Ext w w' := by
  have HB := Lib.hid hb
  have HA := Lib.hid ha
  clear hb ha
  go_enter Try.func82, Try.ntmps82
  go_wp2_with fail
  go_loopw [9, 10] (fun i j wr => ∃ (lo hi : Nat), i = .int .i64 lo ∧ j = .int .i64 hi ∧ lo ≤ n ∧ n ≤ hi ∧ hi ≤ len ∧ Ext w wr) (fun i j _ => (intOf j).toNat - (intOf i).toNat)
  case atStart => exact ⟨0, len, rfl, rfl, by omega, hn, by omega, Ext.refl _⟩
  case round =>
    obtain ⟨lo, hi, rfl, rfl, h1, h2, h3, hEx⟩ := hrel
    by_cases hlt : lo < hi
    · obtain ⟨m, hm2⟩ : ∃ m : Nat, (lo + hi) / 2 = m := ⟨_, rfl⟩
      have hm3 : lo ≤ m ∧ m < hi := by omega
      obtain ⟨b0, o0, rfl, hlt0, q0, q1⟩ := hrow.pair_in hEx (show m < xs.length by omega)
      have hM : ((lo : Int) + hi) / 2 = (m : Int) := by omega
      have hkm : keyAt xs m = xs[m].1 := by simp [keyAt, List.getD, show m < xs.length by omega]
      obtain ⟨c, hc⟩ : ∃ c : Int, cmpN xs[m].1 key = c := ⟨_, rfl⟩
      have HF := Lib.hid (fun W => hc ▸ Z55 xs[m].1 xs[m].2 key W)
      by_cases hmn : m < n
      · have hlt := HB.out m hmn
        have hc0 : decide (c < 0) = true := by rw [decide_eq_true_iff, ← hc]; unfold cmpN; rw [if_pos (by omega)]; decide
        have hc1 : c < 0 := by simpa using hc0
        clear hc hkm hlt
        go_wp2_with fail
        refine (HF.out _).mono ?_
        rintro e w2 ⟨rfl, R2⟩
        go_wp2_with fail
        go_roundw
        case rel => exact ⟨m + 1, hi, by go_num, rfl, by omega, h2, h3, hEx.trans R2⟩
        case measure => simp [intOf]; omega
      · have hge := HA.out m (by omega) (by omega)
        have hc0 : decide (c < 0) = false := by rw [decide_eq_false_iff_not, ← hc]; unfold cmpN; rw [if_neg (by omega)]; split <;> decide
        have hc1 : ¬ c < 0 := by simpa using hc0
        clear hc hkm hge
        go_wp2_with fail
        refine (HF.out _).mono ?_
        rintro e w2 ⟨rfl, R2⟩
        go_wp2_with fail
        go_roundw
        case rel => exact ⟨lo, m, rfl, rfl, h1, by omega, by omega, hEx.trans R2⟩
        case measure => simp [intOf]; omega
    · obtain rfl : n = lo := by omega
      obtain rfl : n = hi := by omega
      by_cases hnl : n < len
      · obtain ⟨b0, o0, rfl, hlt0, q0, q1⟩ := hrow.pair_in hEx (show n < xs.length by omega)
        have hkn : keyAt xs n = xs[n].1 := by simp [keyAt, List.getD, show n < xs.length by omega]
        obtain ⟨c, hc⟩ : ∃ c : Int, cmpN xs[n].1 key = c := ⟨_, rfl⟩
        have HF := Lib.hid (fun W => hc ▸ Z55 xs[n].1 xs[n].2 key W)
        have HC := Lib.hid (show (c == 0) = decide (n < len ∧ keyAt xs n = key) by
          rw [Bool.eq_iff_iff, beq_iff_eq, decide_eq_true_iff, ← hc, hkn]
          unfold cmpN
          constructor
          · intro h
            refine ⟨hnl, ?_⟩
            split at h
            · cases h
            · split at h
              · cases h
              · omega
          · intro h
            rw [if_neg (by omega), if_neg (by omega)])
        clear hc hkn
        go_wp2_with fail
        refine (HF.out _).mono ?_
        rintro e w2 ⟨rfl, R2⟩
        go_wp2_with fail
        go_ret2
        exact ⟨by rw [← HC.out]; rfl, hEx.trans R2⟩
      · have HC := Lib.hid (show false = decide (n < len ∧ keyAt xs n = key) from (decide_eq_false (fun h => hnl h.1)).symm)
        go_wp2_with fail
        go_ret2
        exact ⟨by rw [← HC.out]; rfl, hEx⟩
end Go.Proofs.Ytngehbhhpkkijaa

/- leaf: Find, Child. -/
namespace Go.Proofs.Ytngehbhhpkkijaa
set_option linter.unusedVariables false
set_option linter.unusedSimpArgs false
open Go.RowKit

theorem Row.ext {E : Type} {w w' : World} {A : Option Addr} {c : Nat} {enc : E → List Value} {xs : List E} (h : Row w A c enc xs) (hb : Ext w w') : Row w' A c enc xs := h.below hb
/-- The place that a key has. -/
structure Place (xs : List (Nat × Nat)) (key n : Nat) : Prop where
  le : n ≤ xs.length
  below : ∀ i, i < n → keyAt xs i < key
  above : ∀ i, n ≤ i → i < xs.length → key ≤ keyAt xs i
theorem Z32 (lv : Int) (A : Option Addr) (len cap : Nat) (xs : List (Nat × Nat)) (w : World) (hlen : xs.length = len) (hm : len ≤ 1000000) (hrow : Row w A 2 pairC xs) (key n : Nat) (hp : Place xs key n) :
    Calls Try.prog 59 #[.agg #[.int .i64 lv, .slice A len cap], .int .u64 key] w fun e w' => e = .returned (.tuple #[.int .i64 n, .bool (decide (n < len ∧ keyAt xs n = key))]) ∧ Ext w w' := by
  have hE := Ext.alloc w (.cells #[.int .i64 lv, .slice A len cap] 125)
  have HC := Lib.hid (Z5x A len cap xs (w.alloc (.cells #[.int .i64 lv, .slice A len cap] 125)) hlen hm (hrow.ext hE) key n (by have := hp.le; omega) hp.below (fun i h1 h2 => hp.above i h1 (by omega)))
  have HE := Lib.hid hE
  generalize decide (n < len ∧ keyAt xs n = key) = B at HC ⊢
  clear hE hp hrow
  go_enter Try.func59, Try.ntmps59
  go_wp2_with fail
  refine HC.out.mono ?_
  rintro e w2 ⟨rfl, R2⟩
  have HR := Lib.hid (HE.out.trans R2)
  clear R2 HC
  go_wp2_with fail
  go_ret2
  exact ⟨rfl, HR.out⟩
theorem Z5a (lv : Int) (A : Option Addr) (len cap : Nat) (xs : List (Nat × Nat)) (w : World) (hlen : xs.length = len) (hm : len ≤ 1000000) (hrow : Row w A 2 pairC xs) (key n : Nat) (hp : Place xs key n) :
    Calls Try.prog 60 #[.agg #[.int .i64 lv, .slice A len cap], .int .u64 key] w fun e w' => e = .returned (.int .i64 (if n < len ∧ keyAt xs n = key then (n : Int) else (n : Int) - 1)) ∧ Ext w w' := by
  have hE := Ext.alloc w (.cells #[.int .i64 lv, .slice A len cap] 125)
  have HC := Lib.hid (Z32 lv A len cap xs (w.alloc (.cells #[.int .i64 lv, .slice A len cap] 125)) hlen hm (hrow.ext hE) key n hp)
  have HE := Lib.hid hE
  have hn : n ≤ 1000000 := by have := hp.le; omega
  have hi : (if n < len ∧ keyAt xs n = key then (n : Int) else (n : Int) - 1) = if decide (n < len ∧ keyAt xs n = key) = true then (n : Int) else (n : Int) - 1 := by simp only [decide_eq_true_iff]
  rw [hi]
  generalize decide (n < len ∧ keyAt xs n = key) = B at HC ⊢
  clear hE hp hrow hi
  cases B
  · go_enter Try.func60, Try.ntmps60
    go_wp2_with fail
    refine HC.out.mono ?_
    rintro e w2 ⟨rfl, R2⟩
    have HR := Lib.hid (HE.out.trans R2)
    clear R2 HC
    go_wp2_with fail
    go_ret
    exact ⟨rfl, HR.out⟩
  · go_enter Try.func60, Try.ntmps60
    go_wp2_with fail
    refine HC.out.mono ?_
    rintro e w2 ⟨rfl, R2⟩
    have HR := Lib.hid (HE.out.trans R2)
    clear R2 HC
    go_wp2_with fail
    go_ret
    exact ⟨rfl, HR.out⟩
end Go.Proofs.Ytngehbhhpkkijaa
