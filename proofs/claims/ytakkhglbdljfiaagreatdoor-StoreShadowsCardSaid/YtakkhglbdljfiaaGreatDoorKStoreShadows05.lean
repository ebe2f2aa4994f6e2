/- The walks of package mains: each method on a block that holds its four fields. -/
import Derived.Test.YtakkhglbdljfiaaGreatDoorKStoreShadows00
import Derived.Maps.RangeWalk
import Derived.Maps.Ext
import Derived.Lib.SlMapFilter
import Derived.ProofKit
import Derived.OpenShut
import Derived.ChangeOld
import Derived.Deep.Fields
namespace Go.Proofs.YtakkhglbdljfiaaGreatDoor
set_option linter.unusedVariables false
set_option linter.unusedSimpArgs false
open Go.RowKit

def mains (away : Bool) (fuse lives uses : Int) : Array Value := #[.bool away, .int .i64 fuse, .int .i64 lives, .int .i64 uses]

theorem Z2u {w : World} {g : Nat} {away : Bool} {fuse lives uses : Int} (h : Blk w g 86 (mains away fuse lives uses)) :
    w.cell? ⟨g, 0, none⟩ = some (.bool away) ∧ w.cell? ⟨g, 1, none⟩ = some (.int .i64 fuse) ∧ w.cell? ⟨g, 2, none⟩ = some (.int .i64 lives) ∧ w.cell? ⟨g, 3, none⟩ = some (.int .i64 uses) ∧
    w.frozen? ⟨g, 0, none⟩ = false ∧ w.frozen? ⟨g, 1, none⟩ = false ∧ w.frozen? ⟨g, 2, none⟩ = false ∧ w.frozen? ⟨g, 3, none⟩ = false :=
  ⟨h.cell 0, h.cell 1, h.cell 2, h.cell 3, h.frozen 0, h.frozen 1, h.frozen 2, h.frozen 3⟩

set_option maxHeartbeats 400000 in
theorem new_any (w : World) : Calls Tryz.prog 8 #[] w fun e w' => e = .returned (.pointer (some ⟨w.heap.size, 0, none⟩)) ∧ Upd w w.heap.size 86 (mains false (-1) 1 0) w' := by
  go_enter Tryz.func8, Tryz.ntmps8
  go_wp2
  go_ret
  exact ⟨rfl, Blk.new _ _ _, Z3k (World.grownBy.refl w _) _⟩

set_option maxHeartbeats 400000 in
theorem use_ok (g : Nat) (fuse lives uses : Int) (w : World) (h : Blk w g 86 (mains false fuse lives uses)) (hf : fuse ≠ 0) (h0 : -1 ≤ fuse) (h1 : fuse ≤ 9223372036854775807) (h2 : 0 ≤ uses) (h3 : uses ≤ 1000000000000000000) :
    Calls Tryz.prog 80 #[.pointer (some ⟨g, 0, none⟩)] w fun e w' => e = .returned (.int .i64 0) ∧ Upd w g 86 (mains false (max (fuse - 1) (-1)) lives (uses + 1)) w' := by
  obtain ⟨c0, c1, c2, c3, f0, f1, f2, f3⟩ := Z2u h
  have hz : ((fuse : Int) == 0) = false := by simp [hf]
  have H := Lib.hid h
  clear h
  go_enter Tryz.func80, Tryz.ntmps80
  go_wp2
  all_goals
    go_ret
    refine ⟨rfl, ?_⟩
    have K := (((Upd.refl H.out).set 0 (.bool false)).set 1 (.int .i64 (max (fuse - 1) (-1)))).set 3 (.int .i64 (uses + 1))
  · rw [show max (fuse - 1) (-1) = -1 by omega] at K ⊢; exact K
  · rw [show max (fuse - 1) (-1) = fuse - 1 by omega] at K ⊢; exact K

/-- A use of what is away, or whose fuse is out. -/
theorem use_down (g : Nat) (away : Bool) (fuse lives uses : Int) (w : World) (h : Blk w g 86 (mains away fuse lives uses)) (hf : (away || fuse == 0) = true) :
    Calls Tryz.prog 80 #[.pointer (some ⟨g, 0, none⟩)] w fun e w' => e = .returned (.int .i64 4) ∧ Upd w g 86 (mains true fuse lives uses) w' := by
  obtain ⟨c0, c1, c2, c3, f0, f1, f2, f3⟩ := Z2u h
  have H := Lib.hid h
  clear h
  cases away
  · have hz : ((fuse : Int) == 0) = true := by simpa using hf
    clear hf
    go_enter Tryz.func80, Tryz.ntmps80
    go_wp2
    go_ret
    exact ⟨rfl, (Upd.refl H.out).set 0 (.bool true)⟩
  · clear hf
    go_enter Tryz.func80, Tryz.ntmps80
    go_wp2
    go_ret
    exact ⟨rfl, (Upd.refl H.out).set 0 (.bool true)⟩

theorem on_any (g : Nat) (away : Bool) (fuse lives uses : Int) (w : World) (h : Blk w g 86 (mains away fuse lives uses)) :
    Calls Tryz.prog 63 #[.pointer (some ⟨g, 0, none⟩)] w fun e w' => e = .returned (.bool !away) ∧ w = w' := by
  obtain ⟨c0, c1, c2, c3, f0, f1, f2, f3⟩ := Z2u h
  clear h
  go_enter Tryz.func63, Tryz.ntmps63
  go_wp2
  go_ret
  exact ⟨rfl, rfl⟩

end Go.Proofs.YtakkhglbdljfiaaGreatDoor

/- Maps: a store at a key that is there, in the round of a range over that very map; what is left behind maps.DeleteFunc. No program in sight. -/
namespace Go.Proofs.YtakkhglbdljfiaaGreatDoor
set_option linter.unusedVariables false
set_option linter.unusedSimpArgs false
open Go.RowKit Go.Maps Go.ChangeMaps Go.MapKept Go.WideShapes
open Go.WideElems (Fit rd rg pl rd_key rd_val rg_of rd_mk other_key)

section
variable {H : Type} {P : Program} {k : TypeId} {R : Value → Option (DataW H × List MemPlace)} {w : World} {b r n : Nat} {D : DataW H} {left : Lit → Bool} {cnt : Nat}

theorem has_mem {es : List (Lit × DataW H)} {kl : Lit} (h : Maps.has (.map es) kl = true) : ∃ d, (kl, d) ∈ es := by
  obtain ⟨p, hp, hs⟩ := List.any_eq_true.1 h
  have := WideAt.sameKey_eq hs
  exact ⟨p.2, by rw [← this]; exact hp⟩
end
end Go.Proofs.YtakkhglbdljfiaaGreatDoor

/- What an argument that can be read as data looks like, by its type: lemmas that open an argument. No function of the program in sight. -/
namespace Go.Proofs.YtakkhglbdljfiaaGreatDoor
set_option linter.unusedVariables false
set_option linter.unusedSimpArgs false
open Go.RowKit Go.ChangeShapes Go.WideShapes Go.ChangeAt

/-- These cells read as a value of type t. -/
def Fit (P : Program) (w : World) (t : TypeId) (cs : List Value) : Prop :=
  ∃ (H : Type) (enc : TypeId × Value → H) (fuel : Nat) (x : DataW H × List MemPlace), DataW.trod enc P w 0 (fun _ => true) true fuel t cs = some x

/-- An argument of type t. -/
def Arg (P : Program) (w : World) (t : TypeId) (v : Value) : Prop := Fit P w t v.cells.toList ∧ ∃ r base, Value.okWide P w r base t v

section
variable {P : Program} {w : World} {t : TypeId} {cs : List Value} {v : Value}
theorem fit_bool (ht : P.underlying t = some .bool) (h : Fit P w t cs) : ∃ b, cs = [.bool b] := by
  obtain ⟨H, enc, fuel, x, h⟩ := h
  obtain ⟨b, h1, _⟩ := DataW.trod_bool ht h
  exact ⟨b, h1⟩
theorem fit_int {k : IntKind} (ht : P.underlying t = some (.int k)) (h : Fit P w t cs) : ∃ n, cs = [.int k n] ∧ (Lit.int k n).wf = true := by
  obtain ⟨H, enc, fuel, x, h⟩ := h
  obtain ⟨n, h1, _, h2⟩ := DataW.trod_int ht h
  exact ⟨n, h1, h2⟩
/-- A slice: its elements lie from an address on, c cells each. -/
theorem fit_slice {e : TypeId} {c : Nat} (ht : P.underlying t = some (.slice e)) (hc : P.cellsOf e = c) (h : Fit P w t cs) :
    ∃ A len cap, cs = [.slice A len cap] ∧ len ≤ cap ∧ cap ≤ maxLen ∧ (A = none → len = 0) ∧
      (∀ ad, A = some ad → ∀ i, i < len → ∃ cs', cs'.length = c ∧ (∀ j, j < c → w.cell? ((ad.add (i * c)).add j) = cs'[j]?) ∧ Fit P w e cs') := by
  obtain ⟨H, enc, fuel, x, h⟩ := h
  rcases DataW.trod_slice ht h with ⟨rfl, _⟩ | ⟨a, len, cap, elems, rest, n, _, rfl, _, _, hl, hm, hlen, hel, _, _⟩
  · exact ⟨none, 0, 0, rfl, Nat.le_refl _, by decide, fun _ => rfl, fun ad e => by cases e⟩
  · refine ⟨some a, len, cap, rfl, hl, hm, (fun e => by cases e), fun ad e i hi => ?_⟩
    injection e with e
    subst e
    have := hel i hi
    rw [List.getElem?_eq_getElem (by omega)] at this
    obtain ⟨cs', h1, h2⟩ := Option.bind_eq_some_iff.1 this
    obtain ⟨_, h3, h4⟩ := World.cells?_some h1
    subst hc
    exact ⟨cs', h3, h4, H, enc, n, _, h2⟩

theorem arg_int {k : IntKind} (ht : P.underlying t = some (.int k)) (h : Arg P w t v) : ∃ n, v = .int k n ∧ (Lit.int k n).wf = true := by
  obtain ⟨hf, r, base, hv⟩ := h
  obtain ⟨n, rfl⟩ := okWide_int ht hv
  obtain ⟨m, h1, h2⟩ := fit_int ht hf
  simp [Value.cells] at h1
  subst h1
  exact ⟨n, rfl, h2⟩
theorem arg_slice {e : TypeId} (ht : P.underlying t = some (.slice e)) (h : Arg P w t v) : Fit P w t [v] := by
  obtain ⟨hf, r, base, hv⟩ := h
  obtain ⟨a, len, cap, rfl⟩ := okWide_slice ht hv
  exact hf
end

/-! ### Slices as lists of data: 'Row': element i lies at 'off + i * c', its cells are 'enc x'; 'Row1': elements of one cell. -/
theorem cell_lt {w : World} {a : Addr} {v : Value} (h : w.cell? a = some v) : a.block < w.heap.size := by
  rcases Nat.lt_or_ge a.block w.heap.size with hlt | hge
  · exact hlt
  · have e : w.heap[a.block]? = none := by simp [hge]
    simp [World.cell?, e] at h

def Row {E : Type} (w : World) (A : Option Addr) (c : Nat) (enc : E → List Value) (xs : List E) : Prop :=
  ∀ i x, xs[i]? = some x → ∃ b off, A = some ⟨b, off, none⟩ ∧ b < w.heap.size ∧ ∀ j u, (enc x)[j]? = some u → w.cell? ⟨b, off + i * c + j, none⟩ = some u
def Row1 {E : Type} (w : World) (A : Option Addr) (enc : E → Value) (xs : List E) : Prop :=
  ∀ i x, xs[i]? = some x → ∃ b off, A = some ⟨b, off, none⟩ ∧ b < w.heap.size ∧ w.cell? ⟨b, off + i, none⟩ = some (enc x)

theorem Row.below {E : Type} {w w' : World} {A : Option Addr} {c : Nat} {enc : E → List Value} {xs : List E} (h : Row w A c enc xs) (hb : Below w.heap.size w w') : Row w' A c enc xs := by
  intro i x hx
  obtain ⟨b, off, hA, hlt, hc⟩ := h i x hx
  exact ⟨b, off, hA, Nat.lt_of_lt_of_le hlt hb.size, fun j u hu => (hb.cell (p := ⟨b, _, none⟩) hlt).trans (hc j u hu)⟩
theorem Row1.below {E : Type} {w w' : World} {A : Option Addr} {enc : E → Value} {xs : List E} (h : Row1 w A enc xs) (hb : Below w.heap.size w w') : Row1 w' A enc xs := by
  intro i x hx
  obtain ⟨b, off, hA, hlt, hc⟩ := h i x hx
  exact ⟨b, off, hA, Nat.lt_of_lt_of_le hlt hb.size, (hb.cell (p := ⟨b, _, none⟩) hlt).trans hc⟩
theorem Row1.at_ {E : Type} {w : World} {A : Option Addr} {enc : E → Value} {xs : List E} (h : Row1 w A enc xs) {i : Nat} (hi : i < xs.length) : ∃ b off, A = some ⟨b, off, none⟩ ∧ b < w.heap.size ∧ w.cell? ⟨b, off + i, none⟩ = some (enc xs[i]) :=
  h i _ (List.getElem?_eq_getElem hi)
theorem Row.at_ {E : Type} {w : World} {A : Option Addr} {c : Nat} {enc : E → List Value} {xs : List E} (h : Row w A c enc xs) {i : Nat} (hi : i < xs.length) : ∃ b off, A = some ⟨b, off, none⟩ ∧ b < w.heap.size ∧ ∀ j u, (enc xs[i])[j]? = some u → w.cell? ⟨b, off + i * c + j, none⟩ = some u :=
  h i _ (List.getElem?_eq_getElem hi)

/-- An element in a later world. -/
theorem Row1.in_ {E : Type} {w w' : World} {A : Option Addr} {enc : E → Value} {xs : List E} (h : Row1 w A enc xs) (hb : Below w.heap.size w w') {i : Nat} (hi : i < xs.length) : ∃ b off, A = some ⟨b, off, none⟩ ∧ b < w.heap.size ∧ w'.cell? ⟨b, off + i, none⟩ = some (enc xs[i]) := by
  obtain ⟨b, off, hA, hlt, hc⟩ := h.at_ hi
  exact ⟨b, off, hA, hlt, (hb.cell (p := ⟨b, _, none⟩) hlt).trans hc⟩
theorem Row.in_ {E : Type} {w w' : World} {A : Option Addr} {c : Nat} {enc : E → List Value} {xs : List E} (h : Row w A c enc xs) (hb : Below w.heap.size w w') {i : Nat} (hi : i < xs.length) : ∃ b off, A = some ⟨b, off, none⟩ ∧ b < w.heap.size ∧ ∀ j u, (enc xs[i])[j]? = some u → w'.cell? ⟨b, off + i * c + j, none⟩ = some u := by
  obtain ⟨b, off, hA, hlt, hc⟩ := h.at_ hi
  exact ⟨b, off, hA, hlt, fun j u hu => (hb.cell (p := ⟨b, _, none⟩) hlt).trans (hc j u hu)⟩

theorem list_of {E : Type} (n : Nat) (p : Nat → E → Prop) (h : ∀ i, i < n → ∃ x, p i x) : ∃ xs : List E, xs.length = n ∧ ∀ i x, xs[i]? = some x → p i x := by
  induction n with
  | zero => exact ⟨[], rfl, fun i x hx => by simp at hx⟩
  | succ n ih =>
    obtain ⟨xs, hl, hp⟩ := ih (fun i hi => h i (by omega))
    obtain ⟨x, hx⟩ := h n (by omega)
    refine ⟨xs ++ [x], by simp [hl], fun i y hy => ?_⟩
    by_cases hi : i < n
    · rw [List.getElem?_append_left (by omega)] at hy
      exact hp i y hy
    · have : i = n := by
        have := (List.getElem?_eq_some_iff.1 hy).1
        simp at this
        omega
      subst this
      rw [List.getElem?_append_right (by omega)] at hy
      simp [hl] at hy
      subst hy
      exact hx

section
variable {P : Program} {w : World} {t e : TypeId} {v : Value} {E : Type}
theorem fit_row {c : Nat} (enc : E → List Value) (good : E → Prop) (ht : P.underlying t = some (.slice e)) (hc : P.cellsOf e = c) (hpos : 0 < c)
    (hE : ∀ cs', cs'.length = c → Fit P w e cs' → ∃ x, cs' = enc x ∧ good x) (h : Fit P w t [v]) :
    ∃ A len cap, ∃ xs : List E, v = .slice A len cap ∧ len ≤ cap ∧ cap ≤ maxLen ∧ xs.length = len ∧ (∀ x ∈ xs, good x) ∧ Row w A c enc xs := by
  obtain ⟨A, len, cap, hv, hl, hm, hn, hr⟩ := fit_slice ht hc h
  injection hv with hv _
  subst hv
  rcases A with _ | ad
  · obtain rfl := hn rfl
    exact ⟨none, 0, cap, [], rfl, hl, hm, rfl, (fun x hx => by simp at hx), fun i x hx => by simp at hx⟩
  · obtain ⟨xs, hlen, hp⟩ := list_of len (fun i x => (∀ j, j < c → w.cell? ((ad.add (i * c)).add j) = (enc x)[j]?) ∧ (enc x).length = c ∧ good x) (fun i hi => by
      obtain ⟨cs', h1, h2, h3⟩ := hr ad rfl i hi
      obtain ⟨x, rfl, hg⟩ := hE cs' h1 h3
      exact ⟨x, h2, h1, hg⟩)
    refine ⟨some ad, len, cap, xs, rfl, hl, hm, hlen, (fun x hx => ?_), fun i x hx => ?_⟩
    · obtain ⟨i, hi, rfl⟩ := List.getElem_of_mem hx
      exact (hp i _ (List.getElem?_eq_getElem hi)).2.2
    · have hi : i < len := by have := (List.getElem?_eq_some_iff.1 hx).1; omega
      obtain ⟨h0, _, _⟩ := hp 0 _ (List.getElem?_eq_getElem (by omega))
      obtain ⟨h2, h1, _⟩ := hp i x hx
      have q0 := h0 0 hpos
      obtain ⟨_, h1', _⟩ := hp 0 _ (List.getElem?_eq_getElem (by omega))
      rw [List.getElem?_eq_getElem (by omega)] at q0
      have hs := World.cell?_spot q0
      simp [Addr.add] at hs
      obtain ⟨b, off, spot⟩ := ad
      simp at hs
      subst hs
      refine ⟨b, off, rfl, ?_, fun j u hu => ?_⟩
      · have := cell_lt q0
        simpa [Addr.add] using this
      · have hj : j < c := by have := (List.getElem?_eq_some_iff.1 hu).1; omega
        have := h2 j hj
        rw [hu] at this
        rw [← this]
        congr 1
        unfold Addr.add
        by_cases k1 : i * c = 0 <;> by_cases k2 : j = 0 <;> simp [k1, k2, Nat.add_assoc]

theorem fit_row1 (enc : E → Value) (good : E → Prop) (ht : P.underlying t = some (.slice e)) (hc : P.cellsOf e = 1)
    (hE : ∀ cs', Fit P w e cs' → ∃ x, cs' = [enc x] ∧ good x) (h : Fit P w t [v]) :
    ∃ A len cap, ∃ xs : List E, v = .slice A len cap ∧ len ≤ cap ∧ cap ≤ maxLen ∧ xs.length = len ∧ (∀ x ∈ xs, good x) ∧ Row1 w A enc xs := by
  obtain ⟨A, len, cap, xs, h1, h2, h3, h4, h5, h6⟩ := fit_row (fun x => [enc x]) good ht hc (by omega) (fun cs' _ hf => hE cs' hf) h
  refine ⟨A, len, cap, xs, h1, h2, h3, h4, h5, fun i x hx => ?_⟩
  obtain ⟨b, off, hA, hb, hj⟩ := h6 i x hx
  exact ⟨b, off, hA, hb, by simpa using hj 0 _ rfl⟩

theorem arg_bools (ht : P.underlying t = some (.slice e)) (he : P.underlying e = some .bool) (hc : P.cellsOf e = 1) (h : Arg P w t v) :
    ∃ A len cap, ∃ xs : List Bool, v = .slice A len cap ∧ len ≤ cap ∧ cap ≤ maxLen ∧ xs.length = len ∧ Row1 w A Value.bool xs := by
  obtain ⟨A, len, cap, xs, h1, h2, h3, h4, _, h5⟩ := fit_row1 (E := Bool) Value.bool (fun _ => True) ht hc (fun _ hf => by obtain ⟨b, hb⟩ := fit_bool he hf; exact ⟨b, hb, trivial⟩) (arg_slice ht h)
  exact ⟨A, len, cap, xs, h1, h2, h3, h4, h5⟩
end
end Go.Proofs.YtakkhglbdljfiaaGreatDoor

/- Structs by value as arguments: a struct of one-cell fields; short lists by their elements. -/
namespace Go.Proofs.YtakkhglbdljfiaaGreatDoor
set_option linter.unusedVariables false
set_option linter.unusedSimpArgs false
open Go.RowKit Go.ChangeShapes Go.WideShapes Go.ChangeAt Go.Deep

section
variable {P : Program} {w : World} {t : TypeId} {cs : List Value}
end
end Go.Proofs.YtakkhglbdljfiaaGreatDoor
