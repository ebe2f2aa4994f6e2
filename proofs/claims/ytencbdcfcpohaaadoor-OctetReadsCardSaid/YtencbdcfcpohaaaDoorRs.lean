/- A reader of one's own. -/
import Derived.Test.YtencbdcfcpohaaaDoorGet
namespace Go.Proofs.YtencbdcfcpohaaaDoor
set_option linter.unusedVariables false
set_option linter.unusedSimpArgs false
open Go.RowKit

/-- The reader's states: what is left, and whether there were too few bytes. -/
structure Rs (A : World) (b : Nat) (st : List UInt8 × Bool) (w : World) : Prop where
  blk : Blk w b 86 (rdr ⟨st.1.toArray⟩ st.2)
  below : Below b A w
theorem Rs.size {A w : World} {b : Nat} {st : List UInt8 × Bool} (h : Rs A b st w) : b < w.heap.size := h.blk.lt
theorem Rs.call {A w w' : World} {b : Nat} {st : List UInt8 × Bool} (h : Rs A b st w) (hb : Below w.heap.size w w') : Rs A b st w' :=
  ⟨h.blk.below hb h.size, h.below.trans (hb.mono (Nat.le_of_lt h.size))⟩
theorem Rs.alloc {A w : World} {b : Nat} {st : List UInt8 × Bool} (h : Rs A b st w) (o : Obj) : Rs A b st (w.alloc o) := ⟨h.blk.alloc o, h.below.alloc (Nat.le_of_lt h.size) o⟩
theorem Rs.set_ {A w : World} {b : Nat} {st : List UInt8 × Bool} (h : Rs A b st w) {p : Addr} (u : Value) (hp : b < p.block) : Rs A b st (w.setCell p u) := ⟨h.blk.far (by omega) u, h.below.setCell (by omega) u⟩
theorem rs_of (s : ByteArray) (w : World) : Calls Tryd.prog 17 #[.string s] w fun e w' => e = .returned (.pointer (some ⟨w.heap.size, 0, none⟩)) ∧ Rs w w.heap.size (s.data.toList, false) w' := by
  refine (of_any s w).mono ?_
  rintro e w' ⟨rfl, hU⟩
  refine ⟨rfl, by simpa using hU.blk, ?_⟩
  have := hU.grown
  exact ⟨this.os, this.tape, this.output, this.size, fun i hi => this.block i hi (by simp; omega)⟩
/-- A number is read; of other blocks none turns. -/
theorem rs_get {A : World} {b : Nat} {st : List UInt8 × Bool} {w : World} (h : Rs A b st w) (k : Nat) (h1 : 1 ≤ k) (h8 : k ≤ 8) (hs : st.1.length ≤ 1000000) :
    Calls Tryd.prog 18 #[.pointer (some ⟨b, 0, none⟩), .int .i64 k] w fun e w' => e = .returned (.int .u64 (getN st k).1) ∧ Rs A b (getN st k).2 w' ∧ (∀ x t cs, x ≠ b → Blk w x t cs → Blk w' x t cs) ∧ w.heap.size ≤ w'.heap.size := by
  refine (get_any b st k w h1 h8 h.blk hs).mono ?_
  rintro e w' ⟨rfl, hU⟩
  refine ⟨rfl, ⟨hU.blk, ?_⟩, fun x t cs hx hl => hl.grown hU.grown (by simpa using hx), hU.grown.size⟩
  exact h.below.grown hU.grown (Nat.le_of_lt h.size) (fun k e => by injection e with e; omega)
theorem rs_end_yes {A : World} {b : Nat} {w : World} (h : Rs A b ([], false) w) :
    Calls Tryd.prog 24 #[.pointer (some ⟨b, 0, none⟩)] w fun e w' => e = .returned (.int .i64 0) ∧ w = w' :=
  end_yes b _ w h.blk rfl
theorem rs_end_no {A : World} {b : Nat} {st : List UInt8 × Bool} {w : World} (h : Rs A b st w) (h0 : st ≠ ([], false)) :
    Calls Tryd.prog 24 #[.pointer (some ⟨b, 0, none⟩)] w fun e w' => e = .returned (.int .i64 3) ∧ w = w' := by
  refine end_no b _ _ w h.blk (fun hs he => h0 ?_)
  have : st.1.toArray.size = 0 := he
  rw [List.size_toArray] at this
  exact Prod.ext (List.eq_nil_of_length_eq_zero this) hs
end Go.Proofs.YtencbdcfcpohaaaDoor
