/- trees' law: TreeShares (printed by XTrSh.gen.py). -/
import Derived.Test.YtngehbhhpkkijaaKMapsExact35
namespace Go.Proofs.Ytngehbhhpkkijaa
attribute [local simp] BigFrame.eval_const BigFrame.eval_global BigFrame.eval_func
set_option linter.unusedVariables false
set_option linter.unusedSimpArgs false
open Go.RowKit Go.Maps


theorem elemI8 : ElemI Try.prog 51 3 1 8 := ⟨Try.underlying51, by
 have h : (Try.prog.info? 3).map (fun i => (i.zero, i.size, i.bytes)) = some (some (.int .i64 0), 1, 8) := by kernel_rfl
 obtain ⟨i, h1, h2, h3, h4⟩ := info_parts h
 exact ⟨i, _, h1, h2, h3, h4, rfl⟩⟩
/-- A cell of a row of one-cell elements. -/
theorem row1_at {w : World} {T : TypeId} {B : Option Addr} {n c z : Nat} {xs : List Value} {v : Value} (h : w.ownsRow 0 T 1 (.slice B n c) n xs) (hz : xs[z]? = some v) (hzn : z < n) : ∃ g, B = some ⟨g, 0, none⟩ ∧ w.cell? ⟨g, z, none⟩ = some v := by
 obtain ⟨g, cap', cur, e, hb, _, _, _, h5⟩ := Z13 h (by omega)
 injection e with e1
 subst e1
 refine ⟨g, rfl, ?_⟩
 rw [hb.cell, ← hz, ← h5, Nat.mul_one, List.getElem?_take_of_lt hzn]
 simp
def ints (l : List Nat) : List Value := l.map fun (x : Nat) => Value.int .i64 (x : Int)
theorem ints_app (l : List Nat) (x : Nat) : ints (l ++ [x]) = ints l ++ [Value.int .i64 (x : Int)] := by simp [ints]
/-- Trees on the way. -/
def Past (N : List Nd) (rts : List Nat) (Qs : List Nd) : Prop := rts.length = Qs.length ∧ ∀ (j : Nat) r q, rts[j]? = some r → Qs[j]? = some q → Tre N r 100 q.2
theorem Past.mono {N : List Nd} {rts : List Nat} {Qs : List Nd} (h : Past N rts Qs) (M : List Nd) : Past (N ++ M) rts Qs := ⟨h.1, fun j r q h1 h2 => (h.2 j r q h1 h2).mono M⟩
theorem Past.add {N : List Nd} {rts : List Nat} {Qs : List Nd} {r : Nat} {P : List Pr} (h : Past N rts Qs) (hT : Tre N r 100 P) : Past N (rts ++ [r]) (Qs ++ [(0, P)]) := by
 refine ⟨by rw [List.length_append, List.length_append, h.1]; rfl, fun j r' q h1 h2 => ?_⟩
 by_cases hj : j < rts.length
 · rw [List.getElem?_append_left hj] at h1
   rw [List.getElem?_append_left (by rw [← h.1]; exact hj)] at h2
   exact h.2 j r' q h1 h2
 · rw [List.getElem?_append_right (by omega)] at h1
   rw [List.getElem?_append_right (by rw [← h.1]; omega)] at h2
   have e : j - rts.length = 0 := by have := (List.getElem?_eq_some_iff.1 h1).1; simpa using this
   rw [e] at h1
   rw [← h.1, e] at h2
   obtain rfl : r = r' := by simpa using h1
   obtain rfl : (0, P) = q := by simpa using h2
   exact hT

end Go.Proofs.Ytngehbhhpkkijaa
