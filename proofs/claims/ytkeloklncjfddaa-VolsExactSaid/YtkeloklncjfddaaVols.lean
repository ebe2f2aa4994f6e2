/- The walks of package vols (Good, key, Pair, Read) and of their reference. -/
import Derived.Test.YtkeloklncjfddaaMem
namespace Go.Proofs.Ytkeloklncjfddaa
set_option linter.unusedVariables false
set_option linter.unusedSimpArgs false
open Go.RowKit

/-- Whether a volume can be. -/
def volB (i s r f : Int) : Bool := decide (1 ≤ i ∧ i ≤ 16 ∧ 0 ≤ s ∧ s ≤ 64 ∧ 0 ≤ r ∧ r ≤ 511 ∧ 0 ≤ f ∧ f ≤ 16)
abbrev volV (i s r : Int) (p : Bool) (f : Int) : Value := .agg #[.int .i64 i, .int .i64 s, .int .i64 r, .bool p, .int .i64 f]

set_option maxHeartbeats 1000000 in
theorem good11_yes (i s r f : Int) (p : Bool) (w : World) (h0 : 1 ≤ i) (h1 : i ≤ 16) (h2 : 0 ≤ s) (h3 : s ≤ 64) (h4 : 0 ≤ r) (h5 : r ≤ 511) (h6 : 0 ≤ f) (h7 : f ≤ 16) :
    Calls Try.prog 15 #[volV i s r p f] w fun e w' => e = .returned (.bool true) ∧ Below w.heap.size w w' := by
  go_enter Try.func15, Try.ntmps15
  go_wp2
  go_ret
  exact ⟨rfl, by repeat (first | exact Below.refl _ _ | apply Below.drew | refine Below.alloc ?_ (by simp) _)⟩

set_option maxHeartbeats 1000000 in
theorem good11_any (i s r f : Int) (p : Bool) (w : World) :
    Calls Try.prog 15 #[volV i s r p f] w fun e w' => e = .returned (.bool (volB i s r f)) ∧ Below w.heap.size w w' := by
  go_enter Try.func15, Try.ntmps15
  go_wp2
  all_goals
    go_ret
    refine ⟨ret_bool ?_, by repeat (first | exact Below.refl _ _ | apply Below.drew | refine Below.alloc ?_ (by simp) _)⟩
    unfold volB
    rw [Bool.eq_iff_iff]
    simp
    try omega

set_option maxHeartbeats 1000000 in
theorem rgood11_any (i s r f : Int) (p : Bool) (w : World) :
    Calls Try.prog 16 #[volV i s r p f] w fun e w' => e = .returned (.bool (volB i s r f)) ∧ Below w.heap.size w w' := by
  go_enter Try.func16, Try.ntmps16
  go_wp2
  all_goals
    go_ret
    refine ⟨ret_bool ?_, by repeat (first | exact Below.refl _ _ | apply Below.drew | refine Below.alloc ?_ (by simp) _)⟩
    unfold volB
    rw [Bool.eq_iff_iff]
    simp
    try omega

end Go.Proofs.Ytkeloklncjfddaa
