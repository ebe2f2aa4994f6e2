/- The walks of package vols (Pair, Read) and of their reference. -/
import Derived.Test.YtkeloklncjfddaaVols
import Derived.Test.YtkeloklncjfddaaBits
namespace Go.Proofs.Ytkeloklncjfddaa
set_option linter.unusedVariables false
set_option linter.unusedSimpArgs false
open Go.RowKit

def pinV : Bool → Int | true => 4294967296 | false => 0
def volPair (s r : Int) (p : Bool) (f : Int) : Int := r + s * 65536 + f * 1099511627776 + pinV p

set_option maxHeartbeats 1000000 in
theorem pair11_yes (i s r f : Int) (p : Bool) (w : World) (h0 : 1 ≤ i) (h1 : i ≤ 16) (h2 : 0 ≤ s) (h3 : s ≤ 64) (h4 : 0 ≤ r) (h5 : r ≤ 511) (h6 : 0 ≤ f) (h7 : f ≤ 16) :
    Calls Try.prog 14 #[volV i s r p f] w fun e w' => e = .returned (.tuple #[.agg #[.int .u64 (4294967296 + i), .int .u64 (volPair s r p f)], .int .i64 0]) ∧ Below w.heap.size w w' := by
  have e1 : bits .or .u64 r (s * 65536) = r + s * 65536 := or_u64 _ _ 65536 16 (by rfl) (by omega) (by omega) (by omega) (by omega) (by omega) (by omega)
  have e2 : bits .or .u64 (r + s * 65536) (f * 1099511627776) = r + s * 65536 + f * 1099511627776 := or_u64 _ _ 1099511627776 40 (by rfl) (by omega) (by omega) (by omega) (by omega) (by omega) (by omega)
  have e3 : bits .or .u64 (r + s * 65536 + f * 1099511627776) 4294967296 = r + s * 65536 + f * 1099511627776 + 4294967296 := or_mid_u64 _ _ 4294967296 1099511627776 32 40 (by rfl) (by rfl) (by omega) (by omega) (by omega) (by omega) (by omega) (by omega)
  go_enter Try.func14, Try.ntmps14
  cases p
  · go_wp2
    exact bodyPost_ret (v := .tuple #[.agg #[.int .u64 (4294967296 + i), .int .u64 (r + s * 65536 + f * 1099511627776)], .int .i64 0]) (by simp [results, Try.results14, go_sem]) rfl ⟨ret_v (by simp [volPair, pinV]), by repeat (first | exact Below.refl _ _ | apply Below.drew | refine Below.alloc ?_ (by simp; try omega) _)⟩
  · go_wp2
    exact bodyPost_ret (v := .tuple #[.agg #[.int .u64 (4294967296 + i), .int .u64 (r + s * 65536 + f * 1099511627776 + 4294967296)], .int .i64 0]) (by simp [results, Try.results14, go_sem]) rfl ⟨ret_v (by simp [volPair, pinV]), by repeat (first | exact Below.refl _ _ | apply Below.drew | refine Below.alloc ?_ (by simp; try omega) _)⟩

set_option maxHeartbeats 1000000 in
theorem pair11_no (i s r f : Int) (p : Bool) (w : World) (h : ¬ (1 ≤ i ∧ i ≤ 16 ∧ 0 ≤ s ∧ s ≤ 64 ∧ 0 ≤ r ∧ r ≤ 511 ∧ 0 ≤ f ∧ f ≤ 16)) :
    Calls Try.prog 14 #[volV i s r p f] w fun e w' => e = .returned (.tuple #[.agg #[.int .u64 0, .int .u64 0], .int .i64 1]) ∧ Below w.heap.size w w' := by
  have hv : volB i s r f = false := by unfold volB; simp only [decide_eq_false_iff_not]; exact h
  clear h
  go_enter Try.func14, Try.ntmps14
  go_wp2_with (go_at_call 15; refine (good11_any _ _ _ _ _ _).mono ?_; rintro e w1 ⟨rfl, hb1⟩; obtain ⟨hc1, hf1⟩ := bcell hb1; have hs1 := hb1.size; simp at hs1)
  exact bodyPost_ret (v := .tuple #[.agg #[.int .u64 0, .int .u64 0], .int .i64 1]) (by simp [results, Try.results14, go_sem, hc1]) rfl ⟨rfl, (((((Below.refl _ _).alloc (Nat.le_refl _) _).alloc (by simp) _).trans (hb1.mono (by simp; omega))).setCell (by simp) _).setCell (by simp) _⟩

set_option maxHeartbeats 1000000 in
theorem rpair11_yes (i s r f : Int) (p : Bool) (w : World) (h0 : 1 ≤ i) (h1 : i ≤ 16) (h2 : 0 ≤ s) (h3 : s ≤ 64) (h4 : 0 ≤ r) (h5 : r ≤ 511) (h6 : 0 ≤ f) (h7 : f ≤ 16) :
    Calls Try.prog 18 #[volV i s r p f] w fun e w' => e = .returned (.agg #[.int .u64 (4294967296 + i), .int .u64 (volPair s r p f)]) ∧ Below w.heap.size w w' := by
  go_enter Try.func18, Try.ntmps18
  cases p
  · go_wp2
    exact bodyPost_ret (v := .agg #[.int .u64 (4294967296 + i), .int .u64 (r + s * 65536 + f * 1099511627776)]) (by simp [results, Try.results18, go_sem]) rfl ⟨ret_v (by simp [volPair, pinV]), by repeat (first | exact Below.refl _ _ | apply Below.drew | refine Below.alloc ?_ (by simp; try omega) _)⟩
  · go_wp2
    exact bodyPost_ret (v := .agg #[.int .u64 (4294967296 + i), .int .u64 (r + s * 65536 + f * 1099511627776 + 4294967296)]) (by simp [results, Try.results18, go_sem]) rfl ⟨ret_v (by simp [volPair, pinV]), by repeat (first | exact Below.refl _ _ | apply Below.drew | refine Below.alloc ?_ (by simp; try omega) _)⟩
end Go.Proofs.Ytkeloklncjfddaa
