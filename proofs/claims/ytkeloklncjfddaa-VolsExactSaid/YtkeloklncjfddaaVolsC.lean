/- The walks of package vols: Read, and its reference; the first look. -/
import Derived.Test.YtkeloklncjfddaaVolsB
import Derived.Deep.RegionHeld3
namespace Go.Proofs.Ytkeloklncjfddaa
set_option linter.unusedVariables false
set_option linter.unusedSimpArgs false
open Go.RowKit

def GoodVol (i s r f : Int) : Prop := 1 ≤ i ∧ i ≤ 16 ∧ 0 ≤ s ∧ s ≤ 64 ∧ 0 ≤ r ∧ r ≤ 511 ∧ 0 ≤ f ∧ f ≤ 16
def VolOk (k v : Int) : Prop := GoodVol (k % 4294967296) (v / 65536 % 65536) (v % 65536) (v / 1099511627776) ∧ 4294967296 + k % 4294967296 = k ∧ volPair (v / 65536 % 65536) (v % 65536) (v / 4294967296 % 256 == 1) (v / 1099511627776) = v

set_option maxHeartbeats 1000000 in
theorem read11_yes (k v : Int) (w : World) (h0 : 0 ≤ k) (h1 : k ≤ 18446744073709551615) (h2 : 0 ≤ v) (h3 : v ≤ 18446744073709551615) (h : VolOk k v) :
    Calls Try.prog 17 #[.agg #[.int .u64 k, .int .u64 v]] w fun e w' => e = .returned (.tuple #[volV (k % 4294967296) (v / 65536 % 65536) (v % 65536) (v / 4294967296 % 256 == 1) (v / 1099511627776), .bool true]) ∧ Below w.heap.size w w' := by
  have e1 : bits .and .u64 k 4294967295 = k % 4294967296 := and_u64 _ _ 4294967296 32 (by rfl) (by omega) (by omega) (by omega) (by omega)
  have e2 : bits .and .u64 (v / 65536) 65535 = v / 65536 % 65536 := and_u64 _ _ 65536 16 (by rfl) (by omega) (by omega) (by omega) (by omega)
  have e3 : bits .and .u64 v 65535 = v % 65536 := and_u64 _ _ 65536 16 (by rfl) (by omega) (by omega) (by omega) (by omega)
  have e4 : bits .and .u64 (v / 4294967296) 255 = v / 4294967296 % 256 := and_u64 _ _ 256 8 (by rfl) (by omega) (by omega) (by omega) (by omega)
  obtain ⟨⟨g0, g1, g2, g3, g4, g5, g6, g7⟩, hk, hv⟩ := h
  have Hk := Lib.hid hk
  have Hv := Lib.hid hv
  clear hk hv
  go_enter Try.func17, Try.ntmps17
  go_wp2_with fail
  refine (pair11_yes _ _ _ _ _ _ (by omega) (by omega) (by omega) (by omega) (by omega) (by omega) (by omega) (by omega)).mono ?_
  rintro e w1 ⟨rfl, hb1⟩
  obtain ⟨hc1, hf1⟩ := bcell hb1
  have hs1 := hb1.size
  simp at hs1
  have z0 : w.heap.size < w1.heap.size := by omega
  have z1 : w.heap.size + 1 < w1.heap.size := by omega
  have z2 : w.heap.size + 1 + 1 < w1.heap.size := by omega
  rw [Hk.out, Hv.out]
  clear e1 e2 e3 e4
  have hbw : Below w.heap.size w w1 := Below.trans (by (repeat (first | with_reducible exact Below.refl _ _ | with_reducible assumption | with_reducible apply Below.drew | with_reducible apply below_drewN | (with_reducible refine below_set ?_ ?_; focus ((try simp); (try omega); done)) | (with_reducible refine below_new ?_ ?_; focus ((try simp); (try omega); done))))) (hb1.mono (by simp; omega))
  go_wp2_with fail
  exact bodyPost_ret (v := .tuple #[volV (k % 4294967296) (v / 65536 % 65536) (v % 65536) (v / 4294967296 % 256 == 1) (v / 1099511627776), .bool true]) (by simp [results, Try.results17, go_sem, hc1, z0, z1, z2]) rfl ⟨rfl, by (repeat (first | with_reducible exact Below.refl _ _ | with_reducible assumption | with_reducible apply Below.drew | with_reducible apply below_drewN | (with_reducible refine below_set ?_ ?_; focus ((try simp); (try omega); done)) | (with_reducible refine below_new ?_ ?_; focus ((try simp); (try omega); done))))⟩

set_option maxHeartbeats 1000000 in
theorem read11_no (k v : Int) (w : World) (h0 : 0 ≤ k) (h1 : k ≤ 18446744073709551615) (h2 : 0 ≤ v) (h3 : v ≤ 18446744073709551615) (h : ¬ VolOk k v) :
    Calls Try.prog 17 #[.agg #[.int .u64 k, .int .u64 v]] w fun e w' => e = .returned (.tuple #[volV 0 0 0 false 0, .bool false]) ∧ Below w.heap.size w w' := by
  have e1 : bits .and .u64 k 4294967295 = k % 4294967296 := and_u64 _ _ 4294967296 32 (by rfl) (by omega) (by omega) (by omega) (by omega)
  have e2 : bits .and .u64 (v / 65536) 65535 = v / 65536 % 65536 := and_u64 _ _ 65536 16 (by rfl) (by omega) (by omega) (by omega) (by omega)
  have e3 : bits .and .u64 v 65535 = v % 65536 := and_u64 _ _ 65536 16 (by rfl) (by omega) (by omega) (by omega) (by omega)
  have e4 : bits .and .u64 (v / 4294967296) 255 = v / 4294967296 % 256 := and_u64 _ _ 256 8 (by rfl) (by omega) (by omega) (by omega) (by omega)
  go_enter Try.func17, Try.ntmps17
  by_cases hg : GoodVol (k % 4294967296) (v / 65536 % 65536) (v % 65536) (v / 1099511627776)
  · have hd : ¬ (4294967296 + k % 4294967296 = k ∧ volPair (v / 65536 % 65536) (v % 65536) (v / 4294967296 % 256 == 1) (v / 1099511627776) = v) := fun hd => h ⟨hg, hd⟩
    obtain ⟨g0, g1, g2, g3, g4, g5, g6, g7⟩ := hg
    have Hd := Lib.hid hd
    clear h hd
    go_wp2_with fail
    refine (pair11_yes _ _ _ _ _ _ (by omega) (by omega) (by omega) (by omega) (by omega) (by omega) (by omega) (by omega)).mono ?_
    rintro e w1 ⟨rfl, hb1⟩
    obtain ⟨hc1, hf1⟩ := bcell hb1
    have hs1 := hb1.size
    simp at hs1
    have z0 : w.heap.size < w1.heap.size := by omega
    have z1 : w.heap.size + 1 < w1.heap.size := by omega
    have z2 : w.heap.size + 1 + 1 < w1.heap.size := by omega
    clear e1 e2 e3 e4
    have hbw : Below w.heap.size w w1 := Below.trans (by (repeat (first | with_reducible exact Below.refl _ _ | with_reducible assumption | with_reducible apply Below.drew | with_reducible apply below_drewN | (with_reducible refine below_set ?_ ?_; focus ((try simp); (try omega); done)) | (with_reducible refine below_new ?_ ?_; focus ((try simp); (try omega); done))))) (hb1.mono (by simp; omega))
    have hd := Hd.out
    generalize volPair (v / 65536 % 65536) (v % 65536) (v / 4294967296 % 256 == 1) (v / 1099511627776) = x at hd ⊢
    generalize hy : 4294967296 + k % 4294967296 = y at hd ⊢
    clear hy Hd
    by_cases hy : y = k
    · subst hy
      have hx : ¬ x = v := fun e => hd ⟨rfl, e⟩
      clear hd
      go_wp2_with fail
      exact bodyPost_ret (v := .tuple #[volV 0 0 0 false 0, .bool false]) (by simp [results, Try.results17, go_sem, hc1, z0, z1, z2]) rfl ⟨rfl, by (repeat (first | with_reducible exact Below.refl _ _ | with_reducible assumption | with_reducible apply Below.drew | with_reducible apply below_drewN | (with_reducible refine below_set ?_ ?_; focus ((try simp); (try omega); done)) | (with_reducible refine below_new ?_ ?_; focus ((try simp); (try omega); done))))⟩
    · clear hd
      go_wp2_with fail
      exact bodyPost_ret (v := .tuple #[volV 0 0 0 false 0, .bool false]) (by simp [results, Try.results17, go_sem, hc1, z0, z1, z2]) rfl ⟨rfl, by (repeat (first | with_reducible exact Below.refl _ _ | with_reducible assumption | with_reducible apply Below.drew | with_reducible apply below_drewN | (with_reducible refine below_set ?_ ?_; focus ((try simp); (try omega); done)) | (with_reducible refine below_new ?_ ?_; focus ((try simp); (try omega); done))))⟩
  · clear h
    go_wp2_with fail
    refine (pair11_no _ _ _ _ _ _ hg).mono ?_
    rintro e w1 ⟨rfl, hb1⟩
    obtain ⟨hc1, hf1⟩ := bcell hb1
    have hs1 := hb1.size
    simp at hs1
    have z0 : w.heap.size < w1.heap.size := by omega
    have z1 : w.heap.size + 1 < w1.heap.size := by omega
    have z2 : w.heap.size + 1 + 1 < w1.heap.size := by omega
    clear e1 e2 e3 e4 hg
    have hbw : Below w.heap.size w w1 := Below.trans (by (repeat (first | with_reducible exact Below.refl _ _ | with_reducible assumption | with_reducible apply Below.drew | with_reducible apply below_drewN | (with_reducible refine below_set ?_ ?_; focus ((try simp); (try omega); done)) | (with_reducible refine below_new ?_ ?_; focus ((try simp); (try omega); done))))) (hb1.mono (by simp; omega))
    go_wp2_with fail
    exact bodyPost_ret (v := .tuple #[volV 0 0 0 false 0, .bool false]) (by simp [results, Try.results17, go_sem, hc1, z0, z1, z2]) rfl ⟨rfl, by (repeat (first | with_reducible exact Below.refl _ _ | with_reducible assumption | with_reducible apply Below.drew | with_reducible apply below_drewN | (with_reducible refine below_set ?_ ?_; focus ((try simp); (try omega); done)) | (with_reducible refine below_new ?_ ?_; focus ((try simp); (try omega); done))))⟩

end Go.Proofs.Ytkeloklncjfddaa
