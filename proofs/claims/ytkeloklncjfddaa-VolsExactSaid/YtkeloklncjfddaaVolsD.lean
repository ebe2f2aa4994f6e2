/- The walk of VolsExact: it returns true and turns nothing that was there. -/
import Derived.Test.YtkeloklncjfddaaVolsC
namespace Go.Proofs.Ytkeloklncjfddaa
set_option linter.unusedVariables false
set_option linter.unusedSimpArgs false
open Go.RowKit

theorem volPair_num : volPair 5 0 false 0 = 327680 := by decide
theorem volOk_num : VolOk 4294967299 327680 := by unfold VolOk GoodVol; decide

set_option maxHeartbeats 1000000 in
theorem awake11 (w : World) : Calls Try.prog 13 #[] w fun e w' => e = .returned (.bool true) ∧ Below w.heap.size w w' := by
  have P1 := fun W => pair11_yes 3 5 0 0 false W (by omega) (by omega) (by omega) (by omega) (by omega) (by omega) (by omega) (by omega)
  rw [volPair_num] at P1
  have R1 := fun W => read11_yes 4294967299 327680 W (by omega) (by omega) (by omega) (by omega) volOk_num
  simp only [Int.reduceMod, Int.reduceDiv, Int.reduceAdd, Int.reduceBEq] at P1 R1
  have P2 := fun W => pair11_no 0 0 0 0 false W (by omega)
  have HP1 := Lib.hid P1
  have HR1 := Lib.hid R1
  have HP2 := Lib.hid P2
  clear P1 R1 P2
  go_enter Try.func13, Try.ntmps13
  go_wp2_with fail
  refine (HP1.out _).mono ?_
  rintro e w1 ⟨rfl, hb1⟩
  have hs1 := hb1.size
  simp at hs1
  have hw1 : Below w.heap.size w w1 := Below.trans (by (repeat (first | with_reducible exact Below.refl _ _ | with_reducible assumption | with_reducible apply Below.drew | with_reducible apply below_drewN | (with_reducible refine below_set ?_ ?_; focus ((try simp); (try omega); done)) | (with_reducible refine below_new ?_ ?_; focus ((try simp); (try omega); done))))) (hb1.mono (by simp))
  obtain ⟨hc1, hf1⟩ := bcell hb1
  go_wp2_with fail
  refine (HR1.out _).mono ?_
  rintro e w2 ⟨rfl, hb2⟩
  have hs2 := hb2.size
  simp at hs2
  have hw2 : Below w.heap.size w w2 := Below.trans (by (repeat (first | with_reducible exact Below.refl _ _ | with_reducible assumption | with_reducible apply Below.drew | with_reducible apply below_drewN | (with_reducible refine below_set ?_ ?_; focus ((try simp); (try omega); done)) | (with_reducible refine below_new ?_ ?_; focus ((try simp); (try omega); done))))) (hb2.mono (by simp; omega))
  obtain ⟨hc2, hf2⟩ := bcell hb2
  go_wp2_with fail
  refine (HP2.out _).mono ?_
  rintro e w3 ⟨rfl, hb3⟩
  have hs3 := hb3.size
  simp at hs3
  have hw3 : Below w.heap.size w w3 := Below.trans (by (repeat (first | with_reducible exact Below.refl _ _ | with_reducible assumption | with_reducible apply Below.drew | with_reducible apply below_drewN | (with_reducible refine below_set ?_ ?_; focus ((try simp); (try omega); done)) | (with_reducible refine below_new ?_ ?_; focus ((try simp); (try omega); done))))) (hb3.mono (by simp; omega))
  obtain ⟨hc3, hf3⟩ := bcell hb3
  have y1 : w.heap.size < w1.heap.size := by omega
  have y2 : w.heap.size < w2.heap.size := by omega
  have y3 : w.heap.size < w3.heap.size := by omega
  have y4 : w1.heap.size < w2.heap.size := by omega
  have y5 : w1.heap.size < w3.heap.size := by omega
  have y6 : w2.heap.size < w3.heap.size := by omega
  go_wp2_with (go_at_call 15; refine (good11_yes _ _ _ _ _ _ (by omega) (by omega) (by omega) (by omega) (by omega) (by omega) (by omega) (by omega)).mono ?_; rintro e w4 ⟨rfl, hb4⟩; have hs4 := hb4.size; simp at hs4)
  go_ret
  exact ⟨rfl, Below.trans (by (repeat (first | with_reducible exact Below.refl _ _ | with_reducible assumption | with_reducible apply Below.drew | with_reducible apply below_drewN | (with_reducible refine below_set ?_ ?_; focus ((try simp); (try omega); done)) | (with_reducible refine below_new ?_ ?_; focus ((try simp); (try omega); done))))) (hb4.mono (by simp; omega))⟩
end Go.Proofs.Ytkeloklncjfddaa
