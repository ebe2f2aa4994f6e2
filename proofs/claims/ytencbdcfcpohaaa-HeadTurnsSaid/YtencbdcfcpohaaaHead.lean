/- The walks of package head: Good, Bytes. -/
import Derived.Test.YtencbdcfcpohaaaGet
import Derived.Test.YtencbdcfcpohaaaCastleRef
namespace Go.Proofs.Ytencbdcfcpohaaa
set_option linter.unusedVariables false
set_option linter.unusedSimpArgs false
open Go.RowKit

/-- Whether a head can be. -/
abbrev HeadOk (g r a b c : Int) : Prop := 1 ≤ a ∧ a ≤ 256 ∧ 1 ≤ b ∧ b ≤ 256 ∧ 1 ≤ g ∧ g ≤ 4294967295 ∧ 0 ≤ r ∧ r < 512 ∧ 1 ≤ c ∧ c ≤ 8
abbrev headV (g r a b c : Int) : Value := .agg #[.int .u64 g, .int .i64 r, .int .i64 a, .int .i64 b, .int .i64 c]

theorem idx0 (a b : Int) : ∀ w, (Instr.index 23 (.agg #[.int .i64 a, .int .i64 b]) (.int .i64 0)).run Try.prog w = .ok (.int .i64 a) w := fun _ => by kernel_rfl
theorem idx1 (a b : Int) : ∀ w, (Instr.index 23 (.agg #[.int .i64 a, .int .i64 b]) (.int .i64 1)).run Try.prog w = .ok (.int .i64 b) w := fun _ => by kernel_rfl

set_option maxHeartbeats 1000000 in
theorem hgood_any (g r a b c : Int) (w : World) :
    Calls Try.prog 8 #[headV g r a b c] w fun e w' => e = .returned (.bool (decide (HeadOk g r a b c))) ∧ Below w.heap.size w w' := by
  have i0 := idx0 a b
  have i1 := idx1 a b
  go_enter Try.func8, Try.ntmps8
  by_cases ha : 1 ≤ a ∧ a ≤ 256
  · obtain ⟨ha1, ha2⟩ := ha
    go_wp2_with fail
    go_loop [4, 7] (fun _ i => ∃ j : Nat, j ≤ 2 ∧ i = .int .i64 j ∧ (j = 2 → 1 ≤ b ∧ b ≤ 256)) (fun _ i => 2 - (intOf i).toNat)
    case atStart => exact ⟨0, by omega, rfl, by omega⟩
    case round =>
      obtain ⟨j, hj, rfl, hb⟩ := hrel
      rcases (show j = 0 ∨ j = 1 ∨ j = 2 by omega) with rfl | rfl | rfl
      · clear hb
        go_wp2_with fail
        go_round
        case rel => exact ⟨1, by omega, rfl, by omega⟩
        case measure => simp [intOf]
      · clear hb
        by_cases hb : 1 ≤ b ∧ b ≤ 256
        · obtain ⟨hb1, hb2⟩ := hb
          go_wp2_with fail
          go_round
          case rel => exact ⟨2, by omega, rfl, by omega⟩
          case measure => simp [intOf]
        · by_cases hb1 : b < 1
          · go_wp2
            go_ret
            exact ⟨ret_bool (by simp; omega), by (repeat (first | with_reducible exact Below.refl _ _ | with_reducible assumption | with_reducible apply Below.drew | with_reducible apply below_drewN | (with_reducible refine below_set ?_ ?_; focus ((try simp); (try omega); done)) | (with_reducible refine below_new ?_ ?_; focus ((try simp); (try omega); done))))⟩
          · have hb2 : 256 < b := by omega
            go_wp2
            go_ret
            exact ⟨ret_bool (by simp; omega), by (repeat (first | with_reducible exact Below.refl _ _ | with_reducible assumption | with_reducible apply Below.drew | with_reducible apply below_drewN | (with_reducible refine below_set ?_ ?_; focus ((try simp); (try omega); done)) | (with_reducible refine below_new ?_ ?_; focus ((try simp); (try omega); done))))⟩
      · obtain ⟨hb1, hb2⟩ := hb rfl
        clear hb
        go_wp2
        all_goals
          go_ret
          refine ⟨ret_bool ?_, by (repeat (first | with_reducible exact Below.refl _ _ | with_reducible assumption | with_reducible apply Below.drew | with_reducible apply below_drewN | (with_reducible refine below_set ?_ ?_; focus ((try simp); (try omega); done)) | (with_reducible refine below_new ?_ ?_; focus ((try simp); (try omega); done))))⟩
          rw [Bool.eq_iff_iff]
          try simp
          try omega
  · go_wp2_with fail
    by_cases ha1 : a < 1
    · go_loop [4, 7] (fun _ i => i = .int .i64 0) (fun _ _ => 0)
      case atStart => rfl
      case round =>
        subst hrel
        go_wp2
        go_ret
        exact ⟨ret_bool (by simp; omega), by (repeat (first | with_reducible exact Below.refl _ _ | with_reducible assumption | with_reducible apply Below.drew | with_reducible apply below_drewN | (with_reducible refine below_set ?_ ?_; focus ((try simp); (try omega); done)) | (with_reducible refine below_new ?_ ?_; focus ((try simp); (try omega); done))))⟩
    · have ha2 : 256 < a := by omega
      go_loop [4, 7] (fun _ i => i = .int .i64 0) (fun _ _ => 0)
      case atStart => rfl
      case round =>
        subst hrel
        go_wp2
        go_ret
        exact ⟨ret_bool (by simp; omega), by (repeat (first | with_reducible exact Below.refl _ _ | with_reducible assumption | with_reducible apply Below.drew | with_reducible apply below_drewN | (with_reducible refine below_set ?_ ?_; focus ((try simp); (try omega); done)) | (with_reducible refine below_new ?_ ?_; focus ((try simp); (try omega); done))))⟩
theorem hgood_yes (g r a b c : Int) (w : World) (h : HeadOk g r a b c) :
    Calls Try.prog 8 #[headV g r a b c] w fun e w' => e = .returned (.bool true) ∧ Below w.heap.size w w' :=
  (hgood_any g r a b c w).mono fun _ _ ⟨he, hb⟩ => ⟨by rw [he]; exact ret_bool (decide_eq_true h), hb⟩
theorem hgood_no (g r a b c : Int) (w : World) (h : ¬ HeadOk g r a b c) :
    Calls Try.prog 8 #[headV g r a b c] w fun e w' => e = .returned (.bool false) ∧ Below w.heap.size w w' :=
  (hgood_any g r a b c w).mono fun _ _ ⟨he, hb⟩ => ⟨by rw [he]; exact ret_bool (decide_eq_false h), hb⟩

set_option maxHeartbeats 1000000 in
theorem rhgood_any (g r a b c : Int) (w : World) :
    Calls Try.prog 9 #[headV g r a b c] w fun e w' => e = .returned (.bool (decide (HeadOk g r a b c))) ∧ Below w.heap.size w w' := by
  go_enter Try.func9, Try.ntmps9
  go_wp2
  all_goals
    go_ret
    refine ⟨ret_bool ?_, by (repeat (first | with_reducible exact Below.refl _ _ | with_reducible assumption | with_reducible apply Below.drew | with_reducible apply below_drewN | (with_reducible refine below_set ?_ ?_; focus ((try simp); (try omega); done)) | (with_reducible refine below_new ?_ ?_; focus ((try simp); (try omega); done))))⟩
    rw [Bool.eq_iff_iff]
    simp
    try omega
theorem rhgood_yes (g r a b c : Int) (w : World) (h : HeadOk g r a b c) :
    Calls Try.prog 9 #[headV g r a b c] w fun e w' => e = .returned (.bool true) ∧ Below w.heap.size w w' :=
  (rhgood_any g r a b c w).mono fun _ _ ⟨he, hb⟩ => ⟨by rw [he]; exact ret_bool (decide_eq_true h), hb⟩
theorem rhgood_no (g r a b c : Int) (w : World) (h : ¬ HeadOk g r a b c) :
    Calls Try.prog 9 #[headV g r a b c] w fun e w' => e = .returned (.bool false) ∧ Below w.heap.size w w' :=
  (rhgood_any g r a b c w).mono fun _ _ ⟨he, hb⟩ => ⟨by rw [he]; exact ret_bool (decide_eq_false h), hb⟩
end Go.Proofs.Ytencbdcfcpohaaa
