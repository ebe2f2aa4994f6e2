/- The walk of MainsFuse: it returns true and turns nothing that was there. -/
import Derived.Test.YtkeloklncjfddaaMains
import Derived.Test.YtkeloklncjfddaaFit
namespace Go.Proofs.Ytkeloklncjfddaa
open Go.RowKit Go.ChangeShapes Go.WideShapes Go.ChangeAt

theorem mod_u64 (n m : Int) (h0 : 1 ≤ m) (h1 : m ≤ 1000000) : ∃ k : Nat, wrap64 ((IntKind.u64.wrap n).tmod m) = (k : Int) ∧ (k : Int) < m := by
  have hu : 0 ≤ IntKind.u64.wrap n := by simp [IntKind.wrap, IntKind.bits, IntKind.signed]; omega
  rw [Int.tmod_eq_emod_of_nonneg hu]
  have a := Int.emod_nonneg (IntKind.u64.wrap n) (show m ≠ 0 by omega)
  have b := Int.emod_lt_of_pos (IntKind.u64.wrap n) (show 0 < m by omega)
  generalize IntKind.u64.wrap n % m = x at a b
  refine ⟨x.toNat, ?_, by omega⟩
  rw [IntWalk.wrap64_in _ (by omega)]
  omega

set_option maxHeartbeats 2000000 in
theorem mainsFuse_core (n t : Int) (w : World) :
    Calls Try.prog 5 #[.int .i64 n, .int .i64 t] w fun e w' => e = .returned (.bool true) ∧ Below w.heap.size w w' := by
  obtain ⟨k, hk, hk1⟩ := mod_u64 n 100 (by omega) (by omega)
  obtain ⟨m, hm, hm1⟩ := mod_u64 t 9 (by omega) (by omega)
  go_enter Try.func5, Try.ntmps5
  go_wp2_with fail
  refine (awake3 _).mono ?_
  rintro e w1 ⟨rfl, hb1⟩
  go_wp2_with fail
  refine (new_any _).mono ?_
  rintro e w2 ⟨rfl, hU2⟩
  have hs1 := hb1.size
  have hb2 : Below w.heap.size w w2 := hU2.below hb1 hs1 hs1
  go_wp2_with fail
  refine (fuse_any _ _ _ _ _ _ _ hU2.blk).mono ?_
  rintro e w3 ⟨rfl, hU3⟩
  have hb3 : Below w.heap.size w w3 := hU3.below hb2 hs1 hb2.size
  rw [show max (k : Int) (-1) = k by omega] at hU3
  have hB3 := hU3.blk
  clear hb2 hU2 hU3
  go_wp2_with fail
  go_loopw [7] (fun i wr => ∃ j : Nat, j ≤ k ∧ i = .int .i64 j ∧ Blk wr w1.heap.size 91 (mains false (k - j) 1 j) ∧ Below w.heap.size w wr) (fun i _ => k - (intOf i).toNat)
  case atStart => exact ⟨0, by omega, rfl, by simpa using hB3, hb3⟩
  case round =>
    obtain ⟨j, hj, rfl, hB, hb⟩ := hrel
    clear hB3 hb3
    by_cases hlt : j < k
    · go_wp2_with fail
      refine (use_ok _ _ _ _ _ hB (by omega) (by omega) (by omega) (by omega) (by omega)).mono ?_
      rintro e w4 ⟨rfl, hU4⟩
      have hb4 : Below w.heap.size w w4 := hU4.below hb hs1 hb.size
      rw [show max ((k : Int) - j - 1) (-1) = k - (j + 1 : Nat) by omega] at hU4
      have hB4 := hU4.blk
      clear hU4 hB hb
      go_wp2_with fail
      go_roundw
      case rel => exact ⟨j + 1, by omega, by go_num, hB4, hb4⟩
      case measure => simp [intOf]; omega
    · obtain rfl : j = k := by omega
      rw [show (j : Int) - j = 0 by omega] at hB
      go_wp2_with fail
      go_loopw [8] (fun i wr => ∃ (q : Nat) (a : Bool), q ≤ m + 1 ∧ i = .int .i64 q ∧ Hid (q = 0 ∨ a = true) ∧ Blk wr w1.heap.size 91 (mains a 0 1 j) ∧ Below w.heap.size w wr) (fun i _ => m + 1 - (intOf i).toNat)
      case atStart => exact ⟨0, false, by omega, rfl, Or.inl rfl, hB, hb⟩
      case round =>
        obtain ⟨q, a, hq, rfl, ha, hB, hb⟩ := hrel
        by_cases hlt : q < m + 1
        · go_wp2_with fail
          refine (use_down _ _ _ _ _ _ hB (by simp)).mono ?_
          rintro e w4 ⟨rfl, hU4⟩
          have hb4 : Below w.heap.size w w4 := hU4.below hb hs1 hb.size
          have hB4 := hU4.blk
          clear hU4 hB hb
          go_wp2_with (first | (go_at_call 32; refine (on_any _ _ _ _ _ _ hB4).mono ?_; rintro e w5 ⟨rfl, rfl⟩) | (go_at_call 33; refine (uses_any _ _ _ _ _ _ hB4).mono ?_; rintro e w5 ⟨rfl, rfl⟩))
          go_roundw
          case rel => exact ⟨q + 1, true, by omega, by go_num, Or.inr rfl, hB4, hb4⟩
          case measure => simp [intOf]; omega
        · have haa : a = true := by rcases ha.out with h | h; (· omega); exact h
          subst haa
          go_wp2_with fail
          refine (come_away _ _ _ _ _ hB (by omega) (by omega)).mono ?_
          rintro e w4 ⟨rfl, hU4⟩
          have hb4 : Below w.heap.size w w4 := hU4.below hb hs1 hb.size
          have hB4 := hU4.blk
          clear hU4 hB hb
          go_wp2_with fail
          go_loopw [9] (fun i wr => ∃ (q : Nat), q ≤ 2 * j + 1 ∧ i = .int .i64 q ∧ Blk wr w1.heap.size 91 (mains false (-1) 2 (j + q)) ∧ Below w.heap.size w wr) (fun i _ => 2 * j + 1 - (intOf i).toNat)
          case atStart => exact ⟨0, by omega, rfl, by simpa using hB4, hb4⟩
          case round =>
            obtain ⟨q, hq, rfl, hB, hb⟩ := hrel
            clear hB4 hb4
            by_cases hlt : q < 2 * j + 1
            · go_wp2_with fail
              refine (use_ok _ _ _ _ _ hB (by omega) (by omega) (by omega) (by omega) (by omega)).mono ?_
              rintro e w4 ⟨rfl, hU4⟩
              have hb4 : Below w.heap.size w w4 := hU4.below hb hs1 hb.size
              rw [show max ((-1 : Int) - 1) (-1) = -1 by omega, show (j : Int) + q + 1 = j + (q + 1 : Nat) by omega] at hU4
              have hB4 := hU4.blk
              clear hU4 hB hb
              go_wp2_with fail
              go_roundw
              case rel => exact ⟨q + 1, by omega, by go_num, hB4, hb4⟩
              case measure => simp [intOf]; omega
            · obtain rfl : q = 2 * j + 1 := by omega
              have e3 : ((j : Int) + ((2 * j + 1 : Nat) : Int) == 3 * j + 1) = true := by simp; omega
              go_wp2_with (first | (go_at_call 35; refine (lives_any _ _ _ _ _ _ hB).mono ?_; rintro e w5 ⟨rfl, rfl⟩) | (go_at_call 33; refine (uses_any _ _ _ _ _ _ hB).mono ?_; rintro e w5 ⟨rfl, rfl⟩))
              go_ret
              exact ⟨ret_bool (by simp; omega), hb⟩

theorem mainsFuse_walk (w : World) (v0 v1 : Value) (h0 : Arg Try.prog w 3 v0) (h1 : Arg Try.prog w 3 v1) :
    Calls Try.prog 5 #[v0, v1] w fun e w' => e = .returned (.bool true) ∧ Below w.heap.size w w' := by
  obtain ⟨n, rfl, _⟩ := arg_int Try.underlying3 h0
  obtain ⟨t, rfl, _⟩ := arg_int Try.underlying3 h1
  exact mainsFuse_core n t w
end Go.Proofs.Ytkeloklncjfddaa
