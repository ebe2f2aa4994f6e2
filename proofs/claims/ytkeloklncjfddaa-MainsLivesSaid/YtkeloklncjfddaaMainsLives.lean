/- The walk of MainsLives: it returns true and turns nothing that was there. -/
import Derived.Test.YtkeloklncjfddaaMains
import Derived.Test.YtkeloklncjfddaaFit
namespace Go.Proofs.Ytkeloklncjfddaa
open Go.RowKit Go.ChangeShapes Go.WideShapes Go.ChangeAt

set_option maxHeartbeats 2000000 in
theorem mainsLives_core (A : Option Addr) (len cap : Nat) (xs : List Bool) (w : World) (hlen : xs.length = len) (hrow : Row1 w A Value.bool xs) :
    Calls Try.prog 7 #[.slice A len cap] w fun e w' => e = .returned (.bool true) ∧ Below w.heap.size w w' := by
  have Hlen := Lib.hid hlen
  clear hlen
  go_enter Try.func7, Try.ntmps7
  go_wp2_with fail
  refine (awake3 _).mono ?_
  rintro e w1 ⟨rfl, hb1⟩
  go_wp2_with fail
  refine (new_any _).mono ?_
  rintro e w2 ⟨rfl, hU2⟩
  have hs1 := hb1.size
  have hb2 : Below w.heap.size w w2 := hU2.below hb1 hs1 hs1
  have hB2 := hU2.blk
  clear hU2
  go_wp2_with fail
  go_loopw [4, 5, 6, 7] (fun l u o i wr => ∃ (k : Nat) (on : Bool) (L U : Nat), k ≤ 100 ∧ L ≤ k + 1 ∧ U ≤ k ∧ l = .int .i64 L ∧ u = .int .i64 U ∧ o = .bool on ∧ i = .int .i64 k ∧ Blk wr w1.heap.size 91 (mains (!on) (-1) L U) ∧ Below w.heap.size w wr) (fun _ _ _ i _ => 100 - (intOf i).toNat)
  case atStart => exact ⟨0, true, 1, 0, by omega, by omega, by omega, rfl, rfl, rfl, rfl, hB2, hb2⟩
  case round =>
    obtain ⟨k, on, L, U, hk, hL, hU, rfl, rfl, rfl, rfl, hB, hb⟩ := hrel
    clear hB2 hb2
    by_cases hlt : k < len
    · by_cases hlt2 : k < 100
      · obtain ⟨b, off, rfl, hbl, hc⟩ := (hrow.below hb).at_ (i := k) (by have := Hlen.out; omega)
        generalize xs[k]'(by have := Hlen.out; omega) = d at hc
        cases d
        · -- it comes
          cases on
          · go_wp2_with fail
            refine (come_away _ _ _ _ _ hB (by omega) (by omega)).mono ?_
            rintro e w4 ⟨rfl, hU4⟩
            have hb4 : Below w.heap.size w w4 := hU4.below hb hs1 hb.size
            have hB4 := hU4.blk
            clear hU4 hB hb hc
            go_wp2_with fail
            refine (use_ok _ _ _ _ _ hB4 (by omega) (by omega) (by omega) (by omega) (by omega)).mono ?_
            rintro e w5 ⟨rfl, hU5⟩
            have hb5 : Below w.heap.size w w5 := hU5.below hb4 hs1 hb4.size
            have hB5 := hU5.blk
            clear hU5 hB4 hb4
            rw [show max ((-1 : Int) - 1) (-1) = -1 by omega] at hB5
            go_wp2_with (first | (go_at_call 32; refine (on_any _ _ _ _ _ _ hB5).mono ?_; rintro e w5 ⟨rfl, rfl⟩) | (go_at_call 35; refine (lives_any _ _ _ _ _ _ hB5).mono ?_; rintro e w5 ⟨rfl, rfl⟩) | (go_at_call 33; refine (uses_any _ _ _ _ _ _ hB5).mono ?_; rintro e w5 ⟨rfl, rfl⟩))
            go_roundw
            case rel => exact ⟨k + 1, true, L + 1, U + 1, by omega, by omega, by omega, by go_num, by go_num, rfl, by go_num, hB5, hb5⟩
            case measure => simp [intOf]; omega
          · go_wp2_with fail
            refine (come_there _ _ _ _ _ hB).mono ?_
            rintro e w4 ⟨rfl, rfl⟩
            go_wp2_with fail
            refine (use_ok _ _ _ _ _ hB (by omega) (by omega) (by omega) (by omega) (by omega)).mono ?_
            rintro e w5 ⟨rfl, hU5⟩
            have hb5 : Below w.heap.size w w5 := hU5.below hb hs1 hb.size
            have hB5 := hU5.blk
            clear hU5 hB hb hc
            rw [show max ((-1 : Int) - 1) (-1) = -1 by omega] at hB5
            go_wp2_with (first | (go_at_call 32; refine (on_any _ _ _ _ _ _ hB5).mono ?_; rintro e w5 ⟨rfl, rfl⟩) | (go_at_call 35; refine (lives_any _ _ _ _ _ _ hB5).mono ?_; rintro e w5 ⟨rfl, rfl⟩) | (go_at_call 33; refine (uses_any _ _ _ _ _ _ hB5).mono ?_; rintro e w5 ⟨rfl, rfl⟩))
            go_roundw
            case rel => exact ⟨k + 1, true, L, U + 1, by omega, by omega, by omega, by go_num, by go_num, rfl, by go_num, hB5, hb5⟩
            case measure => simp [intOf]; omega
        · go_wp2_with fail
          refine (cut_any _ _ _ _ _ _ hB).mono ?_
          rintro e w4 ⟨rfl, hU4⟩
          have hb4 : Below w.heap.size w w4 := hU4.below hb hs1 hb.size
          have hB4 := hU4.blk
          clear hU4 hB hb hc
          go_wp2_with fail
          refine (use_down _ _ _ _ _ _ hB4 (by simp)).mono ?_
          rintro e w5 ⟨rfl, hU5⟩
          have hb5 : Below w.heap.size w w5 := hU5.below hb4 hs1 hb4.size
          have hB5 := hU5.blk
          clear hU5 hB4 hb4
          go_wp2_with (first | (go_at_call 32; refine (on_any _ _ _ _ _ _ hB5).mono ?_; rintro e w5 ⟨rfl, rfl⟩) | (go_at_call 35; refine (lives_any _ _ _ _ _ _ hB5).mono ?_; rintro e w5 ⟨rfl, rfl⟩) | (go_at_call 33; refine (uses_any _ _ _ _ _ _ hB5).mono ?_; rintro e w5 ⟨rfl, rfl⟩))
          go_roundw
          case rel => exact ⟨k + 1, false, L, U, by omega, by omega, by omega, by go_num, by go_num, rfl, by go_num, hB5, hb5⟩
          case measure => simp [intOf]; omega
      · go_wp2_with fail
        go_ret
        exact ⟨rfl, hb⟩
    · go_wp2_with fail
      go_ret
      exact ⟨rfl, hb⟩

theorem mainsLives_walk (w : World) (v0 : Value) (h0 : Arg Try.prog w 66 v0) :
    Calls Try.prog 7 #[v0] w fun e w' => e = .returned (.bool true) ∧ Below w.heap.size w w' := by
  obtain ⟨A, len, cap, xs, rfl, _, _, h3, h4⟩ := arg_bools Try.underlying66 Try.underlying4 (by kernel_rfl) h0
  exact mainsLives_core A len cap xs w h3 h4
end Go.Proofs.Ytkeloklncjfddaa
