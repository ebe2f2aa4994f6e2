/- The walk of MainsExact: it returns true and turns nothing that was there. -/
import Derived.Test.YtkeloklncjfddaaMainsRef
import Derived.Test.YtkeloklncjfddaaFit
import Derived.Deep.QuietTactic
import Derived.BigQuiet
import Derived.Deep.DeepCutAuto
import Derived.Deep.LoopGhost
import Derived.Deep.CutBlock
namespace Go.Proofs.Ytkeloklncjfddaa
open Go.RowKit Go.ChangeShapes Go.WideShapes Go.ChangeAt

/-- Both sides are in one state. -/
def Both (w : World) (g1 g2 : Nat) (k : Nat) (wx : World) : Prop :=
  ∃ (on : Bool) (fuse : Int) (L U : Nat), -1 ≤ fuse ∧ fuse ≤ 9223372036854775807 ∧ L ≤ k + 1 ∧ U ≤ k ∧ Blk wx g1 91 (mains (!on) fuse L U) ∧ Blk wx g2 64 (mref on fuse L U) ∧ Below w.heap.size w wx

set_option maxRecDepth 100000 in
set_option maxHeartbeats 4000000 in
theorem mainsExact_core (A A' : Option Addr) (len cap len' cap' : Nat) (xs ys : List Int) (w : World) (hlen : xs.length = len) (hlen' : ys.length = len') (hrow : Row1 w A (Value.int .i64) xs) (hrow' : Row1 w A' (Value.int .i64) ys)
    (hw : ∀ x ∈ ys, (Lit.int .i64 x).wf = true) :
    Calls Try.prog 6 #[.slice A len cap, .slice A' len' cap'] w fun e w' => e = .returned (.bool true) ∧ Below w.heap.size w w' := by
  have Hlen := Lib.hid hlen
  have Hlen' := Lib.hid hlen'
  have Hw := Lib.hid hw
  have Hrow := Lib.hid hrow
  have Hrow' := Lib.hid hrow'
  clear hlen hlen' hw hrow hrow'
  go_enter Try.func6, Try.ntmps6
  go_wp2_with fail
  refine (awake3 _).mono ?_
  rintro e w1 ⟨rfl, hb1⟩
  go_wp2_with fail
  refine (new_any _).mono ?_
  rintro e w2 ⟨rfl, hU2⟩
  have hs1 := hb1.size
  have hs2 := hU2.blk.lt
  have hb2 : Below w.heap.size w w2 := hU2.below hb1 hs1 hs1
  have hB2 := hU2.blk
  clear hU2
  go_wp2_with fail
  refine (rnew_any _).mono ?_
  rintro e w3 ⟨rfl, hU3⟩
  have hb3 : Below w.heap.size w w3 := hU3.below hb2 (by omega) (by omega)
  have hJ : Both w w1.heap.size w2.heap.size 0 w3 := ⟨true, -1, 1, 0, by omega, by omega, by omega, by omega, hB2.grown hU3.grown (by simp; omega), hU3.blk, hb3⟩
  clear hU3 hb3 hB2 hb1 hb2
  go_wp2_with fail
  go_loopg [7] 100 (fun m i wr => ∃ (k : Nat), k + m = 100 ∧ i = .int .i64 k ∧ Both w w1.heap.size w2.heap.size k wr)
  case atStart => exact ⟨0, by omega, rfl, hJ⟩
  case round =>
    obtain ⟨k, hk, rfl, hJ'⟩ := hrel
    clear hJ
    have Hk := Lib.hid hk
    have hk1 : k ≤ 100 := by omega
    clear hk
    obtain ⟨w1s, rfl⟩ : ∃ n : Nat, n = w1.heap.size := ⟨_, rfl⟩
    obtain ⟨w2s, rfl⟩ : ∃ n : Nat, n = w2.heap.size := ⟨_, rfl⟩
    by_cases hlt : k < len
    · by_cases hlt2 : k < len'
      · by_cases hlt3 : k < 100
        · obtain ⟨on, fuse, L, U, q0, q1, q2, q3, hB1, hB2, hb⟩ := hJ'
          obtain ⟨b, off, rfl, hbl, hc⟩ := Hrow.out.in_ hb (i := k) (by have := Hlen.out; omega)
          obtain ⟨b', off', rfl, hbl', hc'⟩ := Hrow'.out.in_ hb (i := k) (by have := Hlen'.out; omega)
          have hy := bounds_i64 (Hw.out (ys[k]'(by have := Hlen'.out; omega)) (List.getElem_mem _))
          generalize xs[k]'(by have := Hlen.out; omega) = x at hc
          generalize ys[k]'(by have := Hlen'.out; omega) = y at hc' hy
          go_upto_block 2 with fail
          go_cut [] (fun wx => Both w w1.heap.size w2.heap.size (k + 1) wx)
          case first =>
            by_cases h1 : x = 1
            · subst h1
              by_cases hon : on = true ∧ fuse ≠ 0
              · obtain ⟨rfl, hf⟩ := hon
                go_wp2_with fail
                refine (use_ok _ _ _ _ _ hB1 hf (by omega) (by omega) (by omega) (by omega)).mono ?_
                rintro e w4 ⟨rfl, hU4⟩
                have hb4 : Below w.heap.size w w4 := hU4.below hb hs1 hb.size
                have hB4 := hU4.blk
                have hB4' := hB2.grown hU4.grown (by simp; omega)
                clear hU4 hB1 hB2 hb hc hc'
                go_wp2_with fail
                refine (ruse_ok _ _ _ _ _ hB4' hf (by omega) (by omega) (by omega) (by omega)).mono ?_
                rintro e w5 ⟨rfl, hU5⟩
                have hb5 : Below w.heap.size w w5 := hU5.below hb4 (by omega) hb4.size
                have hB5 := hU5.blk
                have hB5' := hB4.grown hU5.grown (by simp; omega)
                clear hU5 hB4 hB4' hb4
                go_wp2_with fail
                go_meet
                case rel => exact ⟨true, max (fuse - 1) (-1), L, U + 1, by omega, by omega, by omega, by omega, hB5', hB5, hb5⟩
              · have hd : (!on || fuse == 0) = true := by
                  cases on
                  · rfl
                  · simp at hon ⊢; exact hon
                clear hon
                go_wp2_with fail
                refine (use_down _ _ _ _ _ _ hB1 hd).mono ?_
                rintro e w4 ⟨rfl, hU4⟩
                have hb4 : Below w.heap.size w w4 := hU4.below hb hs1 hb.size
                have hB4 := hU4.blk
                have hB4' := hB2.grown hU4.grown (by simp; omega)
                clear hU4 hB1 hB2 hb hc hc'
                have Hd := Lib.hid hd
                clear hd
                go_wp2_with fail
                refine (ruse_down _ _ _ _ _ _ hB4' Hd.out).mono ?_
                rintro e w5 ⟨rfl, hU5⟩
                have hb5 : Below w.heap.size w w5 := hU5.below hb4 (by omega) hb4.size
                have hB5 := hU5.blk
                have hB5' := hB4.grown hU5.grown (by simp; omega)
                clear hU5 hB4 hB4' hb4
                go_wp2_with fail
                go_meet
                case rel => exact ⟨false, fuse, L, U, by omega, by omega, by omega, by omega, hB5', hB5, hb5⟩
            · by_cases h2 : x = 2
              · subst h2
                go_wp2_with fail
                refine (fuse_any _ _ _ _ _ _ _ hB1).mono ?_
                rintro e w4 ⟨rfl, hU4⟩
                have hb4 : Below w.heap.size w w4 := hU4.below hb hs1 hb.size
                have hB4 := hU4.blk
                have hB4' := hB2.grown hU4.grown (by simp; omega)
                have hc4 : w4.cell? ⟨b', off' + k, none⟩ = some (.int .i64 y) := (grown_cell hU4.grown (p := ⟨b', _, none⟩) (by have := hb.size; simp; omega) (by simp; omega)).trans hc'
                obtain ⟨_, _, _, _, _, f1, _, _⟩ := mref_cells hB4'
                clear hU4 hB1 hB2 hb hc hc'
                by_cases hy1 : y < -1
                · go_wp2_with fail
                  go_meet
                  case rel => exact ⟨on, -1, L, U, by omega, by omega, by omega, by omega, by rw [show max y (-1) = -1 by omega] at hB4; exact hB4.far (by simp; omega) _, hB4'.set_ 1 _, hb4.setCell (by simp; omega) _⟩
                · go_wp2_with fail
                  go_meet
                  case rel => exact ⟨on, y, L, U, by omega, by omega, by omega, by omega, by rw [show max y (-1) = y by omega] at hB4; exact hB4.far (by simp; omega) _, hB4'.set_ 1 _, hb4.setCell (by simp; omega) _⟩
              · by_cases h3 : x = 3
                · subst h3
                  go_wp2_with fail
                  refine (cut_any _ _ _ _ _ _ hB1).mono ?_
                  rintro e w4 ⟨rfl, hU4⟩
                  have hb4 : Below w.heap.size w w4 := hU4.below hb hs1 hb.size
                  have hB4 := hU4.blk
                  have hB4' := hB2.grown hU4.grown (by simp; omega)
                  obtain ⟨_, _, _, _, f0, _, _, _⟩ := mref_cells hB4'
                  clear hU4 hB1 hB2 hb hc hc'
                  go_wp2_with fail
                  go_meet
                  case rel => exact ⟨false, fuse, L, U, by omega, by omega, by omega, by omega, hB4.far (by simp; omega) _, hB4'.set_ 0 _, hb4.setCell (by simp; omega) _⟩
                · by_cases h4 : x = 4
                  · subst h4
                    cases on
                    · go_wp2_with fail
                      refine (come_away _ _ _ _ _ hB1 (by omega) (by omega)).mono ?_
                      rintro e w4 ⟨rfl, hU4⟩
                      have hb4 : Below w.heap.size w w4 := hU4.below hb hs1 hb.size
                      have hB4 := hU4.blk
                      have hB4' := hB2.grown hU4.grown (by simp; omega)
                      clear hU4 hB1 hB2 hb hc hc'
                      go_wp2_with fail
                      refine (rcome_away _ _ _ _ _ hB4' (by omega) (by omega)).mono ?_
                      rintro e w5 ⟨rfl, hU5⟩
                      have hb5 : Below w.heap.size w w5 := hU5.below hb4 (by omega) hb4.size
                      have hB5 := hU5.blk
                      have hB5' := hB4.grown hU5.grown (by simp; omega)
                      clear hU5 hB4 hB4' hb4
                      go_wp2_with fail
                      go_meet
                      case rel => exact ⟨true, -1, L + 1, U, by omega, by omega, by omega, by omega, hB5', hB5, hb5⟩
                    · go_wp2_with fail
                      refine (come_there _ _ _ _ _ hB1).mono ?_
                      rintro e w4 ⟨rfl, rfl⟩
                      go_wp2_with fail
                      refine (rcome_there _ _ _ _ _ hB2).mono ?_
                      rintro e w5 ⟨rfl, rfl⟩
                      go_wp2_with fail
                      go_meet
                      case rel => exact ⟨true, fuse, L, U, by omega, by omega, by omega, by omega, hB1, hB2, hb⟩
                  · go_wp2_with fail
                    go_meet
                    case rel => exact ⟨on, fuse, L, U, by omega, by omega, by omega, by omega, hB1, hB2, hb⟩
          case rest =>
            obtain ⟨on, fuse, L, U, q0, q1, q2, q3, hB1, hB2, hb⟩ := hcut
            obtain ⟨c0, c1, c2, c3, _, _, _, _⟩ := mref_cells hB2
            go_wp2_with fail
            go_quiet ((first | (go_at_call 32; exact quiet_left (on_any _ _ _ _ _ _ (hB1.drewN _))) | (go_at_call 35; exact quiet_left (lives_any _ _ _ _ _ _ (hB1.drewN _))) | (go_at_call 33; exact quiet_left (uses_any _ _ _ _ _ _ (hB1.drewN _)))))
            go_wp2_with fail
            go_roundg (gk - 1)
            case measure => have := Hk.out; omega
            case rel => exact ⟨k + 1, by have := Hk.out; omega, by go_num, on, fuse, L, U, q0, q1, q2, q3, hB1.drewN _, hB2.drewN _, below_drewN hb _⟩
        · obtain ⟨_, _, _, _, _, _, _, _, _, _, hb⟩ := hJ'
          go_wp2_with (first | (go_at_call 30; refine (nil_fuse _ _).mono ?_; rintro e w5 ⟨rfl, rfl⟩) | (go_at_call 38; refine (nil_cut _).mono ?_; rintro e w5 ⟨rfl, rfl⟩) | (go_at_call 34; refine (nil_come _).mono ?_; rintro e w5 ⟨rfl, rfl⟩))
          go_wp2
          go_ret
          exact ⟨rfl, hb⟩
      · obtain ⟨_, _, _, _, _, _, _, _, _, _, hb⟩ := hJ'
        go_wp2_with (first | (go_at_call 30; refine (nil_fuse _ _).mono ?_; rintro e w5 ⟨rfl, rfl⟩) | (go_at_call 38; refine (nil_cut _).mono ?_; rintro e w5 ⟨rfl, rfl⟩) | (go_at_call 34; refine (nil_come _).mono ?_; rintro e w5 ⟨rfl, rfl⟩))
        go_wp2
        go_ret
        exact ⟨rfl, hb⟩
    · obtain ⟨_, _, _, _, _, _, _, _, _, _, hb⟩ := hJ'
      go_wp2_with (first | (go_at_call 30; refine (nil_fuse _ _).mono ?_; rintro e w5 ⟨rfl, rfl⟩) | (go_at_call 38; refine (nil_cut _).mono ?_; rintro e w5 ⟨rfl, rfl⟩) | (go_at_call 34; refine (nil_come _).mono ?_; rintro e w5 ⟨rfl, rfl⟩))
      go_wp2
      go_ret
      exact ⟨rfl, hb⟩
theorem mainsExact_walk (w : World) (v0 v1 : Value) (h0 : Arg Try.prog w 49 v0) (h1 : Arg Try.prog w 49 v1) :
    Calls Try.prog 6 #[v0, v1] w fun e w' => e = .returned (.bool true) ∧ Below w.heap.size w w' := by
  obtain ⟨A, len, cap, xs, rfl, _, _, h3, _, h4⟩ := arg_ints Try.underlying49 Try.underlying3 (by kernel_rfl) h0
  obtain ⟨A', len', cap', ys, rfl, _, _, h3', h5, h4'⟩ := arg_ints Try.underlying49 Try.underlying3 (by kernel_rfl) h1
  exact mainsExact_core A A' len cap len' cap' xs ys w h3 h3' h4 h4' h5
end Go.Proofs.Ytkeloklncjfddaa
