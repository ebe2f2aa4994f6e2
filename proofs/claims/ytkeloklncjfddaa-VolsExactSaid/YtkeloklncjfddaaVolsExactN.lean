/- The walk of VolsExact: volumes that can't be; the two ways joined. -/
import Derived.Test.YtkeloklncjfddaaVolsExact
import Derived.Test.YtkeloklncjfddaaFitB
namespace Go.Proofs.Ytkeloklncjfddaa
set_option linter.unusedVariables false
set_option linter.unusedSimpArgs false
open Go.RowKit Go.ChangeShapes Go.WideShapes Go.ChangeAt

set_option maxRecDepth 100000 in
set_option maxHeartbeats 4000000 in
theorem volsExact_no (i s r f : Int) (p : Bool) (k v : Int) (w : World) (hg : ¬ GoodVol i s r f) (h0 : 0 ≤ k) (h1 : k ≤ 18446744073709551615) (h2 : 0 ≤ v) (h3 : v ≤ 18446744073709551615) :
    Calls Try.prog 3 #[volV i s r p f, .agg #[.int .u64 k, .int .u64 v]] w fun e w' => e = .returned (.bool true) ∧ Below w.heap.size w w' := by
  have Hg := Lib.hid hg
  clear hg
  go_enter Try.func3, Try.ntmps3
  go_wp2_with fail
  refine (awake11 _).mono ?_
  rintro e w1 ⟨rfl, hb1⟩
  have V1 : VW w w.heap.size (w.heap.size + 1) i s r f p k v w1 := VW.call ⟨(Blk.new _ _ _).alloc _, blk_new (by simp), by (repeat (first | with_reducible exact Below.refl _ _ | with_reducible assumption | with_reducible apply Below.drew | with_reducible apply below_drewN | (with_reducible refine below_set ?_ ?_; focus ((try simp); (try omega); done)) | (with_reducible refine below_new ?_ ?_; focus ((try simp); (try omega); done))))⟩ hb1
  clear hb1
  obtain ⟨z0, z1, c0, c1, c2, c3, c4, c5, c6⟩ := V1.cells
  go_wp2_with fail
  refine (pair11_no _ _ _ _ _ _ Hg.out).mono ?_
  rintro e w2 ⟨rfl, hb2⟩
  have V2 := V1.call hb2
  clear V1 hb2 z0 z1 c0 c1 c2 c3 c4 c5 c6
  obtain ⟨z0, z1, c0, c1, c2, c3, c4, c5, c6⟩ := V2.cells
  go_upto_region 4 with fail
  go_cut [24] (fun s24 wx => s24 = .bool false ∧ VW w w.heap.size (w.heap.size + 1) i s r f p k v wx ∧ Blk wx w2.heap.size 26 #[.int .u64 0, .int .u64 0])
  case first =>
    go_region_with (first
      | (go_at_call 16; go_must (refine (rgood11_no _ _ _ _ _ _ Hg.out).mono ?_; rintro e w4 ⟨rfl, hw4⟩; obtain ⟨hcw4, hfw4⟩ := bcell hw4; have hsw4 := hw4.size; (try simp at hsw4)))
      | (go_at_call 15; go_must (refine (good11_no' _ _ _ _ _ _ Hg.out).mono ?_; rintro e w3 ⟨rfl, hw3⟩; obtain ⟨hcw3, hfw3⟩ := bcell hw3; have hsw3 := hw3.size; (try simp at hsw3); have y0 : w.heap.size < w3.heap.size := (by omega))))
    all_goals
      go_wp2_with fail
      go_meet
      case rel => exact ⟨rfl, (((V2.new _).drew).call hw3).call hw4, ((Blk.new _ _ _).drew.below hw3 (by simp)).below hw4 (by omega)⟩
  case rest =>
    obtain ⟨rfl, V3, Q3⟩ := hcut
    obtain ⟨i', s', r', f', p', b', HR1, HR2⟩ := both_reads k v h0 h1 h2 h3
    have hr1 := Lib.hid HR1
    have hr2 := Lib.hid HR2
    clear V2 HR1 HR2 z0 z1 c0 c1 c2 c3 c4 c5 c6 h0 h1 h2 h3
    obtain ⟨z0, z1, c0, c1, c2, c3, c4, c5, c6⟩ := V3.cells
    generalize w2.heap.size = b5 at Q3 ⊢
    go_wp2_with fail
    refine (rgood11_no _ _ _ _ _ _ Hg.out).mono ?_
    rintro e w5 ⟨rfl, hb5⟩
    have V7 := V3.call hb5
    have Q5 := Q3.below hb5 Q3.lt
    clear V3 Q3 hb5 z0 z1 c0 c1 c2 c3 c4 c5 c6
    obtain ⟨z0, z1, c0, c1, c2, c3, c4, c5, c6⟩ := V7.cells
    have q0 := Q5.cell 0
    have q1 := Q5.cell 1
    have q2 := Q5.lt
    simp at q0 q1
    go_wp2_with fail
    refine (hr1.out _).mono ?_
    rintro e w8 ⟨rfl, hb8⟩
    have V8 := V7.call hb8
    clear V7 Q5 q0 q1 q2 hb8 z0 z1 c0 c1 c2 c3 c4 c5 c6
    obtain ⟨z0, z1, c0, c1, c2, c3, c4, c5, c6⟩ := V8.cells
    go_wp2_with fail
    refine (hr2.out _).mono ?_
    rintro e w9 ⟨rfl, hb9⟩
    have V9 := (V8.new _).call hb9
    have hc9 := (bcell hb9).1
    have hs9 : w8.heap.size < w9.heap.size := by have := hb9.size; simp at this; omega
    go_wp2_with fail
    go_ret
    exact ⟨ret_bool (by simp), by have := V9.below; (repeat (first | with_reducible exact Below.refl _ _ | with_reducible assumption | with_reducible apply Below.drew | with_reducible apply below_drewN | (with_reducible refine below_set ?_ ?_; focus ((try simp); (try omega); done)) | (with_reducible refine below_new ?_ ?_; focus ((try simp); (try omega); done))))⟩

theorem cells_i : Try.prog.cellsOf 3 = 1 := by kernel_rfl
theorem cells_b : Try.prog.cellsOf 4 = 1 := by kernel_rfl
theorem cells_u : Try.prog.cellsOf 24 = 1 := by kernel_rfl
theorem cells_vol : Try.prog.cellsOf 23 = 5 := by kernel_rfl
theorem cells_pair : Try.prog.cellsOf 26 = 2 := by kernel_rfl
theorem arg_volume {w : World} {v : Value} (h : Arg Try.prog w 23 v) : ∃ (i s r f : Int) (p : Bool), v = volV i s r p f := by
  obtain ⟨cs, rfl, hf⟩ := arg_struct Try.underlying23 h
  obtain ⟨hl, hx⟩ := fit_fields 5 Try.underlying23 cells_vol hf
  obtain ⟨i, e0, _⟩ := cell_int Try.underlying3 (hx 0 0 3 1 rfl cells_i)
  obtain ⟨s, e1, _⟩ := cell_int Try.underlying3 (hx 1 1 3 1 rfl cells_i)
  obtain ⟨r, e2, _⟩ := cell_int Try.underlying3 (hx 2 2 3 1 rfl cells_i)
  obtain ⟨p, e3⟩ := cell_bool Try.underlying4 (hx 3 3 4 1 rfl cells_b)
  obtain ⟨f, e4, _⟩ := cell_int Try.underlying3 (hx 4 4 3 1 rfl cells_i)
  exact ⟨i, s, r, f, p, by rw [list5_of hl e0 e1 e2 e3 e4]⟩
theorem arg_pair {w : World} {v : Value} (h : Arg Try.prog w 26 v) : ∃ (k x : Int), v = .agg #[.int .u64 k, .int .u64 x] ∧ 0 ≤ k ∧ k ≤ 18446744073709551615 ∧ 0 ≤ x ∧ x ≤ 18446744073709551615 := by
  obtain ⟨cs, rfl, hf⟩ := arg_struct Try.underlying26 h
  obtain ⟨hl, hx⟩ := fit_fields 2 Try.underlying26 cells_pair hf
  obtain ⟨k, e0, w0⟩ := cell_int Try.underlying24 (hx 0 0 24 1 rfl cells_u)
  obtain ⟨x, e1, w1⟩ := cell_int Try.underlying24 (hx 1 1 24 1 rfl cells_u)
  have b0 := bounds_u64 w0
  have b1 := bounds_u64 w1
  exact ⟨k, x, by rw [list2_of hl e0 e1], by omega, by omega, by omega, by omega⟩

theorem volsExact_walk (w : World) (v0 v1 : Value) (h0 : Arg Try.prog w 23 v0) (h1 : Arg Try.prog w 26 v1) :
    Calls Try.prog 3 #[v0, v1] w fun e w' => e = .returned (.bool true) ∧ Below w.heap.size w w' := by
  obtain ⟨i, s, r, f, p, rfl⟩ := arg_volume h0
  obtain ⟨k, x, rfl, a0, a1, a2, a3⟩ := arg_pair h1
  by_cases hg : GoodVol i s r f
  · exact volsExact_yes i s r f p k x w hg a0 a1 a2 a3
  · exact volsExact_no i s r f p k x w hg a0 a1 a2 a3
end Go.Proofs.Ytkeloklncjfddaa
