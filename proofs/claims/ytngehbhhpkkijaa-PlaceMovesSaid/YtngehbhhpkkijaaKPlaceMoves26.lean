/- The first look at places. -/
import Derived.Test.YtngehbhhpkkijaaKPlaceMoves25
import Derived.Test.YtngehbhhpkkijaaKPlaceMoves02
namespace Go.Proofs.Ytngehbhhpkkijaa
set_option linter.unusedVariables false
set_option linter.unusedSimpArgs false
open Go.RowKit

theorem row_one {w : World} {g : Nat} {c t s : Int} (h : Blk w g 110 #[.int .i64 c, .int .i64 t, .int .i64 s]) : Row w (some ⟨g, 0, none⟩) 3 plC [(c, t, s)] := by
  intro i x hx
  match i, hx with
  | 0, hx =>
    simp at hx
    subst hx
    refine ⟨g, 0, rfl, h.lt, fun j u hu => ?_⟩
    have := h.cell (0 + 0 * 3 + j)
    rw [this]
    simpa [plC] using hu
theorem goodPls_iff {L : List PlD} {s0 s1 : Int} : goodPls L s0 s1 = true ↔ ∀ i, i < L.length → okP L s0 s1 i := by unfold goodPls; simp
theorem goodPls_yes : goodPls [(5, 1, 2)] 1 3 = true := by
  rw [goodPls_iff]
  intro i hi
  obtain rfl : i = 0 := by simpa using hi
  unfold okP GoodPl limOf seenB cAt tAt sAt
  simp
theorem goodPls_no : goodPls [(5, 1, 2)] 9 2 = false := by
  rw [Bool.eq_false_iff]
  intro h
  have h1 := (goodPls_iff.1 h 0 (by simp)).2.1
  unfold limOf tAt sAt at h1
  simp at h1
theorem wf_place : ∀ x ∈ ([(5, 1, 2)] : List PlD), wfP x := by
  intro x hx
  simp at hx
  subst hx
  exact ⟨by rfl, by rfl, by rfl⟩
theorem plOk_num : PlOk 8589934597 513 := by unfold PlOk GoodPl; decide

set_option maxRecDepth 100000 in
set_option maxHeartbeats 2000000 in
theorem awake14 (w : World) : Calls Try.prog 48 #[] w fun e w' => e = .returned (.bool true) ∧ Ext w w' := by
  have P1 := fun W => ppair_yes 5 1 2 W (by unfold GoodPl; omega)
  have R1 := fun W => pread_yes 8589934597 513 W (by omega) (by omega) (by omega) (by omega) plOk_num
  simp only [Int.reduceMod, Int.reduceDiv, Int.reduceAdd, Int.reduceMul] at P1 R1
  have P2 := fun W => ppair_no 0 0 0 W (by unfold GoodPl; omega)
  have G1 := fun (W : World) (g : Nat) (h : Blk W g 110 #[.int .i64 5, .int .i64 1, .int .i64 2]) => pgood_any (some ⟨g, 0, none⟩) 1 1 [(5, 1, 2)] 1 3 W rfl (by omega) (row_one h) wf_place
  have G2 := fun (W : World) (g : Nat) (h : Blk W g 110 #[.int .i64 5, .int .i64 1, .int .i64 2]) => pgood_any (some ⟨g, 0, none⟩) 1 1 [(5, 1, 2)] 9 2 W rfl (by omega) (row_one h) wf_place
  rw [goodPls_yes] at G1
  rw [goodPls_no] at G2
  have HP1 := Lib.hid P1
  have HR1 := Lib.hid R1
  have HP2 := Lib.hid P2
  have HG1 := Lib.hid G1
  have HG2 := Lib.hid G2
  clear P1 R1 P2 G1 G2
  go_enter Try.func48, Try.ntmps48
  go_wp2_with fail
  refine (HP1.out _).mono ?_
  rintro e w1 ⟨rfl, hb1⟩
  have hs1 := hb1.size
  simp at hs1
  have hw1 : Below w.heap.size w w1 := Below.trans (by (repeat (first | with_reducible exact Below.refl _ _ | with_reducible assumption | with_reducible apply Below.drew | with_reducible apply below_drewN | (with_reducible refine below_set ?_ ?_; focus ((try simp); (try omega); done)) | (with_reducible refine below_new ?_ ?_; focus ((try simp); (try omega); done))))) (hb1.mono (by simp))
  have O1 := (((Own.start w).new 110 #[.int .i64 5, .int .i64 1, .int .i64 2]).ext hb1).new 38 #[.int .u64 8589934597, .int .u64 513]
  obtain ⟨hc1, hf1⟩ := bcell hb1
  go_wp2_with fail
  refine (HR1.out _).mono ?_
  rintro e w2 ⟨rfl, hb2⟩
  have O2 := (O1.ext hb2).new 110 #[.int .i64 5, .int .i64 1, .int .i64 2]
  clear O1 hb2 hc1 hf1 hb1
  go_wp2_with fail
  refine (HP2.out _).mono ?_
  rintro e w3 ⟨rfl, hb3⟩
  have O3 := (O2.ext hb3).new 38 #[.int .u64 0, .int .u64 0]
  clear O2 hb3 hw1 hs1
  obtain ⟨B4, B3, B2, B1, _⟩ := O3.all
  have q0 := B1.cell 0
  have q1 := B1.cell 1
  have q2 := B1.cell 2
  have p0 := B2.cell 0
  have p1 := B2.cell 1
  have r0 := B3.cell 0
  have r1 := B3.cell 1
  have r2 := B3.cell 2
  simp at q0 q1 q2 p0 p1 r0 r1 r2
  clear B1 B2 B3 B4
  go_wp2_with fail
  refine (HG1.out _ _ (blk_new (by simp))).mono ?_
  rintro e w4 ⟨rfl, hb4⟩
  have O4 := (O3.new 110 #[.int .i64 5, .int .i64 1, .int .i64 2]).ext hb4
  clear O3 hb4 q0 q1 q2 p0 p1 r0 r1 r2
  obtain ⟨_, _, _, _, B1, _⟩ := O4.all
  have q0 := B1.cell 0
  have q1 := B1.cell 1
  have q2 := B1.cell 2
  simp at q0 q1 q2
  clear B1
  go_wp2_with fail
  refine (HG2.out _ _ (Blk.new _ _ _)).mono ?_
  rintro e w5 ⟨rfl, hb5⟩
  have O5 := (O4.new 110 #[.int .i64 5, .int .i64 1, .int .i64 2]).ext hb5
  clear O4 hb5 q0 q1 q2
  go_wp2_with fail
  go_ret
  exact ⟨rfl, O5.below⟩
end Go.Proofs.Ytngehbhhpkkijaa

/- The arguments of PlaceExact. -/
namespace Go.Proofs.Ytngehbhhpkkijaa
set_option linter.unusedVariables false
set_option linter.unusedSimpArgs false
open Go.RowKit Go.ChangeShapes Go.WideShapes Go.ChangeAt

theorem cells_place : Try.prog.cellsOf 110 = 3 := by kernel_rfl
theorem cells_pair14 : Try.prog.cellsOf 38 = 2 := by kernel_rfl
theorem cells_u14 : Try.prog.cellsOf 30 = 1 := by kernel_rfl
theorem cells_arr14 : Try.prog.cellsOf 115 = 2 := by kernel_rfl
theorem take_drop_get {α : Type} {cs : List α} {o c i : Nat} {x : α} (h : ((cs.drop o).take c)[i]? = some x) (hi : i < c) : cs[o + i]? = some x := by
  rw [List.getElem?_take_of_lt hi, List.getElem?_drop] at h
  exact h
theorem take_one_get {α : Type} {cs : List α} {i : Nat} {v : α} (h : (cs.drop i).take 1 = [v]) : cs[i]? = some v := take1_drop h
theorem fit_spot {w : World} {cs : List Value} (hf : Fit Try.prog w 108 cs) : ∃ t s : Int, cs = [.int .i64 t, .int .i64 s] ∧ (Lit.int .i64 t).wf = true ∧ (Lit.int .i64 s).wf = true := by
  obtain ⟨hl, hx⟩ := fit_fields 2 Try.underlying108 cells_spot hf
  obtain ⟨t, e0, w0⟩ := cell_int Try.underlying3 (hx 0 0 3 1 rfl cells_int_)
  obtain ⟨s, e1, w1⟩ := cell_int Try.underlying3 (hx 1 1 3 1 rfl cells_int_)
  exact ⟨t, s, list2_of hl e0 e1, w0, w1⟩
theorem fit_place {w : World} {cs : List Value} (hf : Fit Try.prog w 110 cs) : ∃ x : PlD, cs = plC x ∧ wfP x := by
  obtain ⟨hl, hx⟩ := fit_fields 3 Try.underlying110 cells_place hf
  obtain ⟨c, e0, w0⟩ := cell_int Try.underlying3 (hx 0 0 3 1 rfl cells_int_)
  obtain ⟨t, s, e1, w1, w2⟩ := fit_spot (hx 1 1 108 2 rfl cells_spot)
  have h1 : cs[1 + 0]? = some (.int .i64 t) := take_drop_get (c := 2) (by rw [e1]; rfl) (by omega)
  have h2 : cs[1 + 1]? = some (.int .i64 s) := take_drop_get (c := 2) (by rw [e1]; rfl) (by omega)
  exact ⟨(c, t, s), list3_of hl e0 h1 h2, w0, w1, w2⟩
theorem arg_place {w : World} {v : Value} (h : Arg Try.prog w 110 v) : ∃ c t s : Int, v = placeV c t s := by
  obtain ⟨cs, rfl, hf⟩ := arg_struct Try.underlying110 h
  obtain ⟨x, rfl, _⟩ := fit_place hf
  exact ⟨x.1, x.2.1, x.2.2, rfl⟩
theorem arg_pair14 {w : World} {v : Value} (h : Arg Try.prog w 38 v) : ∃ (k x : Int), v = pairV k x ∧ 0 ≤ k ∧ k ≤ 18446744073709551615 ∧ 0 ≤ x ∧ x ≤ 18446744073709551615 := by
  obtain ⟨cs, rfl, hf⟩ := arg_struct Try.underlying38 h
  obtain ⟨hl, hx⟩ := fit_fields 2 Try.underlying38 cells_pair14 hf
  obtain ⟨k, e0, w0⟩ := cell_int Try.underlying30 (hx 0 0 30 1 rfl cells_u14)
  obtain ⟨x, e1, w1⟩ := cell_int Try.underlying30 (hx 1 1 30 1 rfl cells_u14)
  have b0 := bounds_u64 w0
  have b1 := bounds_u64 w1
  exact ⟨k, x, by rw [list2_of hl e0 e1], by omega, by omega, by omega, by omega⟩
theorem arg_slots {w : World} {v : Value} (h : Arg Try.prog w 115 v) : ∃ (a b : Int), v = .agg #[.int .i64 a, .int .i64 b] := by
  obtain ⟨cs, rfl, hf⟩ := arg_array Try.underlying115 h
  obtain ⟨hl, hx⟩ := fit_array Try.underlying115 hf
  rw [cells_arr14] at hl
  have g := fun i hi => hx i hi
  rw [cells_int_] at g
  obtain ⟨a, e0, _⟩ := fit_int Try.underlying3 (g 0 (by omega))
  obtain ⟨b, e1, _⟩ := fit_int Try.underlying3 (g 1 (by omega))
  exact ⟨a, b, by rw [list2_of hl (take1_drop e0) (take1_drop e1)]⟩
theorem arg_places {w : World} {v : Value} (h : Arg Try.prog w 111 v) :
    ∃ A len cap, ∃ xs : List PlD, v = .slice A len cap ∧ len ≤ cap ∧ cap ≤ maxLen ∧ xs.length = len ∧ (∀ x ∈ xs, wfP x) ∧ Row w A 3 plC xs :=
  fit_row plC wfP Try.underlying111 cells_place (by decide) (fun _ _ hf => fit_place hf) (arg_slice Try.underlying111 h)
end Go.Proofs.Ytngehbhhpkkijaa
