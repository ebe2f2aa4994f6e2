/- The first look at places. -/
import Derived.Test.YtojilbacloegjaaKPlaceExact06
import Derived.Test.YtojilbacloegjaaKPlaceExact09
import Derived.Test.YtojilbacloegjaaKPlaceExact02
namespace Go.Proofs.Ytojilbacloegjaa
set_option linter.unusedVariables false
set_option linter.unusedSimpArgs false
open Go.RowKit

theorem row_one {w : World} {g : Nat} {c t s : Int} (h : Blk w g 25 #[.int .i64 c, .int .i64 t, .int .i64 s]) : Row w (some ⟨g, 0, none⟩) 3 plC [(c, t, s)] := by
  intro i x hx
  match i, hx with
  | 0, hx =>
    simp at hx
    subst hx
    refine ⟨g, 0, rfl, h.lt, fun j u hu => ?_⟩
    have := h.cell (0 + 0 * 3 + j)
    rw [this]
    simpa [plC] using hu
theorem goodPls_iff {L : List PlD} {s0 s1 : Int} : goodPls L s0 s1 = true ↔ ∀ i, i < L.length → okP L s0 s1 i := by unfold goodPls; simp
theorem goodPls_yes : goodPls [(5, 1, 2)] 1 3 = true := by
  rw [goodPls_iff]
  intro i hi
  obtain rfl : i = 0 := by simpa using hi
  unfold okP GoodPl limOf seenB cAt tAt sAt
  simp
theorem goodPls_no : goodPls [(5, 1, 2)] 9 2 = false := by
  rw [Bool.eq_false_iff]
  intro h
  have h1 := (goodPls_iff.1 h 0 (by simp)).2.1
  unfold limOf tAt sAt at h1
  simp at h1
theorem wf_place : ∀ x ∈ ([(5, 1, 2)] : List PlD), wfP x := by
  intro x hx
  simp at hx
  subst hx
  exact ⟨by rfl, by rfl, by rfl⟩
theorem plOk_num : PlOk 8589934597 513 := by unfold PlOk GoodPl; decide

set_option maxRecDepth 100000 in
set_option maxHeartbeats 2000000 in
theorem awake14 (w : World) : Calls Try.prog 7 #[] w fun e w' => e = .returned (.bool true) ∧ Ext w w' := by
  have P1 := fun W => ppair_yes 5 1 2 W (by unfold GoodPl; omega)
  have R1 := fun W => pread_yes 8589934597 513 W (by omega) (by omega) (by omega) (by omega) plOk_num
  simp only [Int.reduceMod, Int.reduceDiv, Int.reduceAdd, Int.reduceMul] at P1 R1
  have P2 := fun W => ppair_no 0 0 0 W (by unfold GoodPl; omega)
  have G1 := fun (W : World) (g : Nat) (h : Blk W g 25 #[.int .i64 5, .int .i64 1, .int .i64 2]) => pgood_any (some ⟨g, 0, none⟩) 1 1 [(5, 1, 2)] 1 3 W rfl (by omega) (row_one h) wf_place
  have G2 := fun (W : World) (g : Nat) (h : Blk W g 25 #[.int .i64 5, .int .i64 1, .int .i64 2]) => pgood_any (some ⟨g, 0, none⟩) 1 1 [(5, 1, 2)] 9 2 W rfl (by omega) (row_one h) wf_place
  rw [goodPls_yes] at G1
  rw [goodPls_no] at G2
  have HP1 := Lib.hid P1
  have HR1 := Lib.hid R1
  have HP2 := Lib.hid P2
  have HG1 := Lib.hid G1
  have HG2 := Lib.hid G2
  clear P1 R1 P2 G1 G2
  go_enter Try.func7, Try.ntmps7
  go_wp2_with fail
  refine (HP1.out _).mono ?_
  rintro e w1 ⟨rfl, hb1⟩
  have hs1 := hb1.size
  simp at hs1
  have hw1 : Below w.heap.size w w1 := Below.trans (by (repeat (first | with_reducible exact Below.refl _ _ | with_reducible assumption | with_reducible apply Below.drew | with_reducible apply below_drewN | (with_reducible refine below_set ?_ ?_; focus ((try simp); (try omega); done)) | (with_reducible refine below_new ?_ ?_; focus ((try simp); (try omega); done))))) (hb1.mono (by simp))
  have O1 := (((Own.start w).new 25 #[.int .i64 5, .int .i64 1, .int .i64 2]).ext hb1).new 28 #[.int .u64 8589934597, .int .u64 513]
  obtain ⟨hc1, hf1⟩ := bcell hb1
  go_wp2_with fail
  refine (HR1.out _).mono ?_
  rintro e w2 ⟨rfl, hb2⟩
  have O2 := (O1.ext hb2).new 25 #[.int .i64 5, .int .i64 1, .int .i64 2]
  clear O1 hb2 hc1 hf1 hb1
  go_wp2_with fail
  refine (HP2.out _).mono ?_
  rintro e w3 ⟨rfl, hb3⟩
  have O3 := (O2.ext hb3).new 28 #[.int .u64 0, .int .u64 0]
  clear O2 hb3 hw1 hs1
  obtain ⟨B4, B3, B2, B1, _⟩ := O3.all
  have q0 := B1.cell 0
  have q1 := B1.cell 1
  have q2 := B1.cell 2
  have p0 := B2.cell 0
  have p1 := B2.cell 1
  have r0 := B3.cell 0
  have r1 := B3.cell 1
  have r2 := B3.cell 2
  simp at q0 q1 q2 p0 p1 r0 r1 r2
  clear B1 B2 B3 B4
  go_wp2_with fail
  refine (HG1.out _ _ (blk_new (by simp))).mono ?_
  rintro e w4 ⟨rfl, hb4⟩
  have O4 := (O3.new 25 #[.int .i64 5, .int .i64 1, .int .i64 2]).ext hb4
  clear O3 hb4 q0 q1 q2 p0 p1 r0 r1 r2
  obtain ⟨_, _, _, _, B1, _⟩ := O4.all
  have q0 := B1.cell 0
  have q1 := B1.cell 1
  have q2 := B1.cell 2
  simp at q0 q1 q2
  clear B1
  go_wp2_with fail
  refine (HG2.out _ _ (Blk.new _ _ _)).mono ?_
  rintro e w5 ⟨rfl, hb5⟩
  have O5 := (O4.new 25 #[.int .i64 5, .int .i64 1, .int .i64 2]).ext hb5
  clear O4 hb5 q0 q1 q2
  go_wp2_with fail
  go_ret
  exact ⟨rfl, O5.below⟩
end Go.Proofs.Ytojilbacloegjaa

/- The arguments of PlaceExact. -/
namespace Go.Proofs.Ytojilbacloegjaa
set_option linter.unusedVariables false
set_option linter.unusedSimpArgs false
open Go.RowKit Go.ChangeShapes Go.WideShapes Go.ChangeAt

theorem cells_place : Try.prog.cellsOf 25 = 3 := by kernel_rfl
theorem cells_pair14 : Try.prog.cellsOf 28 = 2 := by kernel_rfl
theorem cells_u14 : Try.prog.cellsOf 26 = 1 := by kernel_rfl
theorem cells_arr14 : Try.prog.cellsOf 30 = 2 := by kernel_rfl
theorem take_drop_get {α : Type} {cs : List α} {o c i : Nat} {x : α} (h : ((cs.drop o).take c)[i]? = some x) (hi : i < c) : cs[o + i]? = some x := by
  rw [List.getElem?_take_of_lt hi, List.getElem?_drop] at h
  exact h
theorem take_one_get {α : Type} {cs : List α} {i : Nat} {v : α} (h : (cs.drop i).take 1 = [v]) : cs[i]? = some v := take1_drop h
theorem fit_spot {w : World} {cs : List Value} (hf : Fit Try.prog w 23 cs) : ∃ t s : Int, cs = [.int .i64 t, .int .i64 s] ∧ (Lit.int .i64 t).wf = true ∧ (Lit.int .i64 s).wf = true := by
  obtain ⟨hl, hx⟩ := fit_fields 2 Try.underlying23 cells_spot hf
  obtain ⟨t, e0, w0⟩ := cell_int Try.underlying3 (hx 0 0 3 1 rfl cells_int_)
  obtain ⟨s, e1, w1⟩ := cell_int Try.underlying3 (hx 1 1 3 1 rfl cells_int_)
  exact ⟨t, s, list2_of hl e0 e1, w0, w1⟩
theorem fit_place {w : World} {cs : List Value} (hf : Fit Try.prog w 25 cs) : ∃ x : PlD, cs = plC x ∧ wfP x := by
  obtain ⟨hl, hx⟩ := fit_fields 3 Try.underlying25 cells_place hf
  obtain ⟨c, e0, w0⟩ := cell_int Try.underlying3 (hx 0 0 3 1 rfl cells_int_)
  obtain ⟨t, s, e1, w1, w2⟩ := fit_spot (hx 1 1 23 2 rfl cells_spot)
  have h1 : cs[1 + 0]? = some (.int .i64 t) := take_drop_get (c := 2) (by rw [e1]; rfl) (by omega)
  have h2 : cs[1 + 1]? = some (.int .i64 s) := take_drop_get (c := 2) (by rw [e1]; rfl) (by omega)
  exact ⟨(c, t, s), list3_of hl e0 h1 h2, w0, w1, w2⟩
theorem arg_place {w : World} {v : Value} (h : Arg Try.prog w 25 v) : ∃ c t s : Int, v = placeV c t s := by
  obtain ⟨cs, rfl, hf⟩ := arg_struct Try.underlying25 h
  obtain ⟨x, rfl, _⟩ := fit_place hf
  exact ⟨x.1, x.2.1, x.2.2, rfl⟩
theorem arg_pair14 {w : World} {v : Value} (h : Arg Try.prog w 28 v) : ∃ (k x : Int), v = pairV k x ∧ 0 ≤ k ∧ k ≤ 18446744073709551615 ∧ 0 ≤ x ∧ x ≤ 18446744073709551615 := by
  obtain ⟨cs, rfl, hf⟩ := arg_struct Try.underlying28 h
  obtain ⟨hl, hx⟩ := fit_fields 2 Try.underlying28 cells_pair14 hf
  obtain ⟨k, e0, w0⟩ := cell_int Try.underlying26 (hx 0 0 26 1 rfl cells_u14)
  obtain ⟨x, e1, w1⟩ := cell_int Try.underlying26 (hx 1 1 26 1 rfl cells_u14)
  have b0 := bounds_u64 w0
  have b1 := bounds_u64 w1
  exact ⟨k, x, by rw [list2_of hl e0 e1], by omega, by omega, by omega, by omega⟩
theorem arg_slots {w : World} {v : Value} (h : Arg Try.prog w 30 v) : ∃ (a b : Int), v = .agg #[.int .i64 a, .int .i64 b] := by
  obtain ⟨cs, rfl, hf⟩ := arg_array Try.underlying30 h
  obtain ⟨hl, hx⟩ := fit_array Try.underlying30 hf
  rw [cells_arr14] at hl
  have g := fun i hi => hx i hi
  rw [cells_int_] at g
  obtain ⟨a, e0, _⟩ := fit_int Try.underlying3 (g 0 (by omega))
  obtain ⟨b, e1, _⟩ := fit_int Try.underlying3 (g 1 (by omega))
  exact ⟨a, b, by rw [list2_of hl (take1_drop e0) (take1_drop e1)]⟩
theorem arg_places {w : World} {v : Value} (h : Arg Try.prog w 29 v) :
    ∃ A len cap, ∃ xs : List PlD, v = .slice A len cap ∧ len ≤ cap ∧ cap ≤ maxLen ∧ xs.length = len ∧ (∀ x ∈ xs, wfP x) ∧ Row w A 3 plC xs :=
  fit_row plC wfP Try.underlying29 cells_place (by decide) (fun _ _ hf => fit_place hf) (arg_slice Try.underlying29 h)
end Go.Proofs.Ytojilbacloegjaa

/- Two rows that the call makes by append, apart from each other, beside blocks of its own. No program in sight. -/
namespace Go.Proofs.Ytojilbacloegjaa
set_option linter.unusedVariables false
set_option linter.unusedSimpArgs false
open Go.RowKit

structure TRow (H : Nat) (A : World) (L : List BlkD) (e1 : TypeId) (c1 : Nat) (v1 : Value) (n1 : Nat) (xs1 : List Value) (e2 : TypeId) (c2 : Nat) (v2 : Value) (n2 : Nat) (xs2 : List Value) (w : World) : Prop where
  one : ORow H A L e1 c1 v1 n1 xs1 w
  two : ORow H A L e2 c2 v2 n2 xs2 w
  diff : ∀ k, v1.ownBlock = some k → v2.ownBlock ≠ some k
section
variable {H : Nat} {A w w' : World} {L : List BlkD} {e1 e2 : TypeId} {c1 c2 n1 n2 : Nat} {v1 v2 : Value} {xs1 xs2 : List Value}
theorem TRow.swap (h : TRow H A L e1 c1 v1 n1 xs1 e2 c2 v2 n2 xs2 w) : TRow H A L e2 c2 v2 n2 xs2 e1 c1 v1 n1 xs1 w := ⟨h.two, h.one, fun k h2 h1 => h.diff k h1 h2⟩
theorem TRow.ext (h : TRow H A L e1 c1 v1 n1 xs1 e2 c2 v2 n2 xs2 w) (k : Ext w w') : TRow H A L e1 c1 v1 n1 xs1 e2 c2 v2 n2 xs2 w' := ⟨h.one.ext k, h.two.ext k, h.diff⟩
theorem TRow.grow {m1 : Nat} {ys1 : List Value} {v' : Value} (h : TRow H A L e1 c1 v1 n1 xs1 e2 c2 v2 n2 xs2 w) (h2 : w'.ownsRowF H e1 c1 v' m1 ys1) (hg : w.grownBy w' v1.ownBlock) (h4 : v'.ownBlock = v1.ownBlock ∨ ∃ k, v'.ownBlock = some k ∧ w.heap.size ≤ k) :
    TRow H A L e1 c1 v' m1 ys1 e2 c2 v2 n2 xs2 w' := by
  have h1 := h.one.grow h2 hg h4
  refine ⟨h1, ⟨h1.own, h.two.row.kept hg ?_, h.two.apart⟩, fun k hk => ?_⟩
  · cases hv : v2.ownBlock with
    | none => exact .inl rfl
    | some g => exact .inr (fun e => h.diff g e.symm hv)
  · rcases h4 with h4 | ⟨g, h4, hge⟩
    · rw [h4] at hk; exact h.diff k hk
    · intro e
      rw [h4] at hk
      injection hk with hk
      have := (h.two.row.lt k e).2
      omega
variable {P : Program}
/-- append to the first row, at the operation. -/
theorem TRow.append {ops : Array Oper} {rest : List Oper} {o : Oper} {a : Act} {Q : Exit → Act → World → Prop} (h : TRow H A L e1 c1 v1 n1 xs1 e2 c2 v2 n2 xs2 w) (hgd : o.guard = none) (s x : Operand) (t : TypeId)
    (ho : o.op = .call { callee := .builtin .append, args := #[s, x], argTypes := #[t, t] })
    (i : TypeInfo) (z : Value) (bytes : Nat) (ht : P.underlying t = some (.slice e1)) (hi : P.info? e1 = some i) (hz : i.zero = some z)
    (hsize : i.size = c1) (hby : i.bytes = bytes) (hzs : z.cells.size = c1) (hsz : 0 < c1)
    (hs : a.eval s = v1) (g m cp : Nat) (news : List Value) (hx : a.eval x = .slice (some ⟨g, 0, none⟩) m cp) (tg : TypeId) (hb : Blk w g tg news.toArray) (hl : news.length = m * c1) (h1 : ∀ u ∈ news, u.oneCell' = true)
    (h63 : n1 + m ≤ maxLen) (hbytes : (n1 + m) * bytes ≤ 140737488355328)
    (hk : ∀ v' w', TRow H A L e1 c1 v' (n1 + m) (xs1 ++ news) e2 c2 v2 n2 xs2 w' → wpList P ops Q rest (a.put o.dst v') w') : wpList P ops Q (o :: rest) a w :=
  wp_buf_cells w hgd s x t ho H e1 i z c1 bytes ht hi hz hsize hby hzs hsz v1 n1 xs1 hs h.one.row ⟨g, 0, none⟩ m cp news hx hl (fun j u hu => by
    have := hb.cell j
    have hadd : (⟨g, 0, none⟩ : Addr).add j = ⟨g, j, none⟩ := by unfold Addr.add; split <;> simp_all
    rw [hadd, this]
    simpa using hu) h1 h63 hbytes h.one.own.size (fun v' w' h2 h3 h4 => hk v' w' (h.grow h2 h3 h4))
/-- A row that is made empty. -/
theorem ownsF_empty {w : World} {e : TypeId} {c : Nat} (t : TypeId) (hH : H ≤ w.heap.size) : (w.alloc (.cells #[] e)).ownsRowF H e c (.slice (some ⟨w.heap.size, 0, none⟩) 0 0) 0 [] :=
  ⟨by simp, .inr ⟨w.heap.size, 0, #[], (0, 0), rfl, hH, heap_alloc_new w _, by simp, by omega, by decide, by simp, by simp⟩⟩
theorem TRow.start (h : Own H A L w) (e1 e2 : TypeId) (c1 c2 : Nat) :
    TRow H A L e1 c1 (.slice (some ⟨w.heap.size, 0, none⟩) 0 0) 0 [] e2 c2 (.slice (some ⟨w.heap.size + 1, 0, none⟩) 0 0) 0 [] ((w.alloc (.cells #[] e1)).alloc (.cells #[] e2)) := by
  have h1 := (h.other (.cells #[] e1)).other (.cells #[] e2)
  have hs := h.size
  have r1 := (ownsF_empty (H := H) (w := w) (e := e1) (c := c1) e1 h.size).kept (only_of_below (Ext.alloc (w.alloc (.cells #[] e1)) (.cells #[] e2)) none) (Classical.em _)
  have r2 := ownsF_empty (H := H) (w := w.alloc (.cells #[] e1)) (e := e2) (c := c2) e2 (by rw [World.size_alloc]; omega)
  rw [World.size_alloc] at r2
  refine ⟨⟨h1, r1, fun x hx e => ?_⟩, ⟨h1, r2, fun x hx e => ?_⟩, fun k h1 h2 => ?_⟩
  · have := h.lt hx
    simp [Value.ownBlock] at e
    omega
  · have := h.lt hx
    simp [Value.ownBlock] at e
    omega
  · simp [Value.ownBlock] at h1 h2
    omega
end
end Go.Proofs.Ytojilbacloegjaa
