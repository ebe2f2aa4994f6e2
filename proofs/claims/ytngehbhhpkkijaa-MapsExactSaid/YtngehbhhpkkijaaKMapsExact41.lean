/- maps' law: MapsExact, what its walk uses: rows of rows, deeds, rows behind deeds. -/
import Derived.Test.YtngehbhhpkkijaaKMapsExact37
import Derived.Test.YtngehbhhpkkijaaKMapsExact39
import Derived.Test.YtngehbhhpkkijaaKMapsExact40
import Derived.Deep.MidRow
import Derived.Great.BuildSlice
namespace Go.Proofs.Ytngehbhhpkkijaa
set_option linter.unusedVariables false
set_option linter.unusedSimpArgs false
open Go.RowKit Go.Maps
/-! Rows behind deeds. -/
theorem rw_ins {P : List Pr} {u : Nat → Nat} {k v : Nat} (h : Rw P u) : Rw (insP (k, v) P) (fun i => if i = k then v else u i) := fun i hi => by
  show (if i = k then v else u i) = _
  by_cases e : i = k
  · subst e
    rw [if_pos rfl, Z7h]
    rfl
  · rw [if_neg e, Z66 e]
    exact h i hi
theorem rw_del {P : List Pr} {u : Nat → Nat} {k : Nat} (h : Rw P u) : Rw (delP k P) (fun i => if i = k then 0 else u i) := fun i hi => by
  show (if i = k then 0 else u i) = _
  by_cases e : i = k
  · subst e
    rw [if_pos rfl, Z26.2 (fun y hy => (mem_del.1 hy).2)]
    rfl
  · rw [if_neg e, h i hi]
    unfold lookP delP
    rw [Z1x (fun y hy => by simp at hy ⊢; omega)]
/-- What a trim takes, and what it leaves, so far. -/
def goneU (k q : Nat) (u : Nat → Nat) : Nat → Nat := fun i => if k ≤ i ∧ i < q then u i else 0
def keepU (k q : Nat) (u : Nat → Nat) : Nat → Nat := fun i => if k ≤ i ∧ i < q then 0 else u i
theorem Z4t (k : Nat) (u : Nat → Nat) : goneU k k u = fun _ => 0 := by funext i; unfold goneU; rw [if_neg (by omega)]
theorem Z4r (k : Nat) (u : Nat → Nat) : keepU k k u = u := by funext i; unfold keepU; rw [if_neg (by omega)]
theorem Z4u {k q : Nat} (u : Nat → Nat) (h : k ≤ q) : (fun i => if i = q then u q else goneU k q u i) = goneU k (q + 1) u := by
  funext i
  unfold goneU
  by_cases e : i = q
  · subst e; rw [if_pos rfl, if_pos (by omega)]
  · rw [if_neg e]
    by_cases h2 : k ≤ i ∧ i < q
    · rw [if_pos h2, if_pos (by omega)]
    · rw [if_neg h2, if_neg (by omega)]
theorem Z4s {k q : Nat} (u : Nat → Nat) (h : k ≤ q) : (fun i => if i = q then 0 else keepU k q u i) = keepU k (q + 1) u := by
  funext i
  unfold keepU
  by_cases e : i = q
  · subst e; rw [if_pos rfl, if_pos (by omega)]
  · rw [if_neg e]
    by_cases h2 : k ≤ i ∧ i < q
    · rw [if_pos h2, if_pos (by omega)]
    · rw [if_neg h2, if_neg (by omega)]
theorem rw_hi {P : List Pr} {u : Nat → Nat} {k q : Nat} (h : Rw P u) (hq : 64 ≤ q) : Rw (hiP k P) (goneU k q u) := fun i hi => by
  unfold goneU
  by_cases e : k ≤ i
  · rw [if_pos ⟨e, by omega⟩, h i hi]
    unfold lookP hiP
    rw [Z1x (fun y hy => by simp at hy ⊢; omega)]
  · rw [if_neg (by omega), Z26.2 (fun y hy => by have := of_decide_eq_true (List.mem_filter.1 hy).2; omega)]
    rfl
theorem rw_lo {P : List Pr} {u : Nat → Nat} {k q : Nat} (h : Rw P u) (hq : 64 ≤ q) : Rw (loP k P) (keepU k q u) := fun i hi => by
  unfold keepU
  by_cases e : k ≤ i
  · rw [if_pos ⟨e, by omega⟩, Z26.2 (fun y hy => by have := of_decide_eq_true (List.mem_filter.1 hy).2; omega)]
    rfl
  · rw [if_neg (by omega), h i hi]
    unfold lookP loP
    rw [Z1x (fun y hy => by simp at hy ⊢; omega)]
theorem Z4b {P : List Pr} {p : Pr → Bool} (h : P.all enOk = true) : (P.filter p).all enOk = true := List.all_eq_true.2 fun y hy => List.all_eq_true.1 h y (List.mem_filter.1 hy).1
theorem hiP_up {P : List Pr} {k : Nat} (h : Up P) : Up (hiP k P) := h.filter _
theorem lohi_len (k : Nat) (P : List Pr) : (loP k P).length + (hiP k P).length = P.length := by
  unfold loP hiP
  induction P with
  | nil => rfl
  | cons a P ih =>
    by_cases h : a.1 < k
    · rw [List.filter_cons_of_pos (by simpa using h), List.filter_cons_of_neg (by simp; omega), List.length_cons, List.length_cons]; omega
    · rw [List.filter_cons_of_neg (by simpa using h), List.filter_cons_of_pos (by simp; omega), List.length_cons, List.length_cons]; omega
theorem ins_len (x : Pr) (P : List Pr) : (insP x P).length ≤ P.length + 1 := by
  unfold insP
  rw [List.length_append, List.length_cons]
  have : (P.filter (fun y => decide (y.1 < x.1))).length + (P.filter (fun y => decide (x.1 < y.1))).length ≤ P.length := by
    induction P with
    | nil => simp
    | cons a P ih =>
      by_cases h1 : a.1 < x.1
      · rw [List.filter_cons_of_pos (by simpa using h1), List.filter_cons_of_neg (by simp; omega), List.length_cons, List.length_cons]; omega
      · rw [List.filter_cons_of_neg (by simpa using h1)]
        by_cases h2 : x.1 < a.1
        · rw [List.filter_cons_of_pos (by simpa using h2), List.length_cons, List.length_cons]; omega
        · rw [List.filter_cons_of_neg (by simpa using h2), List.length_cons]; omega
  omega
/-- What is listed is a volume's. -/
theorem atE_map {P : List Pr} {i : Nat} {y : Pr} (h : P[i]? = some y) : atE (P.map fun x => ((x.1 : Int), (x.2 : Int))) i = y.1 ∧ chE (P.map fun x => ((x.1 : Int), (x.2 : Int))) i = y.2 := by
  unfold atE chE
  rw [List.getD, List.getElem?_map, h]
  exact ⟨rfl, rfl⟩
theorem Z6v {P : List Pr} (hu : Up P) (hok : P.all enOk = true) : goodE 64 (P.map fun x => ((x.1 : Int), (x.2 : Int))) = true := by
  refine decide_eq_true fun i hi => ?_
  rw [List.length_map] at hi
  obtain ⟨y, hy⟩ : ∃ y, P[i]? = some y := ⟨_, List.getElem?_eq_getElem hi⟩
  have h3 : y.1 < 64 ∧ 1 ≤ y.2 ∧ y.2 ≤ 1023 := of_decide_eq_true (List.all_eq_true.1 hok y (List.mem_of_getElem? hy))
  obtain ⟨e1, e2⟩ := atE_map hy
  unfold OkE
  rw [e1, e2]
  refine ⟨by omega, by omega, by omega, fun h0 => ?_⟩
  obtain ⟨z, hz⟩ : ∃ z, P[i - 1]? = some z := ⟨_, List.getElem?_eq_getElem (by omega)⟩
  have h4 := Z6i hu hz hy (by omega)
  rw [(atE_map hz).1]
  omega
/-! Rows of rows. -/
def rwL (u : Nat → Nat) : List Value := (rwA u).toList
def rowsC (us : List (Nat → Nat)) : List Value := us.flatMap rwL
theorem rwL_arr (u : Nat → Nat) : (rwL u).toArray = rwA u := by unfold rwL; exact Array.toArray_toList
theorem Z5x (u : Nat → Nat) : (rwL u).length = 64 := by unfold rwL; rw [Array.length_toList, Z1h]
theorem rwL_one (u : Nat → Nat) : ∀ v ∈ rwL u, v.oneCell' = true := fun v hv => by
  have h := Z41 u
  rw [Array.all_eq_true] at h
  obtain ⟨j, hj, rfl⟩ := List.mem_iff_getElem.1 hv
  exact h j (by simpa [rwL] using hj)
theorem Z8a (us : List (Nat → Nat)) (u : Nat → Nat) : rowsC (us ++ [u]) = rowsC us ++ rwL u := by simp [rowsC]
theorem elemRw : ElemI Try.prog 80 71 64 512 := ⟨Try.underlying80, by
  have h : (Try.prog.info? 71).map (fun i => (i.zero, i.size, i.bytes)) = some (some (.agg (rwA fun _ => 0)), 64, 512) := by kernel_rfl
  obtain ⟨i, h1, h2, h3, h4⟩ := info_parts h
  exact ⟨i, _, h1, h2, h3, h4, rfl⟩⟩
theorem Z51 {w : World} {B : Option Addr} {n c z : Nat} {us : List (Nat → Nat)} {u : Nat → Nat} (h : w.ownsRow 0 71 64 (.slice B n c) n (rowsC us)) (hz : us[z]? = some u) (hzn : z < n) : ∃ g, B = some ⟨g, 0, none⟩ ∧ w.rangeAt g (z * 64) (rwL u) := by
  obtain ⟨g, cap', cur, e, -⟩ := Z13 h (by omega)
  injection e with e1
  subst e1
  obtain ⟨B2, c2, e, _, _, _, hr⟩ := Z2i (enc := rwL) (X := us) Z5x (by decide) h
  injection e with e1
  subst e1
  obtain ⟨b, o, e, _, hc⟩ := hr z u hz
  injection e with e
  injection e with e e'
  subst e e'
  refine ⟨g, rfl, fun j v hv => ?_⟩
  have := hc j v hv
  simpa using this
section
variable {w : World} {o : Oper} {ρ : Operand → Value} {x : Operand} {u : Nat → Nat}
theorem Z7t {g off : Nat} (ho : o.op = .load 71 x) (hx : ρ x = .pointer (some ⟨g, off, none⟩)) (hr : w.rangeAt g off (rwL u)) : (execOp ρ o).run Try.prog w = .ok (.value (.agg (rwA u))) w := by
  unfold execOp
  simp only [ho, hx, Sem.run_bind, Sem.run_pure, Result.andThen_ok, run_loadAt_mid w g off 71 (rwL u) _ hr Try.underlying71 rfl (by rw [Z5x]; kernel_rfl), rwL_arr]
theorem x_bsl (ho : o.op = .buildSlice 80 1 #[(0, x)]) (hx : ρ x = .agg (rwA u)) : (execOp ρ o).run Try.prog w = .ok (.value (.slice (some ⟨w.heap.size, 0, none⟩) 1 1)) (w.alloc (.cells (rwL u).toArray 71)) := by
  obtain ⟨i, z, hi, hz, hs, -, hzs⟩ := elemRw.info
  have hf := Great.fill_whole (s := 64) (by decide) [.agg (rwA u)] ((Array.range (1 * 64)).map (z.cells[· % z.cells.size]!)) (fun v hv => by rw [List.mem_singleton.1 hv]; exact Z1h u) (by simp)
  have h := run_buildSlice (P := Try.prog) w 80 71 1 #[(0, .agg (rwA u))] (rwL u).toArray i z Try.underlying80 hi hz (by rw [hs]; decide) (by rw [hs]; decide) (by
    rw [hs]
    refine hf.trans ?_
    rw [List.flatMap_cons, List.flatMap_nil, List.append_nil]
    rfl)
  unfold execOp
  simp only [ho]
  rw [show (#[(0, x)].map fun (i, x) => (i, ρ x)) = #[(0, Value.agg (rwA u))] by simp [hx]]
  simp only [Sem.run_bind, h, Result.andThen_ok, Sem.run_pure]
end
/-- A whole row is stored. -/
theorem Z89 {ops : Array Oper} {rest : List Oper} {o : Oper} {a : Act} {w : World} {Q : Exit → Act → World → Prop} (hgd : o.guard = none) (hd : o.dst = none) (x y : Operand) (ho : o.op = .store 71 x y) {g : Nat} {u v : Nat → Nat} {t : TypeId} (hx : a.eval x = .pointer (some ⟨g, 0, none⟩)) (hy : a.eval y = .agg (rwA v)) (hb : Blk w g t (rwA u)) (h : wpList Try.prog ops Q rest a (w.setRow g (rwA v))) : wpList Try.prog ops Q (o :: rest) a w := by
  refine wpList_store_row hgd 71 x y ho g (rwA v) hx hy t (rwA u) hb (by rw [Z1h]; kernel_rfl) (by rw [Z1h, Z1h]) (Z41 v) ?_
  rw [hd]
  exact h
/-! Deeds. -/
def encT (x : Int × Int × Int) : List Value := [.int .i64 x.1, .int .i64 x.2.1, .int .i64 x.2.2]
theorem Z5t : Try.prog.cellsOf 82 = 3 := by kernel_rfl
theorem arg_acts {w : World} {v : Value} (h : Arg Try.prog w 79 v) :
    ∃ A len cap, ∃ xs : List (Int × Int × Int), v = .slice A len cap ∧ len ≤ cap ∧ cap ≤ maxLen ∧ xs.length = len ∧ (∀ x ∈ xs, True) ∧ Row w A 3 encT xs :=
  fit_row encT (fun _ => True) Try.underlying79 Z5t (by decide) (fun cs _ hf => by
    obtain ⟨hl, hx⟩ := Z7n 3 Try.underlying82 Z5t hf
    obtain ⟨a, e0, _⟩ := Z5e Try.underlying3 (hx 0 0 3 1 rfl Z4h)
    obtain ⟨b, e1, _⟩ := Z5e Try.underlying3 (hx 1 1 3 1 rfl Z4h)
    obtain ⟨c, e2, _⟩ := Z5e Try.underlying3 (hx 2 2 3 1 rfl Z4h)
    refine ⟨(a, b, c), ?_, trivial⟩
    match cs, hl with
    | [u0, u1, u2], _ =>
      simp at e0 e1 e2
      subst e0 e1 e2
      rfl) (arg_slice Try.underlying79 h)
/-! Maps on the way: root, pairs, row. -/
abbrev Hs := Nat × List Pr × (Nat → Nat)
def PastM (N : List Nd) (hs : List Hs) : Prop := ∀ x ∈ hs, Tre N x.1 100 x.2.1 ∧ x.2.1.all enOk = true ∧ Rw x.2.1 x.2.2
theorem PastM.mono {N : List Nd} {hs : List Hs} (h : PastM N hs) (M : List Nd) : PastM (N ++ M) hs := fun x hx => ⟨(h x hx).1.mono M, (h x hx).2⟩
theorem PastM.add {N : List Nd} {hs : List Hs} {r : Nat} {P : List Pr} {u : Nat → Nat} (h : PastM N hs) (hT : Tre N r 100 P) (hok : P.all enOk = true) (hu : Rw P u) : PastM N (hs ++ [(r, P, u)]) := fun x hx => by
  rcases List.mem_append.1 hx with hx | hx
  · exact h x hx
  · obtain rfl := List.mem_singleton.1 hx
    exact ⟨hT, hok, hu⟩
end Go.Proofs.Ytngehbhhpkkijaa
