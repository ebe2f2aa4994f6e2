/- owners: Add. -/
import Derived.Test.YtdpohbaeopidmaaKOwnersExact09
import Derived.Test.YtdpohbaeopidmaaKOwnersExact11
namespace Go.Proofs.Ytdpohbaeopidmaa
set_option linter.unusedVariables false
set_option linter.unusedSimpArgs false
open Go.RowKit Go.Maps

instance decO (x y : OwD) : Decidable (ltO x y) := by unfold ltO; infer_instance
/-- A rising list with one more. -/
def insO (o : OwD) : List OwD → List OwD
  | [] => [o]
  | x :: r => if ltO x o then x :: insO o r else o :: x :: r
theorem lower_ex (o : OwD) : ∀ X : List OwD, X.Pairwise ltO → ∃ n, n ≤ X.length ∧ (∀ i, i < n → ltO (atO X i) o) ∧ (∀ i, n ≤ i → i < X.length → ¬ ltO (atO X i) o) ∧ insO o X = X.take n ++ o :: X.drop n
  | [], _ => ⟨0, Nat.le_refl _, fun i hi => by omega, fun i _ hi => by simp at hi, rfl⟩
  | x :: r, h => by
    have hp := List.pairwise_cons.1 h
    by_cases hx : ltO x o
    · obtain ⟨n, h1, h2, h3, h4⟩ := lower_ex o r hp.2
      refine ⟨n + 1, by simp; omega, fun i hi => ?_, fun i h5 h6 => ?_, ?_⟩
      · cases i with
        | zero => exact hx
        | succ i => exact h2 i (by omega)
      · cases i with
        | zero => omega
        | succ i => exact h3 i (by omega) (by simpa using h6)
      · unfold insO
        rw [if_pos hx, h4]
        rfl
    · refine ⟨0, Nat.zero_le _, fun i hi => by omega, fun i _ h6 => ?_, ?_⟩
      · cases i with
        | zero => exact hx
        | succ i =>
          intro hl
          have hi : i < r.length := by simpa using h6
          have := hp.1 r[i] (List.getElem_mem hi)
          rw [atO_eq hi] at this
          exact hx (ltO_trans this hl)
      · unfold insO
        rw [if_neg hx]
        rfl
theorem insO_len (o : OwD) : ∀ X : List OwD, (insO o X).length = X.length + 1
  | [] => rfl
  | x :: r => by
    unfold insO
    split
    · rw [List.length_cons, insO_len o r, List.length_cons]
    · rfl
theorem insO_mem (o : OwD) : ∀ (X : List OwD) (y : OwD), y ∈ insO o X ↔ y = o ∨ y ∈ X
  | [], y => by simp [insO]
  | x :: r, y => by
    unfold insO
    split
    · rw [List.mem_cons, insO_mem o r, List.mem_cons]
      constructor
      · rintro (h | h | h) <;> simp [h]
      · rintro (h | h | h) <;> simp [h]
    · simp
theorem insO_sorted (o : OwD) : ∀ X : List OwD, X.Pairwise ltO → o ∉ X → (insO o X).Pairwise ltO
  | [], _, _ => by simp [insO]
  | x :: r, h, hn => by
    have hp := List.pairwise_cons.1 h
    unfold insO
    split
    · rename_i hx
      refine List.Pairwise.cons (fun y hy => ?_) (insO_sorted o r hp.2 (fun e => hn (by simp [e])))
      rcases (insO_mem o r y).1 hy with rfl | hy
      · exact hx
      · exact hp.1 y hy
    · rename_i hx
      have hox : ltO o x := by
        rcases ltO_total hx with e | e
        · exact absurd (by simp [e]) hn
        · exact e
      refine List.Pairwise.cons (fun y hy => ?_) h
      rcases List.mem_cons.1 hy with rfl | hy
      · exact hox
      · exact ltO_trans hox (hp.1 y hy)
/-- There is none such just where the search finds none. -/
theorem found_iff {X : List OwD} {o : OwD} {n : Nat} (hs : X.Pairwise ltO) (h2 : ∀ i, i < n → ltO (atO X i) o) (h3 : ∀ i, n ≤ i → i < X.length → ¬ ltO (atO X i) o) : (n < X.length ∧ atO X n = o) ↔ o ∈ X := by
  constructor
  · rintro ⟨h, e⟩
    rw [← atO_eq h] at e
    rw [← e]
    exact List.getElem_mem h
  · intro h
    obtain ⟨i, hi, e⟩ := List.getElem_of_mem h
    rw [atO_eq hi] at e
    have hni : ¬ i < n := fun hc => by have := h2 i hc; rw [e] at this; exact ltO_irrefl o this
    by_cases hin : i = n
    · subst hin
      exact ⟨hi, e⟩
    · have hlt : n < X.length := by omega
      have h4 := h3 n (Nat.le_refl _) hlt
      have h5 := List.pairwise_iff_getElem.1 hs n i hlt hi (by omega)
      rw [atO_eq hlt, atO_eq hi, e] at h5
      exact absurd h5 h4
theorem flat_take (X : List OwD) : ∀ n, (X.take n).flatMap ownC = (X.flatMap ownC).take (n * 3) := by
  induction X with
  | nil => intro n; simp
  | cons x X ih =>
    intro n
    cases n with
    | zero => simp
    | succ n =>
      rw [List.take_succ_cons, List.flatMap_cons, List.flatMap_cons, ih, List.take_append, ownC_len, show (n + 1) * 3 - 3 = n * 3 by omega, List.take_of_length_le (l := ownC x) (by rw [ownC_len]; omega)]
theorem flat_drop (X : List OwD) : ∀ n, (X.drop n).flatMap ownC = (X.flatMap ownC).drop (n * 3) := by
  induction X with
  | nil => intro n; simp
  | cons x X ih =>
    intro n
    cases n with
    | zero => simp
    | succ n =>
      rw [List.drop_succ_cons, List.flatMap_cons, ih, List.drop_append, ownC_len, show (n + 1) * 3 - 3 = n * 3 by omega, List.drop_of_length_le (l := ownC x) (by rw [ownC_len]; omega), List.nil_append]
theorem OwnT.nilRow {H : Nat} {A w : World} {R : List Thing} (h : OwnT H A R w) (T : TypeId) (k : Nat) : OwnT H A (tRow T k (.slice none 0 0) 0 [] :: R) w :=
  h.cons (Ext.refl _) (tRow T k (.slice none 0 0) 0 []) (World.ownsRow_nil _ _ _ _) (fun i hi => by simp [tRow, Value.ownBlock] at hi)
/-- A chunk's row comes out, a nil one too. -/
theorem OwnT.takeAny {H : Nat} {A w : World} {R : List Thing} {nb : Nat} {F : List Nat} {m : Int → Option Value} {L : Int → List OwD} (h : OwnT H A (tCh nb F m L :: R) w) (ok : OkM m L) (c : Int) :
    ∃ F', OwnT H A (tRow 31 3 ((m c).getD (.slice none 0 0)) (L c).length ((L c).flatMap ownC) :: tCh nb F' m (setL L c []) :: R) w := by
  by_cases hc : L c = []
  · rw [ok c hc, hc, setL_self hc]
    exact ⟨F, h.nilRow _ _⟩
  · obtain ⟨v, F', e1, h1⟩ := h.takeRow c hc
    rw [e1]
    exact ⟨F', h1⟩

theorem add_nil (c : Int) (o : OwD) (w : World) : Calls Try.prog 14 #[.pointer none, .int .i64 c, ownV o] w fun e w' => e = .returned (.int .i64 2) ∧ Ext w w' := by
  unfold ownV
  go_enter Try.func14, Try.ntmps14
  go_wp2
  go_ret
  exact ⟨rfl, by (repeat (first | with_reducible exact Below.refl _ _ | with_reducible assumption | with_reducible apply Below.drew | with_reducible apply below_drewN | (with_reducible refine below_set ?_ ?_; focus ((try simp); (try omega); done)) | (with_reducible refine below_new ?_ ?_; focus ((try simp); (try omega); done))))⟩
theorem add_arg (pb : Nat) (c : Int) (o : OwD) (w : World) (hc : c < 1 ∨ 1023 < c) : Calls Try.prog 14 #[.pointer (some ⟨pb, 0, none⟩), .int .i64 c, ownV o] w fun e w' => e = .returned (.int .i64 1) ∧ Ext w w' := by
  unfold ownV
  go_enter Try.func14, Try.ntmps14
  by_cases h1 : c < 1
  · clear hc
    go_wp2
    go_ret
    exact ⟨rfl, by (repeat (first | with_reducible exact Below.refl _ _ | with_reducible assumption | with_reducible apply Below.drew | with_reducible apply below_drewN | (with_reducible refine below_set ?_ ?_; focus ((try simp); (try omega); done)) | (with_reducible refine below_new ?_ ?_; focus ((try simp); (try omega); done))))⟩
  · have h2 : 1023 < c := by omega
    clear hc
    go_wp2
    go_ret
    exact ⟨rfl, by (repeat (first | with_reducible exact Below.refl _ _ | with_reducible assumption | with_reducible apply Below.drew | with_reducible apply below_drewN | (with_reducible refine below_set ?_ ?_; focus ((try simp); (try omega); done)) | (with_reducible refine below_new ?_ ?_; focus ((try simp); (try omega); done))))⟩

/-- Ahead of the variadic block; with it; behind Insert. -/
def AddI (H : Nat) (A : World) (v0 : Value) (len : Nat) (XS : List Value) (g1 : Nat) (cs : List Value) (n : Nat) (G : List Thing) (b13 b14 : Bool) (w : World) : Prop :=
  if b14 = true then b13 = true ∧ ∃ v, OwnT H A (tRow 31 3 v (len + 1) (XS.take (n * 3) ++ (cs ++ XS.drop (n * 3))) :: tBlk g1 31 cs.toArray :: G) w
  else if b13 = true then OwnT H A (tRow 31 3 v0 len XS :: tBlk g1 31 cs.toArray :: G) w
  else OwnT H A (tRow 31 3 v0 len XS :: G) w ∧ w.heap.size = g1
theorem AddI.own {H : Nat} {A : World} {v0 : Value} {len : Nat} {XS : List Value} {g1 : Nat} {cs : List Value} {n : Nat} {G : List Thing} {b13 b14 : Bool} {w : World} (h : AddI H A v0 len XS g1 cs n G b13 b14 w) : OwnT H A G w := by
  unfold AddI at h
  split at h
  · obtain ⟨_, v, h⟩ := h
    exact h.tail.tail
  · split at h
    · exact h.tail.tail
    · exact h.1.tail
theorem addI_alloc {H : Nat} {A : World} {v0 : Value} {len : Nat} {XS : List Value} {g1 : Nat} {cs : List Value} {n : Nat} {G : List Thing} {l : Nat → Bool} {w : World} {M : Sem Next} (h : AddI H A v0 len XS g1 cs n G (l 13) (l 14) w) (hl : l 13 = false)
    (hM : M.run Try.prog w = .ok (.value (.slice (some ⟨w.heap.size, 0, none⟩) 1 1)) (w.alloc (.cells cs.toArray 31))) :
    ∃ v w', M.run Try.prog w = .ok (.value v) w' ∧ (if l 14 = true then Ext w w' else True) ∧ AddI H A v0 len XS g1 cs n G (upd l 13 13) (upd l 13 14) w' ∧ v = .slice (some ⟨g1, 0, none⟩) 1 1 := by
  unfold AddI at h
  rw [hl] at h
  split at h
  · cases h.1
  · rename_i h14
    obtain ⟨h1, h2⟩ : OwnT H A (tRow 31 3 v0 len XS :: G) w ∧ w.heap.size = g1 := by simpa using h
    refine ⟨_, _, hM, ?_, ?_, by rw [h2]⟩
    · rw [if_neg h14]; trivial
    · have e13 : upd l 13 13 = true := rfl
      have e14 : upd l 13 14 = l 14 := rfl
      unfold AddI
      rw [e13, e14, if_neg h14, if_pos rfl]
      have := (h1.new 31 cs.toArray).perm (.swap _ _ _)
      rw [h2] at this
      exact this
theorem addI_insert {H : Nat} {A : World} {v0 : Value} {len : Nat} {XS : List Value} {g1 : Nat} {o : OwD} {n : Nat} {G : List Thing} {l : Nat → Bool} {w : World} {M : Sem Next} (h : AddI H A v0 len XS g1 (ownC o) n G (l 13) (l 14) w) (hl : l 14 = false) (h13 : l 13 = true) (hn : n ≤ len) (hlen : len ≤ 1000000000) (h1 : ∀ u ∈ XS, u.oneCell' = true)
    (hM : M.run Try.prog w = .ok (.enter 68 #[v0, .int .i64 n, .slice (some ⟨g1, 0, none⟩) 1 1]) w) :
    ∃ f args, M.run Try.prog w = .ok (.enter f args) w ∧ Calls Try.prog f args w fun e w' => ∃ v, e = .returned v ∧ (if l 14 = true then Ext w w' else True) ∧ AddI H A v0 len XS g1 (ownC o) n G (upd l 14 13) (upd l 14 14) w' ∧
      OwnT H A (tRow 31 3 v (len + 1) (XS.take (n * 3) ++ (ownC o ++ XS.drop (n * 3))) :: tBlk g1 31 (ownC o).toArray :: G) w' := by
  refine ⟨_, _, hM, ?_⟩
  have h2 : OwnT H A (tRow 31 3 v0 len XS :: tBlk g1 31 (ownC o).toArray :: G) w := by
    unfold AddI at h
    rw [hl, h13] at h
    simpa using h
  refine (insert_any v0 len n g1 XS (ownC o) w h2 hn (by omega) rfl h1 (ownC_one o)).mono ?_
  rintro e w' ⟨v', rfl, h3⟩
  refine ⟨v', rfl, by rw [hl]; simp, ?_, h3⟩
  have e13 : upd l 14 13 = l 13 := rfl
  have e14 : upd l 14 14 = true := rfl
  unfold AddI
  rw [e13, e14, if_pos rfl]
  exact ⟨h13, v', h3⟩
/-- A chunk's row goes back into its book. -/
theorem OwnT.putBack {H : Nat} {A w : World} {R : List Thing} {nb wb pb : Nat} {F1 F2 : List Nat} {m m' : Int → Option Value} {N W : Int → List OwD} {c : Int} {v : Value} {n : Nat} {X : List OwD}
    (h : OwnT H A (tRow 31 3 v n (X.flatMap ownC) :: tCh nb F1 m (setL N c []) :: tBlk pb 114 #[.map (some nb), .map (some wb)] :: tCh wb F2 m' W :: R) w)
    (hX : X ≠ []) (hs : X.Pairwise ltO) (ok1 : OkM m N) (ok2 : OkM m' W) (hs1 : SortedL N) (hs2 : SortedL W) (hc1 : 1 ≤ c) (hc2 : c ≤ 1023) {w' : World} (hv : VM w' nb 1024 (putV m c v)) (hC : Chg [nb] w w') :
    ∃ F', OwnT H A (tOB pb F' (setL N c X) W :: R) w' := by
  have hwc : wfV c := wfV_of (by omega) (by omega)
  have hp : ∀ i, i ≠ c → putV m c v i = m i := fun i hi => if_neg hi
  have hpc : putV m c v c = some v := if_pos rfl
  have h1 := h.perm (.swap _ _ _)
  have hS := h1.ch
  have h2 := h1.chMap hv hC (fun i hi hj => by
    by_cases e : i = c
    · subst e; exact ⟨hc1, hc2⟩
    · rw [hp i e] at hj; exact hS.keys i hi hj) (fun i hi => hp i (fun e => by subst e; exact hi (setL_same N i [])))
  obtain ⟨F', h3⟩ := (h2.perm (.swap _ _ _)).putRow c (setL_same N c []) hX hpc hwc
  rw [setL_set] at h3
  refine (h3.perm (.swap _ _ _)).closeB (fun i hi => ?_) ok2 (fun i => ?_) hs2
  · by_cases e : i = c
    · subst e; rw [setL_same] at hi; exact absurd hi hX
    · rw [setL_other e] at hi; rw [hp i e]; exact ok1 i hi
  · by_cases e : i = c
    · subst e; rw [setL_same]; exact hs
    · rw [setL_other e]; exact hs1 i
set_option maxRecDepth 100000 in
set_option maxHeartbeats 4000000 in
theorem add_any {H : Nat} {A : World} {R : List Thing} (pb : Nat) (F : List Nat) (N W : Int → List OwD) (c : Int) (o : OwD) (w : World) (hO : OwnT H A (tOB pb F N W :: R) w) (hc1 : 1 ≤ c) (hc2 : c ≤ 1023) (hn : (N c).length ≤ 1000000000) :
    Calls Try.prog 14 #[.pointer (some ⟨pb, 0, none⟩), .int .i64 c, ownV o] w fun e w' =>
      (o ∈ N c → e = .returned (.int .i64 8) ∧ OwnT H A (tOB pb F N W :: R) w') ∧ (o ∉ N c → e = .returned (.int .i64 0) ∧ ∃ F', OwnT H A (tOB pb F' (setL N c (insO o (N c))) W :: R) w') := by
  have hwc : wfV c := wfV_of (by omega) (by omega)
  obtain ⟨nb, wb, F1, F2, m, m', hO1, ok1, ok2, hs1, hs2⟩ := hO.openB
  obtain ⟨n, hp1, hp2, hp3, hp4⟩ := lower_ex o (N c) (hs1 c)
  have hfi := found_iff (hs1 c) hp2 hp3
  have hS0 : ChS w nb F1 m N := hO1.all.2.1
  obtain ⟨B, cap, hv, hcap, hmax, -, hrow⟩ := row_Row (hS0.row ok1 c)
  have HLK := Lib.hid (show ∀ W', Ext w W' → W'.cell? ⟨pb, 0, none⟩ = some (.map (some nb)) ∧ (Instr.lookup 112 (.map (some nb)) (.int .i64 c) false).run Try.prog W' = .ok (.slice B (N c).length cap) W' from fun W' hE =>
    ⟨(hO1.b0.ext hE).cell 0, hv ▸ (hS0.ext hE).look hwc⟩)
  have HBS := Lib.hid (fun W' (hE : Ext w W') => bsearchO_any B (N c).length cap (N c) o W' rfl (by omega) (hrow.below hE) n hp1 hp2 hp3)
  obtain ⟨z, hz⟩ : ∃ z, decide (n < (N c).length ∧ atO (N c) n = o) = z := ⟨_, rfl⟩
  rw [hz] at HBS
  have HZ := Lib.hid (show z = true ↔ o ∈ N c by rw [← hz, decide_eq_true_iff]; exact hfi)
  have HIN := Lib.hid (And.intro hp4 (And.intro hp1 hn))
  have HO := Lib.hid hO
  have HO1 := Lib.hid hO1
  have HS := Lib.hid (And.intro ok1 (And.intro ok2 (And.intro hs1 hs2)))
  have HV := Lib.hid hv
  obtain ⟨g0, hg0⟩ : ∃ g0, w.heap.size = g0 := ⟨_, rfl⟩
  have hlen : (N c).length ≤ 1000000000 := hn
  have hnl : n ≤ 1000000000 := by omega
  obtain ⟨len, hlenE⟩ : ∃ len, (N c).length = len := ⟨_, rfl⟩
  rw [hlenE] at HLK HBS hcap
  clear hO hO1 ok1 ok2 hs1 hs2 hp1 hp2 hp3 hp4 hfi hS0 hv hrow hn hz hlen
  have HLEN := Lib.hid hlenE
  clear hlenE
  obtain ⟨o1, o2, o3⟩ := o
  unfold ownV at HBS ⊢
  have hE1 := Ext.alloc w (.cells #[.int .i64 o1, .int .i64 o2, .int .i64 o3] 31)
  have hB1 := Blk.new w 31 #[.int .i64 o1, .int .i64 o2, .int .i64 o3]
  have O1 := HO1.out.new 31 #[.int .i64 o1, .int .i64 o2, .int .i64 o3]
  rw [hg0] at hB1 O1
  have HE1 := Lib.hid (And.intro hE1 hB1)
  have HO2 := Lib.hid O1
  clear hE1 hB1 O1
  go_enter Try.func14, Try.ntmps14
  go_upto_region 5 with fail
  generalize hw1 : w.alloc (.cells #[.int .i64 o1, .int .i64 o2, .int .i64 o3] 31) = w1 at HE1 HO2 ⊢
  clear hw1
  refine wp_typed (R := Ext) (w0 := w1) [[], [0], [0, 1], [0, 1, 2], [], [0, 1, 2, 3, 4], [], [0, 1, 2, 3, 4, 5, 6], [0, 1, 2, 3, 4, 5, 6, 7], [0, 1, 2, 3, 4, 5, 6, 7, 8], [0, 1, 2, 3, 4, 5, 6, 7, 8], [0, 1, 2, 3, 4, 5, 6, 7, 8, 9], [0, 1, 2, 3, 4, 5, 6, 7, 8, 9, 10, 11]] [20, 21, 22, 23, 24, 25, 26, 27, 19, 28, 29, 7, 8] Ext.refl (fun _ _ _ => Ext.trans) (Ext.drew _) (by kernel_rfl) ?_
  apply Build.det 20 Ext.refl (by rfl) (by rfl) rfl
  case h =>   -- 0: t20 := Op.move (tmp 0)
    intro ax wx hE hR hF
    have e0 : ax.eval (.tmp 0) = .pointer (some ⟨pb, 0, none⟩) := hE.eval 0 (by rfl) rfl
    simp [go_sem, BigFrame.eval_const, BigFrame.eval_global, BigFrame.eval_func, ↓IntWalk.iteOmega, ev e0]
    with_reducible rfl
  apply Build.det 21 Ext.refl (by rfl) (by rfl) rfl
  case h =>   -- 1: t21 := Op.nilCheck (tmp 20)
    intro ax wx hE hR hF
    have e20 : ax.eval (.tmp 20) = _ := hF 0 (det 20 _) (by decide) (.head _)
    simp [go_sem, BigFrame.eval_const, BigFrame.eval_global, BigFrame.eval_func, ↓IntWalk.iteOmega, ev e20]
    with_reducible rfl
  apply Build.det 22 Ext.refl (by rfl) (by rfl) rfl
  case h =>   -- 2: t22 := Op.fieldAddr 114 (tmp 21) 0
    intro ax wx hE hR hF
    have e21 : ax.eval (.tmp 21) = _ := hF 1 (det 21 _) (by decide) (.head _)
    simp [go_sem, BigFrame.eval_const, BigFrame.eval_global, BigFrame.eval_func, ↓IntWalk.iteOmega, ev e21]
    with_reducible rfl
  apply Build.det 23 Ext.refl (by rfl) (by rfl) rfl
  case h =>   -- 3: t23 := Op.load 112 (tmp 22)
    intro ax wx hE hR hF
    have e22 : ax.eval (.tmp 22) = _ := hF 2 (det 22 _) (by decide) (.head _)
    obtain ⟨q0, l1⟩ := HLK.out wx (HE1.out.1.trans hR); have hB := HE1.out.2.ext hR; have a0 := hB.cell 0; have a1 := hB.cell 1; have a2 := hB.cell 2; simp at a0 a1 a2
    simp [go_sem, BigFrame.eval_const, BigFrame.eval_global, BigFrame.eval_func, ↓IntWalk.iteOmega, ev e22, q0, a0, a1, a2]
    with_reducible rfl
  apply Build.det 24 Ext.refl (by rfl) (by rfl) rfl
  case h =>   -- 4: t24 := Op.move (tmp 1)
    intro ax wx hE hR hF
    have e1 : ax.eval (.tmp 1) = .int .i64 c := hE.eval 1 (by rfl) rfl
    simp [go_sem, BigFrame.eval_const, BigFrame.eval_global, BigFrame.eval_func, ↓IntWalk.iteOmega, ev e1]
    with_reducible rfl
  apply Build.det 25 Ext.refl (by rfl) (by rfl) rfl
  case h =>   -- 5: t25 := Op.lookup 112 (tmp 23) (tmp 24) false
    intro ax wx hE hR hF
    have e23 : ax.eval (.tmp 23) = _ := hF 3 (det 23 _) (by decide) (.tail _ (.head _))
    have e24 : ax.eval (.tmp 24) = _ := hF 4 (det 24 _) (by decide) (.head _)
    obtain ⟨q0, l1⟩ := HLK.out wx (HE1.out.1.trans hR)
    simp [go_sem, BigFrame.eval_const, BigFrame.eval_global, BigFrame.eval_func, ↓IntWalk.iteOmega, ev e23, ev e24, l1]
    with_reducible rfl
  apply Build.det 26 Ext.refl (by rfl) (by rfl) rfl
  case h =>   -- 6: t26 := Op.load 31 (tmp 5)
    intro ax wx hE hR hF
    have e5 : ax.eval (.tmp 5) = .pointer (some ⟨g0, 0, none⟩) := hE.eval 5 (by rfl) rfl
    obtain ⟨q0, l1⟩ := HLK.out wx (HE1.out.1.trans hR); have hB := HE1.out.2.ext hR; have a0 := hB.cell 0; have a1 := hB.cell 1; have a2 := hB.cell 2; simp at a0 a1 a2
    simp [go_sem, BigFrame.eval_const, BigFrame.eval_global, BigFrame.eval_func, ↓IntWalk.iteOmega, ev e5, q0, a0, a1, a2]
    with_reducible rfl
  apply Build.call 27 Ext.refl (by rfl) (by rfl) rfl
  case h =>
    intro ax wx hE hR hF
    have e25 : ax.eval (.tmp 25) = _ := hF 5 (det 25 _) (by decide) (.tail _ (.head _))
    have e26 : ax.eval (.tmp 26) = _ := hF 6 (det 26 _) (by decide) (.head _)
    simp [go_sem, BigFrame.eval_const, BigFrame.eval_global, BigFrame.eval_func, ↓IntWalk.iteOmega, ev e25, ev e26]
    with_reducible exact ⟨rfl, rfl⟩
  case hc => intro wx hR; with_reducible exact HBS.out wx (HE1.out.1.trans hR)
  apply Build.det 19 Ext.refl (by rfl) (by rfl) rfl
  case h =>   -- 8: t19 := Op.move (tmp 27)
    intro ax wx hE hR hF
    have e27 : ax.eval (.tmp 27) = _ := hF 7 (det 27 _) (by decide) (.head _)
    simp [go_sem, BigFrame.eval_const, BigFrame.eval_global, BigFrame.eval_func, ↓IntWalk.iteOmega, ev e27]
    with_reducible rfl
  apply Build.det 28 Ext.refl (by rfl) (by rfl) rfl
  case h =>   -- 9: t28 := Op.extract (tmp 19) 0
    intro ax wx hE hR hF
    have e19 : ax.eval (.tmp 19) = _ := hF 8 (det 19 _) (by decide) (.head _)
    simp [go_sem, BigFrame.eval_const, BigFrame.eval_global, BigFrame.eval_func, ↓IntWalk.iteOmega, ev e19]
    with_reducible rfl
  apply Build.det 29 Ext.refl (by rfl) (by rfl) rfl
  case h =>   -- 10: t29 := Op.extract (tmp 19) 1
    intro ax wx hE hR hF
    have e19 : ax.eval (.tmp 19) = _ := hF 8 (det 19 _) (by decide) (.tail _ (.head _))
    simp [go_sem, BigFrame.eval_const, BigFrame.eval_global, BigFrame.eval_func, ↓IntWalk.iteOmega, ev e19]
    with_reducible rfl
  apply Build.det 7 Ext.refl (by rfl) (by rfl) rfl
  case h =>   -- 11: t7 := Op.assign (tmp 28)
    intro ax wx hE hR hF
    have e28 : ax.eval (.tmp 28) = _ := hF 9 (det 28 _) (by decide) (.tail _ (.head _))
    simp [go_sem, BigFrame.eval_const, BigFrame.eval_global, BigFrame.eval_func, ↓IntWalk.iteOmega, ev e28]
    with_reducible rfl
  apply Build.det 8 Ext.refl (by rfl) (by rfl) rfl
  case h =>   -- 12: t8 := Op.assign (tmp 29)
    intro ax wx hE hR hF
    have e29 : ax.eval (.tmp 29) = _ := hF 10 (det 29 _) (by decide) (.tail _ (.head _))
    simp [go_sem, BigFrame.eval_const, BigFrame.eval_global, BigFrame.eval_func, ↓IntWalk.iteOmega, ev e29]
    with_reducible rfl
  apply Build.stop
  refine ⟨by kernel_rfl, .inl ⟨rfl, ?_⟩⟩
  intro ax w2 hE R2 hF
  have e20 : ax.eval (.tmp 20) = _ := hF 0 (det 20 _) (.tail _ (.tail _ (.tail _ (.tail _ (.tail _ (.tail _ (.tail _ (.tail _ (.tail _ (.tail _ (.tail _ (.tail _ (.head _)))))))))))))
  have e21 : ax.eval (.tmp 21) = _ := hF 1 (det 21 _) (.tail _ (.tail _ (.tail _ (.tail _ (.tail _ (.tail _ (.tail _ (.tail _ (.tail _ (.tail _ (.tail _ (.head _))))))))))))
  have e22 : ax.eval (.tmp 22) = _ := hF 2 (det 22 _) (.tail _ (.tail _ (.tail _ (.tail _ (.tail _ (.tail _ (.tail _ (.tail _ (.tail _ (.tail _ (.head _)))))))))))
  have e23 : ax.eval (.tmp 23) = _ := hF 3 (det 23 _) (.tail _ (.tail _ (.tail _ (.tail _ (.tail _ (.tail _ (.tail _ (.tail _ (.tail _ (.head _))))))))))
  have e24 : ax.eval (.tmp 24) = _ := hF 4 (det 24 _) (.tail _ (.tail _ (.tail _ (.tail _ (.tail _ (.tail _ (.tail _ (.tail _ (.head _)))))))))
  have e25 : ax.eval (.tmp 25) = _ := hF 5 (det 25 _) (.tail _ (.tail _ (.tail _ (.tail _ (.tail _ (.tail _ (.tail _ (.head _))))))))
  have e26 : ax.eval (.tmp 26) = _ := hF 6 (det 26 _) (.tail _ (.tail _ (.tail _ (.tail _ (.tail _ (.tail _ (.head _)))))))
  have e27 : ax.eval (.tmp 27) = _ := hF 7 (det 27 _) (.tail _ (.tail _ (.tail _ (.tail _ (.tail _ (.head _))))))
  have e19 : ax.eval (.tmp 19) = _ := hF 8 (det 19 _) (.tail _ (.tail _ (.tail _ (.tail _ (.head _)))))
  have e28 : ax.eval (.tmp 28) = _ := hF 9 (det 28 _) (.tail _ (.tail _ (.tail _ (.head _))))
  have e29 : ax.eval (.tmp 29) = _ := hF 10 (det 29 _) (.tail _ (.tail _ (.head _)))
  have e7 : ax.eval (.tmp 7) = _ := hF 11 (det 7 _) (.tail _ (.head _))
  have e8 : ax.eval (.tmp 8) = _ := hF 12 (det 8 _) (.head _)
  rw [AllEq.frame (D := [20, 21, 22, 23, 24, 25, 26, 27, 19, 28, 29, 7, 8]) (AllEq.cons e20 (AllEq.cons e21 (AllEq.cons e22 (AllEq.cons e23 (AllEq.cons e24 (AllEq.cons e25 (AllEq.cons e26 (AllEq.cons e27 (AllEq.cons e19 (AllEq.cons e28 (AllEq.cons e29 (AllEq.cons e7 (AllEq.cons e8 (AllEq.nil)))))))))))))) hE rfl]
  clear hF hE e20 e21 e22 e23 e24 e25 e26 e27 e19 e28 e29 e7 e8
  simp only [List.foldl_cons, List.foldl_nil, Act.put, List.setIfInBounds_toArray, List.set_cons_succ, List.set_cons_zero]
  have HE2 := Lib.hid (And.intro (HE1.out.1.trans R2) (HE1.out.2.ext R2))
  have HO2 := Lib.hid (HO2.out.ext R2)
  clear R2 HE1 HBS
  cases z
  · have hnot : (o1, o2, o3) ∉ N c := fun h => by have := HZ.out.2 h; cases this
    have HNOT := Lib.hid hnot
    clear hnot
    go_upto_region 8 with fail
    obtain ⟨F1', O3⟩ := (HO2.out.front [_, _] rfl).takeAny HS.out.1 c
    obtain ⟨G, hG⟩ : ∃ G : List Thing, tCh nb F1' m (setL N c []) :: tBlk g0 31 #[.int .i64 o1, .int .i64 o2, .int .i64 o3] :: tBlk pb 114 #[.map (some nb), .map (some wb)] :: tCh wb F2 m' W :: R = G := ⟨_, rfl⟩
    have HO4 : Hid (OwnT H A (tRow 31 3 ((m c).getD (.slice none 0 0)) (N c).length ((N c).flatMap ownC) :: G) w2) := Lib.hid (hG ▸ O3)
    have HG := Lib.hid hG
    clear O3 hG
    have HCS := Lib.hid (flat_one (N c))
    obtain ⟨XS, hXS⟩ : ∃ XS, (N c).flatMap ownC = XS := ⟨_, rfl⟩
    rw [hXS] at HO4 HCS
    rw [HV.out, HLEN.out] at HO4
    have HX := Lib.hid hXS
    clear hXS
    have HCE := Lib.hid (show ∀ wx, OwnT H A G wx → wx.cell? ⟨pb, 0, none⟩ = some (.map (some nb)) ∧ (Instr.lookup 112 (.map (some nb)) (.int .i64 c) false).run Try.prog wx = .ok (.slice B len cap) wx ∧ Blk wx g0 31 #[.int .i64 o1, .int .i64 o2, .int .i64 o3] from fun wx h => by
      rw [← HG.out] at h
      refine ⟨h.b2.cell 0, ?_, h.b1⟩
      have h1 : ChS wx nb F1' m (setL N c []) := h.all.1
      have h2 := h1.look hwc
      rw [HV.out, HLEN.out] at h2
      exact h2)
    obtain ⟨g1, hg1⟩ : ∃ g1, w2.heap.size = g1 := ⟨_, rfl⟩
    have HI0 := Lib.hid (show AddI H A (.slice B len cap) len XS g1 (ownC (o1, o2, o3)) n G false false w2.drew from ⟨HO4.out.drew, hg1⟩)
    have hln : len ≤ 1000000000 ∧ n ≤ len := by
      have h1 := HIN.out.2.1
      have h2 := HIN.out.2.2
      rw [HLEN.out] at h1 h2
      omega
    refine wp_phasedL (fun l w w' => if l 14 = true then Ext w w' else True) (fun l w => AddI H A (.slice B len cap) len XS g1 (ownC (o1, o2, o3)) n G (l 13) (l 14) w) [[], [0], [0, 1], [0, 1, 2], [], [], [5], [5, 6], [5, 6, 7], [], [5, 6, 7, 8, 9], [], [], [12], [5, 6, 7, 8, 9, 10, 11, 12, 13], [0, 1, 2, 3, 4, 5, 6, 7, 8, 9, 10, 11, 12, 13, 14]] [31, 32, 33, 34, 35, 36, 37, 38, 39, 40, 41, 42, 43, 44, 45] (fun l w => by split; exact Ext.refl _; exact True.intro) (HI0.out) (by kernel_rfl) ?_
    apply BuildL.det 31 (fun l w => by split; exact Ext.refl _; exact True.intro) (fun l w h => h) (by rfl) (by rfl) rfl
    case h =>   -- 0: t31 := Op.move (tmp 0)
      intro lx ax wx hE hR hF
      have e0 : ax.eval (.tmp 0) = .pointer (some ⟨pb, 0, none⟩) := hE.eval 0 (by rfl) rfl
      simp [go_sem, BigFrame.eval_const, BigFrame.eval_global, BigFrame.eval_func, ↓IntWalk.iteOmega, ev e0]
      with_reducible rfl
    apply BuildL.det 32 (fun l w => by split; exact Ext.refl _; exact True.intro) (fun l w h => h) (by rfl) (by rfl) rfl
    case h =>   -- 1: t32 := Op.nilCheck (tmp 31)
      intro lx ax wx hE hR hF
      have e31 : ax.eval (.tmp 31) = _ := hF 0 (detL 0 31 _) (by decide) (.head _)
      simp [go_sem, BigFrame.eval_const, BigFrame.eval_global, BigFrame.eval_func, ↓IntWalk.iteOmega, ev e31]
      with_reducible rfl
    apply BuildL.det 33 (fun l w => by split; exact Ext.refl _; exact True.intro) (fun l w h => h) (by rfl) (by rfl) rfl
    case h =>   -- 2: t33 := Op.fieldAddr 114 (tmp 32) 0
      intro lx ax wx hE hR hF
      have e32 : ax.eval (.tmp 32) = _ := hF 1 (detL 1 32 _) (by decide) (.head _)
      simp [go_sem, BigFrame.eval_const, BigFrame.eval_global, BigFrame.eval_func, ↓IntWalk.iteOmega, ev e32]
      with_reducible rfl
    apply BuildL.det 34 (fun l w => by split; exact Ext.refl _; exact True.intro) (fun l w h => h) (by rfl) (by rfl) rfl
    case h =>   -- 3: t34 := Op.load 112 (tmp 33)
      intro lx ax wx hE hR hF
      have e33 : ax.eval (.tmp 33) = _ := hF 2 (detL 2 33 _) (by decide) (.head _)
      obtain ⟨q0, l1, hB⟩ := HCE.out wx (AddI.own hR); have a0 := hB.cell 0; have a1 := hB.cell 1; have a2 := hB.cell 2; simp at a0 a1 a2
      simp [go_sem, BigFrame.eval_const, BigFrame.eval_global, BigFrame.eval_func, ↓IntWalk.iteOmega, ev e33, q0, a0, a1, a2]
      with_reducible rfl
    apply BuildL.det 35 (fun l w => by split; exact Ext.refl _; exact True.intro) (fun l w h => h) (by rfl) (by rfl) rfl
    case h =>   -- 4: t35 := Op.move (tmp 1)
      intro lx ax wx hE hR hF
      have e1 : ax.eval (.tmp 1) = .int .i64 c := hE.eval 1 (by rfl) rfl
      simp [go_sem, BigFrame.eval_const, BigFrame.eval_global, BigFrame.eval_func, ↓IntWalk.iteOmega, ev e1]
      with_reducible rfl
    apply BuildL.det 36 (fun l w => by split; exact Ext.refl _; exact True.intro) (fun l w h => h) (by rfl) (by rfl) rfl
    case h =>   -- 5: t36 := Op.move (tmp 0)
      intro lx ax wx hE hR hF
      have e0 : ax.eval (.tmp 0) = .pointer (some ⟨pb, 0, none⟩) := hE.eval 0 (by rfl) rfl
      simp [go_sem, BigFrame.eval_const, BigFrame.eval_global, BigFrame.eval_func, ↓IntWalk.iteOmega, ev e0]
      with_reducible rfl
    apply BuildL.det 37 (fun l w => by split; exact Ext.refl _; exact True.intro) (fun l w h => h) (by rfl) (by rfl) rfl
    case h =>   -- 6: t37 := Op.nilCheck (tmp 36)
      intro lx ax wx hE hR hF
      have e36 : ax.eval (.tmp 36) = _ := hF 5 (detL 5 36 _) (by decide) (.head _)
      simp [go_sem, BigFrame.eval_const, BigFrame.eval_global, BigFrame.eval_func, ↓IntWalk.iteOmega, ev e36]
      with_reducible rfl
    apply BuildL.det 38 (fun l w => by split; exact Ext.refl _; exact True.intro) (fun l w h => h) (by rfl) (by rfl) rfl
    case h =>   -- 7: t38 := Op.fieldAddr 114 (tmp 37) 0
      intro lx ax wx hE hR hF
      have e37 : ax.eval (.tmp 37) = _ := hF 6 (detL 6 37 _) (by decide) (.head _)
      simp [go_sem, BigFrame.eval_const, BigFrame.eval_global, BigFrame.eval_func, ↓IntWalk.iteOmega, ev e37]
      with_reducible rfl
    apply BuildL.det 39 (fun l w => by split; exact Ext.refl _; exact True.intro) (fun l w h => h) (by rfl) (by rfl) rfl
    case h =>   -- 8: t39 := Op.load 112 (tmp 38)
      intro lx ax wx hE hR hF
      have e38 : ax.eval (.tmp 38) = _ := hF 7 (detL 7 38 _) (by decide) (.head _)
      obtain ⟨q0, l1, hB⟩ := HCE.out wx (AddI.own hR); have a0 := hB.cell 0; have a1 := hB.cell 1; have a2 := hB.cell 2; simp at a0 a1 a2
      simp [go_sem, BigFrame.eval_const, BigFrame.eval_global, BigFrame.eval_func, ↓IntWalk.iteOmega, ev e38, q0, a0, a1, a2]
      with_reducible rfl
    apply BuildL.det 40 (fun l w => by split; exact Ext.refl _; exact True.intro) (fun l w h => h) (by rfl) (by rfl) rfl
    case h =>   -- 9: t40 := Op.move (tmp 1)
      intro lx ax wx hE hR hF
      have e1 : ax.eval (.tmp 1) = .int .i64 c := hE.eval 1 (by rfl) rfl
      simp [go_sem, BigFrame.eval_const, BigFrame.eval_global, BigFrame.eval_func, ↓IntWalk.iteOmega, ev e1]
      with_reducible rfl
    apply BuildL.det 41 (fun l w => by split; exact Ext.refl _; exact True.intro) (fun l w h => h) (by rfl) (by rfl) rfl
    case h =>   -- 10: t41 := Op.lookup 112 (tmp 39) (tmp 40) false
      intro lx ax wx hE hR hF
      have e39 : ax.eval (.tmp 39) = _ := hF 8 (detL 8 39 _) (by decide) (.tail _ (.head _))
      have e40 : ax.eval (.tmp 40) = _ := hF 9 (detL 9 40 _) (by decide) (.head _)
      obtain ⟨q0, l1, hB⟩ := HCE.out wx (AddI.own hR)
      simp [go_sem, BigFrame.eval_const, BigFrame.eval_global, BigFrame.eval_func, ↓IntWalk.iteOmega, ev e39, ev e40, l1]
      with_reducible rfl
    apply BuildL.det 42 (fun l w => by split; exact Ext.refl _; exact True.intro) (fun l w h => h) (by rfl) (by rfl) rfl
    case h =>   -- 11: t42 := Op.move (tmp 7)
      intro lx ax wx hE hR hF
      have e7 : ax.eval (.tmp 7) = .int .i64 n := hE.eval 7 (by rfl) rfl
      simp [go_sem, BigFrame.eval_const, BigFrame.eval_global, BigFrame.eval_func, ↓IntWalk.iteOmega, ev e7]
      with_reducible rfl
    apply BuildL.det 43 (fun l w => by split; exact Ext.refl _; exact True.intro) (fun l w h => h) (by rfl) (by rfl) rfl
    case h =>   -- 12: t43 := Op.load 31 (tmp 5)
      intro lx ax wx hE hR hF
      have e5 : ax.eval (.tmp 5) = .pointer (some ⟨g0, 0, none⟩) := hE.eval 5 (by rfl) rfl
      obtain ⟨q0, l1, hB⟩ := HCE.out wx (AddI.own hR); have a0 := hB.cell 0; have a1 := hB.cell 1; have a2 := hB.cell 2; simp at a0 a1 a2
      simp [go_sem, BigFrame.eval_const, BigFrame.eval_global, BigFrame.eval_func, ↓IntWalk.iteOmega, ev e5, q0, a0, a1, a2]
      with_reducible rfl
    refine BuildL.new 44 (fun v w => v = .slice (some ⟨g1, 0, none⟩) 1 1) (fun l v w w' _ _ h => h) (by rfl) (by rfl) rfl ?_ ?_
    · intro lx ax wx hE hR hl hA hF
      have e43 : ax.eval (.tmp 43) = _ := hF 12 (detL 12 43 _) (by decide) (.head _)
      exact addI_alloc hR hl (by simp [go_sem, ev e43, ownC])
    refine BuildL.callnew 45 (fun v w => OwnT H A (tRow 31 3 v (len + 1) (XS.take (n * 3) ++ (ownC (o1, o2, o3) ++ XS.drop (n * 3))) :: tBlk g1 31 (ownC (o1, o2, o3)).toArray :: G) w) (fun l v w w' hl hR h => by rw [if_pos hl] at hR; exact h.ext hR) (by rfl) (by rfl) rfl ?_ ?_
    · intro lx ax wx hE hR hl hA hF
      have e41 : ax.eval (.tmp 41) = _ := hF 10 (detL 10 41 _) (by decide) (.tail _ (.tail _ (.tail _ (.head _))))
      have e42 : ax.eval (.tmp 42) = _ := hF 11 (detL 11 42 _) (by decide) (.tail _ (.tail _ (.head _)))
      have f44 := hF 13 _ (by decide) (.head _)
      have e44 : ax.eval (.tmp 44) = _ := f44
      exact addI_insert hR hl (hA 13 (by decide)) hln.2 hln.1 HCS.out (by simp [go_sem, ev e41, ev e42, ev e44])
    apply BuildL.stop
    refine ⟨by kernel_rfl, ?_⟩
    intro lx ax w3 hE R3 hL hF
    have e31 : ax.eval (.tmp 31) = _ := hF 0 (detL 0 31 _) (.tail _ (.tail _ (.tail _ (.tail _ (.tail _ (.tail _ (.tail _ (.tail _ (.tail _ (.tail _ (.tail _ (.tail _ (.tail _ (.tail _ (.head _)))))))))))))))
    have e32 : ax.eval (.tmp 32) = _ := hF 1 (detL 1 32 _) (.tail _ (.tail _ (.tail _ (.tail _ (.tail _ (.tail _ (.tail _ (.tail _ (.tail _ (.tail _ (.tail _ (.tail _ (.tail _ (.head _))))))))))))))
    have e33 : ax.eval (.tmp 33) = _ := hF 2 (detL 2 33 _) (.tail _ (.tail _ (.tail _ (.tail _ (.tail _ (.tail _ (.tail _ (.tail _ (.tail _ (.tail _ (.tail _ (.tail _ (.head _)))))))))))))
    have e34 : ax.eval (.tmp 34) = _ := hF 3 (detL 3 34 _) (.tail _ (.tail _ (.tail _ (.tail _ (.tail _ (.tail _ (.tail _ (.tail _ (.tail _ (.tail _ (.tail _ (.head _))))))))))))
    have e35 : ax.eval (.tmp 35) = _ := hF 4 (detL 4 35 _) (.tail _ (.tail _ (.tail _ (.tail _ (.tail _ (.tail _ (.tail _ (.tail _ (.tail _ (.tail _ (.head _)))))))))))
    have e36 : ax.eval (.tmp 36) = _ := hF 5 (detL 5 36 _) (.tail _ (.tail _ (.tail _ (.tail _ (.tail _ (.tail _ (.tail _ (.tail _ (.tail _ (.head _))))))))))
    have e37 : ax.eval (.tmp 37) = _ := hF 6 (detL 6 37 _) (.tail _ (.tail _ (.tail _ (.tail _ (.tail _ (.tail _ (.tail _ (.tail _ (.head _)))))))))
    have e38 : ax.eval (.tmp 38) = _ := hF 7 (detL 7 38 _) (.tail _ (.tail _ (.tail _ (.tail _ (.tail _ (.tail _ (.tail _ (.head _))))))))
    have e39 : ax.eval (.tmp 39) = _ := hF 8 (detL 8 39 _) (.tail _ (.tail _ (.tail _ (.tail _ (.tail _ (.tail _ (.head _)))))))
    have e40 : ax.eval (.tmp 40) = _ := hF 9 (detL 9 40 _) (.tail _ (.tail _ (.tail _ (.tail _ (.tail _ (.head _))))))
    have e41 : ax.eval (.tmp 41) = _ := hF 10 (detL 10 41 _) (.tail _ (.tail _ (.tail _ (.tail _ (.head _)))))
    have e42 : ax.eval (.tmp 42) = _ := hF 11 (detL 11 42 _) (.tail _ (.tail _ (.tail _ (.head _))))
    have e43 : ax.eval (.tmp 43) = _ := hF 12 (detL 12 43 _) (.tail _ (.tail _ (.head _)))
    have f44 := hF 13 _ (.tail _ (.head _))
    have f45 := hF 14 _ (.head _)
    have e44 : ax.eval (.tmp 44) = _ := f44; obtain ⟨v', e45, O5⟩ : ∃ v', ax.eval (.tmp 45) = v' ∧ OwnT H A (tRow 31 3 v' (len + 1) (XS.take (n * 3) ++ (ownC (o1, o2, o3) ++ XS.drop (n * 3))) :: tBlk g1 31 (ownC (o1, o2, o3)).toArray :: G) w3 := ⟨_, rfl, f45⟩
    rw [AllEq.frame (D := [31, 32, 33, 34, 35, 36, 37, 38, 39, 40, 41, 42, 43, 44, 45]) (AllEq.cons e31 (AllEq.cons e32 (AllEq.cons e33 (AllEq.cons e34 (AllEq.cons e35 (AllEq.cons e36 (AllEq.cons e37 (AllEq.cons e38 (AllEq.cons e39 (AllEq.cons e40 (AllEq.cons e41 (AllEq.cons e42 (AllEq.cons e43 (AllEq.cons e44 (AllEq.cons e45 (AllEq.nil)))))))))))))))) hE rfl]
    clear hF hE e31 e32 e33 e34 e35 e36 e37 e38 e39 e40 e41 e42 e43 e44 e45
    simp only [List.foldl_cons, List.foldl_nil, Act.put, List.setIfInBounds_toArray, List.set_cons_succ, List.set_cons_zero]
    simp only [List.length_cons, List.length_nil, Nat.zero_add, Nat.reduceAdd, List.drop_succ_cons, List.drop_zero, List.drop_nil, tailOps]
    have HW3 := Lib.hid hwc
    clear hwc
    have hVM : VM w3 nb 1023 m := ((HG.out ▸ O5.tail.tail : OwnT _ _ (tCh nb F1' m (setL N c []) :: _) w3)).ch.vm
    refine wp_vm_store (.tmp 34) (.tmp 35) (.tmp 45) 112 42 rfl Try.underlying112 (by decide) rfl hVM (c := c) rfl HW3.out (u := v') rfl ?_
    intro w4 h4 hC4
    have HEND := Lib.hid (show ∃ F', OwnT H A (tOB pb F' (setL N c (insO (o1, o2, o3) (N c))) W :: R) w4 from by
      have hXE : XS.take (n * 3) ++ (ownC (o1, o2, o3) ++ XS.drop (n * 3)) = (insO (o1, o2, o3) (N c)).flatMap ownC := by
        rw [HIN.out.1, ← HX.out, List.flatMap_append, List.flatMap_cons, flat_take, flat_drop]
      rw [hXE] at O5
      have O6 := (O5.sub (M := tRow 31 3 v' (len + 1) ((insO (o1, o2, o3) (N c)).flatMap ownC) :: G) (.cons_cons _ (.cons _ (.refl _))))
      rw [← HG.out] at O6
      have O7 := O6.sub (M := tRow 31 3 v' (len + 1) ((insO (o1, o2, o3) (N c)).flatMap ownC) :: tCh nb F1' m (setL N c []) :: tBlk pb 114 #[.map (some nb), .map (some wb)] :: tCh wb F2 m' W :: R) (.cons_cons _ (.cons_cons _ (.cons _ (.refl _))))
      exact O7.putBack (fun e => by have := insO_len (o1, o2, o3) (N c); rw [e] at this; cases this) (insO_sorted _ _ (HS.out.2.2.1 c) HNOT.out) HS.out.1 HS.out.2.1 HS.out.2.2.1 HS.out.2.2.2 hc1 hc2 h4 hC4)
    clear O5 hVM h4 hC4
    go_wp2_with fail
    go_ret
    exact ⟨fun h => absurd h HNOT.out, fun _ => ⟨rfl, HEND.out⟩⟩
  · have hin := HZ.out.1 rfl
    have HIN2 := Lib.hid hin
    clear hin HZ
    go_wp2_with fail
    go_ret
    exact ⟨fun _ => ⟨rfl, HO.out.ext HE2.out.1⟩, fun h => absurd HIN2.out h⟩
end Go.Proofs.Ytdpohbaeopidmaa
