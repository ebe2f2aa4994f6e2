/- owners: Remove. -/
import Derived.Test.YtdpohbaeopidmaaKOwnersExact12
namespace Go.Proofs.Ytdpohbaeopidmaa
set_option linter.unusedVariables false
set_option linter.unusedSimpArgs false
open Go.RowKit Go.Maps

theorem idx_ex (x : OwD) : ∀ X : List OwD, (x ∉ X ∧ IdxIs X x (-1)) ∨ ∃ i : Nat, i < X.length ∧ x ∈ X ∧ IdxIs X x i ∧ X.erase x = X.take i ++ X.drop (i + 1)
  | [] => .inl ⟨by simp, .inr ⟨rfl, fun j hj => by simp at hj⟩⟩
  | y :: r => by
    by_cases hy : y = x
    · subst hy
      exact .inr ⟨0, by simp, by simp, .inl ⟨0, by simp, rfl, rfl, fun j hj => by omega⟩, by simp⟩
    · rcases idx_ex x r with ⟨h1, h2⟩ | ⟨i, h1, h2, h3, h4⟩
      · refine .inl ⟨by simp [h1, Ne.symm hy], .inr ⟨rfl, fun j hj => ?_⟩⟩
        cases j with
        | zero => exact hy
        | succ j =>
          rcases h2 with ⟨i, _, e, _⟩ | ⟨_, h⟩
          · omega
          · exact h j (by simpa using hj)
      · refine .inr ⟨i + 1, by simp; omega, by simp [h2], .inl ⟨i + 1, by simp; omega, rfl, ?_, fun j hj => ?_⟩, ?_⟩
        · rcases h3 with ⟨k, _, e, h, _⟩ | ⟨e, _⟩
          · have : i = k := by omega
            subst this
            exact h
          · omega
        · cases j with
          | zero => exact hy
          | succ j =>
            rcases h3 with ⟨k, _, e, _, h⟩ | ⟨e, _⟩
            · exact h j (by omega)
            · omega
        · rw [List.erase_cons_tail (by simpa using hy), h4]
          rfl
theorem erase_len {x : OwD} {X : List OwD} (h : x ∈ X) : (X.erase x).length = X.length - 1 := List.length_erase_of_mem h
theorem erase_sorted {X : List OwD} (x : OwD) (h : X.Pairwise ltO) : (X.erase x).Pairwise ltO := h.sublist List.erase_sublist

theorem rem_nil (c : Int) (o : OwD) (w : World) : Calls Try.prog 17 #[.pointer none, .int .i64 c, ownV o] w fun e w' => e = .returned (.tuple #[.bool false, .int .i64 2]) ∧ Ext w w' := by
  unfold ownV
  go_enter Try.func17, Try.ntmps17
  go_wp2
  go_ret2
  exact ⟨rfl, by (repeat (first | with_reducible exact Below.refl _ _ | with_reducible assumption | with_reducible apply Below.drew | with_reducible apply below_drewN | (with_reducible refine below_set ?_ ?_; focus ((try simp); (try omega); done)) | (with_reducible refine below_new ?_ ?_; focus ((try simp); (try omega); done))))⟩

/-- Ahead of Delete; behind it. -/
def RemI (H : Nat) (A : World) (v0 : Value) (len : Nat) (XS YS : List Value) (G : List Thing) (b14 : Bool) (w : World) : Prop :=
  if b14 = true then ∃ v, OwnT H A (tRow 31 3 v (len - 1) YS :: G) w else OwnT H A (tRow 31 3 v0 len XS :: G) w
theorem RemI.own {H : Nat} {A : World} {v0 : Value} {len : Nat} {XS YS : List Value} {G : List Thing} {b14 : Bool} {w : World} (h : RemI H A v0 len XS YS G b14 w) : OwnT H A G w := by
  unfold RemI at h
  split at h
  · obtain ⟨v, h⟩ := h
    exact h.tail
  · exact h.tail
theorem remI_delete {H : Nat} {A : World} {v0 : Value} {len : Nat} {XS : List Value} {n : Nat} {G : List Thing} {l : Nat → Bool} {w : World} {M : Sem Next} (h : RemI H A v0 len XS (XS.take (n * 3) ++ XS.drop ((n + 1) * 3)) G (l 14) w) (hl : l 14 = false) (hn : n < len) (h1 : ∀ u ∈ XS, u.oneCell' = true)
    (hM : M.run Try.prog w = .ok (.enter 71 #[v0, .int .i64 n, .int .i64 ((n : Int) + 1)]) w) :
    ∃ f args, M.run Try.prog w = .ok (.enter f args) w ∧ Calls Try.prog f args w fun e w' => ∃ v, e = .returned v ∧ (if l 14 = true then Ext w w' else True) ∧ RemI H A v0 len XS (XS.take (n * 3) ++ XS.drop ((n + 1) * 3)) G (upd l 14 14) w' ∧
      OwnT H A (tRow 31 3 v (len - 1) (XS.take (n * 3) ++ XS.drop ((n + 1) * 3)) :: G) w' := by
  refine ⟨_, _, hM, ?_⟩
  have h2 : OwnT H A (tRow 31 3 v0 len XS :: G) w := by
    unfold RemI at h
    rw [hl] at h
    simpa using h
  refine (delete_any v0 len n XS w h2 hn h1).mono ?_
  rintro e w' ⟨v', rfl, h3⟩
  refine ⟨v', rfl, by rw [hl]; simp, ?_, h3⟩
  have e14 : upd l 14 14 = true := rfl
  unfold RemI
  rw [e14, if_pos rfl]
  exact ⟨v', h3⟩

section
variable {H : Nat} {A w : World} {R : List Thing} {nb wb pb : Nat} {F1 F2 : List Nat} {m m' : Int → Option Value} {N W : Int → List OwD} {c : Int} {v : Value} {n : Nat} {xs : List Value}
/-- The map has a chunk's row that lies beside. -/
theorem OwnT.keyed (h : OwnT H A (tRow 31 3 v n xs :: tCh nb F1 m (setL N c []) :: R) w) (hc1 : 1 ≤ c) (hc2 : c ≤ 1023) {w' : World} (hv : VM w' nb 1024 (putV m c v)) (hC : Chg [nb] w w') :
    OwnT H A (tRow 31 3 v n xs :: tCh nb F1 (putV m c v) (setL N c []) :: R) w' := by
  have hp : ∀ i, i ≠ c → putV m c v i = m i := fun i hi => if_neg hi
  have h1 := h.perm (.swap _ _ _)
  have hS := h1.ch
  refine OwnT.perm (h1.chMap hv hC (fun i hi hj => ?_) (fun i hi => hp i (fun e => by subst e; exact hi (setL_same N i [])))) (.swap _ _ _)
  by_cases e : i = c
  · subst e; exact ⟨hc1, hc2⟩
  · rw [hp i e] at hj; exact hS.keys i hi hj
/-- It goes back into its book. -/
theorem OwnT.back {X : List OwD} (h : OwnT H A (tRow 31 3 v n (X.flatMap ownC) :: tCh nb F1 (putV m c v) (setL N c []) :: tBlk pb 114 #[.map (some nb), .map (some wb)] :: tCh wb F2 m' W :: R) w)
    (hX : X ≠ []) (hs : X.Pairwise ltO) (ok1 : OkM m N) (ok2 : OkM m' W) (hs1 : SortedL N) (hs2 : SortedL W) (hc1 : 1 ≤ c) (hc2 : c ≤ 1023) :
    ∃ F', OwnT H A (tOB pb F' (setL N c X) W :: R) w := by
  have hwc : wfV c := wfV_of (by omega) (by omega)
  have hp : ∀ i, i ≠ c → putV m c v i = m i := fun i hi => if_neg hi
  have hpc : putV m c v c = some v := if_pos rfl
  obtain ⟨F', h3⟩ := h.putRow c (setL_same N c []) hX hpc hwc
  rw [setL_set] at h3
  refine (h3.perm (.swap _ _ _)).closeB (fun i hi => ?_) ok2 (fun i => ?_) hs2
  · by_cases e : i = c
    · subst e; rw [setL_same] at hi; exact absurd hi hX
    · rw [setL_other e] at hi; rw [hp i e]; exact ok1 i hi
  · by_cases e : i = c
    · subst e; rw [setL_same]; exact hs
    · rw [setL_other e]; exact hs1 i
/-- The chunk has none any more. -/
theorem OwnT.gone (h : OwnT H A (tRow 31 3 v n xs :: tCh nb F1 (putV m c v) (setL N c []) :: tBlk pb 114 #[.map (some nb), .map (some wb)] :: tCh wb F2 m' W :: R) w)
    (ok1 : OkM m N) (ok2 : OkM m' W) (hs1 : SortedL N) (hs2 : SortedL W) {w' : World} (hv : VM w' nb 1023 (delV (putV m c v) c)) (hC : Chg [nb] w w') :
    ∃ F', OwnT H A (tOB pb F' (setL N c []) W :: R) w' := by
  have hd : ∀ i, i ≠ c → delV (putV m c v) c i = m i := fun i hi => (if_neg hi).trans (if_neg hi)
  have hdp : ∀ i, i ≠ c → delV (putV m c v) c i = putV m c v i := fun i hi => if_neg hi
  have hdc : delV (putV m c v) c c = none := if_pos rfl
  have hS := h.tail.ch
  have h2 := h.tail.chMap (hv.mono (by omega)) hC (fun i hi hj => by
    by_cases e : i = c
    · subst e; rw [hdc] at hj; cases hj
    · rw [hdp i e] at hj; exact hS.keys i hi hj) (fun i hi => hdp i (fun e => by subst e; exact hi (setL_same N i [])))
  refine (h2.perm (.swap _ _ _)).closeB (fun i hi => ?_) ok2 (fun i => ?_) hs2
  · by_cases e : i = c
    · subst e; exact hdc
    · rw [setL_other e] at hi; rw [hd i e]; exact ok1 i hi
  · by_cases e : i = c
    · subst e; rw [setL_same]; exact List.Pairwise.nil
    · rw [setL_other e]; exact hs1 i
end
set_option maxRecDepth 100000 in
set_option maxHeartbeats 4000000 in
theorem rem_any {H : Nat} {A : World} {R : List Thing} (pb : Nat) (F : List Nat) (N W : Int → List OwD) (c : Int) (o : OwD) (w : World) (hO : OwnT H A (tOB pb F N W :: R) w) (hwc : wfV c) (hn : (N c).length ≤ 1000000000) :
    Calls Try.prog 17 #[.pointer (some ⟨pb, 0, none⟩), .int .i64 c, ownV o] w fun e w' =>
      (o ∉ N c → e = .returned (.tuple #[.bool false, .int .i64 7]) ∧ OwnT H A (tOB pb F N W :: R) w') ∧
      (o ∈ N c → e = .returned (.tuple #[.bool (decide (((N c).erase o).length = 0)), .int .i64 0]) ∧ ∃ F', OwnT H A (tOB pb F' (setL N c ((N c).erase o)) W :: R) w') := by
  obtain ⟨nb, wb, F1, F2, m, m', hO1, ok1, ok2, hs1, hs2⟩ := hO.openB
  have hS0 : ChS w nb F1 m N := hO1.all.2.1
  obtain ⟨B, cap, hv, hcap, hmax, -, hrow⟩ := row_Row (hS0.row ok1 c)
  have HLK := Lib.hid (show ∀ W', Ext w W' → W'.cell? ⟨pb, 0, none⟩ = some (.map (some nb)) ∧ (Instr.lookup 112 (.map (some nb)) (.int .i64 c) false).run Try.prog W' = .ok (.slice B (N c).length cap) W' from fun W' hE =>
    ⟨(hO1.b0.ext hE).cell 0, hv ▸ (hS0.ext hE).look hwc⟩)
  have hix : ∃ r, IdxIs (N c) o r ∧ ((o ∉ N c ∧ r = -1) ∨ ∃ i : Nat, r = i ∧ i < (N c).length ∧ o ∈ N c ∧ (N c).erase o = (N c).take i ++ (N c).drop (i + 1)) := by
    rcases idx_ex o (N c) with ⟨h1, h2⟩ | ⟨i, h1, h2, h3, h4⟩
    · exact ⟨_, h2, .inl ⟨h1, rfl⟩⟩
    · exact ⟨_, h3, .inr ⟨i, rfl, h1, h2, h4⟩⟩
  obtain ⟨r, hr, hrr⟩ := hix
  have HBS := Lib.hid (fun W' (hE : Ext w W') => indexO_any B (N c).length cap (N c) o W' rfl (by omega) (hrow.below hE) r hr)
  have HO := Lib.hid hO
  have HO1 := Lib.hid hO1
  have HS := Lib.hid (And.intro ok1 (And.intro ok2 (And.intro hs1 hs2)))
  have HV := Lib.hid hv
  have HR := Lib.hid hrr
  have HKEY := Lib.hid (show N c ≠ [] → 1 ≤ c ∧ c ≤ 1023 from hS0.range c)
  obtain ⟨g0, hg0⟩ : ∃ g0, w.heap.size = g0 := ⟨_, rfl⟩
  have hr2 : -1 ≤ r ∧ r < 1000000000 := by
    rcases hrr with ⟨_, rfl⟩ | ⟨i, rfl, _, _⟩ <;> omega
  obtain ⟨len, hlenE⟩ : ∃ len, (N c).length = len := ⟨_, rfl⟩
  rw [hlenE] at HLK HBS hcap hn
  clear hO hO1 ok1 ok2 hs1 hs2 hS0 hv hrow hr hrr
  have HLEN := Lib.hid hlenE
  clear hlenE
  obtain ⟨o1, o2, o3⟩ := o
  unfold ownV at HBS ⊢
  have hE1 := Ext.alloc w (.cells #[.int .i64 o1, .int .i64 o2, .int .i64 o3] 31)
  have hB1 := Blk.new w 31 #[.int .i64 o1, .int .i64 o2, .int .i64 o3]
  have O1 := HO1.out.new 31 #[.int .i64 o1, .int .i64 o2, .int .i64 o3]
  rw [hg0] at hB1 O1
  have HE1 := Lib.hid (And.intro hE1 hB1)
  have HO2 := Lib.hid O1
  clear hE1 hB1 O1
  go_enter Try.func17, Try.ntmps17
  go_upto_region 3 with fail
  generalize hw1 : w.alloc (.cells #[.int .i64 o1, .int .i64 o2, .int .i64 o3] 31) = w1 at HE1 HO2 ⊢
  clear hw1
  refine wp_typed (R := Ext) (w0 := w1) [[], [0], [0, 1], [0, 1, 2], [], [0, 1, 2, 3, 4], [], [0, 1, 2, 3, 4, 5, 6], [0, 1, 2, 3, 4, 5, 6, 7]] [11, 12, 13, 14, 15, 16, 17, 18] Ext.refl (fun _ _ _ => Ext.trans) (Ext.drew _) (by kernel_rfl) ?_
  apply Build.det 11 Ext.refl (by rfl) (by rfl) rfl
  case h =>   -- 0: t11 := Op.move (tmp 0)
    intro ax wx hE hR hF
    have e0 : ax.eval (.tmp 0) = .pointer (some ⟨pb, 0, none⟩) := hE.eval 0 (by rfl) rfl
    simp [go_sem, BigFrame.eval_const, BigFrame.eval_global, BigFrame.eval_func, ↓IntWalk.iteOmega, ev e0]
    with_reducible rfl
  apply Build.det 12 Ext.refl (by rfl) (by rfl) rfl
  case h =>   -- 1: t12 := Op.nilCheck (tmp 11)
    intro ax wx hE hR hF
    have e11 : ax.eval (.tmp 11) = _ := hF 0 (det 11 _) (by decide) (.head _)
    simp [go_sem, BigFrame.eval_const, BigFrame.eval_global, BigFrame.eval_func, ↓IntWalk.iteOmega, ev e11]
    with_reducible rfl
  apply Build.det 13 Ext.refl (by rfl) (by rfl) rfl
  case h =>   -- 2: t13 := Op.fieldAddr 114 (tmp 12) 0
    intro ax wx hE hR hF
    have e12 : ax.eval (.tmp 12) = _ := hF 1 (det 12 _) (by decide) (.head _)
    simp [go_sem, BigFrame.eval_const, BigFrame.eval_global, BigFrame.eval_func, ↓IntWalk.iteOmega, ev e12]
    with_reducible rfl
  apply Build.det 14 Ext.refl (by rfl) (by rfl) rfl
  case h =>   -- 3: t14 := Op.load 112 (tmp 13)
    intro ax wx hE hR hF
    have e13 : ax.eval (.tmp 13) = _ := hF 2 (det 13 _) (by decide) (.head _)
    obtain ⟨q0, l1⟩ := HLK.out wx (HE1.out.1.trans hR); have hB := HE1.out.2.ext hR; have a0 := hB.cell 0; have a1 := hB.cell 1; have a2 := hB.cell 2; simp at a0 a1 a2
    simp [go_sem, BigFrame.eval_const, BigFrame.eval_global, BigFrame.eval_func, ↓IntWalk.iteOmega, ev e13, q0, a0, a1, a2]
    with_reducible rfl
  apply Build.det 15 Ext.refl (by rfl) (by rfl) rfl
  case h =>   -- 4: t15 := Op.move (tmp 1)
    intro ax wx hE hR hF
    have e1 : ax.eval (.tmp 1) = .int .i64 c := hE.eval 1 (by rfl) rfl
    simp [go_sem, BigFrame.eval_const, BigFrame.eval_global, BigFrame.eval_func, ↓IntWalk.iteOmega, ev e1]
    with_reducible rfl
  apply Build.det 16 Ext.refl (by rfl) (by rfl) rfl
  case h =>   -- 5: t16 := Op.lookup 112 (tmp 14) (tmp 15) false
    intro ax wx hE hR hF
    have e14 : ax.eval (.tmp 14) = _ := hF 3 (det 14 _) (by decide) (.tail _ (.head _))
    have e15 : ax.eval (.tmp 15) = _ := hF 4 (det 15 _) (by decide) (.head _)
    obtain ⟨q0, l1⟩ := HLK.out wx (HE1.out.1.trans hR)
    simp [go_sem, BigFrame.eval_const, BigFrame.eval_global, BigFrame.eval_func, ↓IntWalk.iteOmega, ev e14, ev e15, l1]
    with_reducible rfl
  apply Build.det 17 Ext.refl (by rfl) (by rfl) rfl
  case h =>   -- 6: t17 := Op.load 31 (tmp 5)
    intro ax wx hE hR hF
    have e5 : ax.eval (.tmp 5) = .pointer (some ⟨g0, 0, none⟩) := hE.eval 5 (by rfl) rfl
    obtain ⟨q0, l1⟩ := HLK.out wx (HE1.out.1.trans hR); have hB := HE1.out.2.ext hR; have a0 := hB.cell 0; have a1 := hB.cell 1; have a2 := hB.cell 2; simp at a0 a1 a2
    simp [go_sem, BigFrame.eval_const, BigFrame.eval_global, BigFrame.eval_func, ↓IntWalk.iteOmega, ev e5, q0, a0, a1, a2]
    with_reducible rfl
  apply Build.call 18 Ext.refl (by rfl) (by rfl) rfl
  case h =>
    intro ax wx hE hR hF
    have e16 : ax.eval (.tmp 16) = _ := hF 5 (det 16 _) (by decide) (.tail _ (.head _))
    have e17 : ax.eval (.tmp 17) = _ := hF 6 (det 17 _) (by decide) (.head _)
    simp [go_sem, BigFrame.eval_const, BigFrame.eval_global, BigFrame.eval_func, ↓IntWalk.iteOmega, ev e16, ev e17]
    with_reducible exact ⟨rfl, rfl⟩
  case hc => intro wx hR; with_reducible exact HBS.out wx (HE1.out.1.trans hR)
  apply Build.stop
  refine ⟨by kernel_rfl, .inr ⟨by kernel_rfl, _, rfl, rfl, ?_⟩⟩
  intro ax w2 hE R2 hF
  have e11 : ax.eval (.tmp 11) = _ := hF 0 (det 11 _) (.tail _ (.tail _ (.tail _ (.tail _ (.tail _ (.tail _ (.tail _ (.head _))))))))
  have e12 : ax.eval (.tmp 12) = _ := hF 1 (det 12 _) (.tail _ (.tail _ (.tail _ (.tail _ (.tail _ (.tail _ (.head _)))))))
  have e13 : ax.eval (.tmp 13) = _ := hF 2 (det 13 _) (.tail _ (.tail _ (.tail _ (.tail _ (.tail _ (.head _))))))
  have e14 : ax.eval (.tmp 14) = _ := hF 3 (det 14 _) (.tail _ (.tail _ (.tail _ (.tail _ (.head _)))))
  have e15 : ax.eval (.tmp 15) = _ := hF 4 (det 15 _) (.tail _ (.tail _ (.tail _ (.head _))))
  have e16 : ax.eval (.tmp 16) = _ := hF 5 (det 16 _) (.tail _ (.tail _ (.head _)))
  have e17 : ax.eval (.tmp 17) = _ := hF 6 (det 17 _) (.tail _ (.head _))
  have e18 : ax.eval (.tmp 18) = _ := hF 7 (det 18 _) (.head _)
  rw [AllEq.frame (D := [11, 12, 13, 14, 15, 16, 17, 18]) (AllEq.cons e11 (AllEq.cons e12 (AllEq.cons e13 (AllEq.cons e14 (AllEq.cons e15 (AllEq.cons e16 (AllEq.cons e17 (AllEq.cons e18 (AllEq.nil))))))))) hE rfl]
  clear hF hE e11 e12 e13 e14 e15 e16 e17 e18
  simp only [List.foldl_cons, List.foldl_nil, Act.put, List.setIfInBounds_toArray, List.set_cons_succ, List.set_cons_zero]
  have HE2 := Lib.hid (And.intro (HE1.out.1.trans R2) (HE1.out.2.ext R2))
  have HO2 := Lib.hid (HO2.out.ext R2)
  clear R2 HE1 HBS
  have hrr := HR.out
  clear HR
  rcases hrr with ⟨hno, rfl⟩ | ⟨n, rfl, hnl, hin, her⟩
  · have HNOT := Lib.hid hno
    clear hno
    go_wp2_with fail
    go_ret2
    exact ⟨fun _ => ⟨rfl, HO.out.ext HE2.out.1⟩, fun h => absurd h HNOT.out⟩
  · rw [HLEN.out] at hnl
    have hkey := HKEY.out (fun e => by rw [e] at hin; cases hin)
    have HIN := Lib.hid (And.intro hin her)
    clear hin her HKEY
    have hcond : decide ((n : Int) < 0) = false := decide_eq_false (by omega)
    go_upto_region 6 with fail
    obtain ⟨F1', O3⟩ := (HO2.out.tail.front [_] rfl).takeAny HS.out.1 c
    obtain ⟨G, hG⟩ : ∃ G : List Thing, tCh nb F1' m (setL N c []) :: tBlk pb 114 #[.map (some nb), .map (some wb)] :: tCh wb F2 m' W :: R = G := ⟨_, rfl⟩
    have HO4 : Hid (OwnT H A (tRow 31 3 ((m c).getD (.slice none 0 0)) (N c).length ((N c).flatMap ownC) :: G) w2) := Lib.hid (hG ▸ O3)
    have HG := Lib.hid hG
    clear O3 hG
    have HCS := Lib.hid (flat_one (N c))
    obtain ⟨XS, hXS⟩ : ∃ XS, (N c).flatMap ownC = XS := ⟨_, rfl⟩
    rw [hXS] at HO4 HCS
    rw [HV.out, HLEN.out] at HO4
    have HX := Lib.hid hXS
    clear hXS
    have HCE := Lib.hid (show ∀ wx, OwnT H A G wx → wx.cell? ⟨pb, 0, none⟩ = some (.map (some nb)) ∧ (Instr.lookup 112 (.map (some nb)) (.int .i64 c) false).run Try.prog wx = .ok (.slice B len cap) wx from fun wx h => by
      rw [← HG.out] at h
      refine ⟨h.b1.cell 0, ?_⟩
      have h1 : ChS wx nb F1' m (setL N c []) := h.all.1
      have h2 := h1.look hwc
      rw [HV.out, HLEN.out] at h2
      exact h2)
    have hwr1 : IntKind.i64.wrap ((n : Int) + 1) = (n : Int) + 1 := IntWalk.i64_in _ (by omega)
    have HI0 := Lib.hid (show RemI H A (.slice B len cap) len XS (XS.take (n * 3) ++ XS.drop ((n + 1) * 3)) G false w2.drew from HO4.out.drew)
    refine wp_phasedL (fun l w w' => if l 14 = true then Ext w w' else True) (fun l w => RemI H A (.slice B len cap) len XS (XS.take (n * 3) ++ XS.drop ((n + 1) * 3)) G (l 14) w) [[], [0], [0, 1], [0, 1, 2], [], [], [5], [5, 6], [5, 6, 7], [], [5, 6, 7, 8, 9], [], [], [12], [5, 6, 7, 8, 9, 10, 11, 12, 13], [0, 1, 2, 3, 4, 5, 6, 7, 8, 9, 10, 11, 12, 13, 14]] [21, 22, 23, 24, 25, 26, 27, 28, 29, 30, 31, 32, 33, 34, 35] (fun l w => by split; exact Ext.refl _; exact True.intro) (HI0.out) (by kernel_rfl) ?_
    apply BuildL.det 21 (fun l w => by split; exact Ext.refl _; exact True.intro) (fun l w h => h) (by rfl) (by rfl) rfl
    case h =>   -- 0: t21 := Op.move (tmp 0)
      intro lx ax wx hE hR hF
      have e0 : ax.eval (.tmp 0) = .pointer (some ⟨pb, 0, none⟩) := hE.eval 0 (by rfl) rfl
      simp [go_sem, BigFrame.eval_const, BigFrame.eval_global, BigFrame.eval_func, ↓IntWalk.iteOmega, ev e0]
      with_reducible rfl
    apply BuildL.det 22 (fun l w => by split; exact Ext.refl _; exact True.intro) (fun l w h => h) (by rfl) (by rfl) rfl
    case h =>   -- 1: t22 := Op.nilCheck (tmp 21)
      intro lx ax wx hE hR hF
      have e21 : ax.eval (.tmp 21) = _ := hF 0 (detL 0 21 _) (by decide) (.head _)
      simp [go_sem, BigFrame.eval_const, BigFrame.eval_global, BigFrame.eval_func, ↓IntWalk.iteOmega, ev e21]
      with_reducible rfl
    apply BuildL.det 23 (fun l w => by split; exact Ext.refl _; exact True.intro) (fun l w h => h) (by rfl) (by rfl) rfl
    case h =>   -- 2: t23 := Op.fieldAddr 114 (tmp 22) 0
      intro lx ax wx hE hR hF
      have e22 : ax.eval (.tmp 22) = _ := hF 1 (detL 1 22 _) (by decide) (.head _)
      simp [go_sem, BigFrame.eval_const, BigFrame.eval_global, BigFrame.eval_func, ↓IntWalk.iteOmega, ev e22]
      with_reducible rfl
    apply BuildL.det 24 (fun l w => by split; exact Ext.refl _; exact True.intro) (fun l w h => h) (by rfl) (by rfl) rfl
    case h =>   -- 3: t24 := Op.load 112 (tmp 23)
      intro lx ax wx hE hR hF
      have e23 : ax.eval (.tmp 23) = _ := hF 2 (detL 2 23 _) (by decide) (.head _)
      obtain ⟨q0, l1⟩ := HCE.out wx (RemI.own hR)
      simp [go_sem, BigFrame.eval_const, BigFrame.eval_global, BigFrame.eval_func, ↓IntWalk.iteOmega, ev e23, q0]
      with_reducible rfl
    apply BuildL.det 25 (fun l w => by split; exact Ext.refl _; exact True.intro) (fun l w h => h) (by rfl) (by rfl) rfl
    case h =>   -- 4: t25 := Op.move (tmp 1)
      intro lx ax wx hE hR hF
      have e1 : ax.eval (.tmp 1) = .int .i64 c := hE.eval 1 (by rfl) rfl
      simp [go_sem, BigFrame.eval_const, BigFrame.eval_global, BigFrame.eval_func, ↓IntWalk.iteOmega, ev e1]
      with_reducible rfl
    apply BuildL.det 26 (fun l w => by split; exact Ext.refl _; exact True.intro) (fun l w h => h) (by rfl) (by rfl) rfl
    case h =>   -- 5: t26 := Op.move (tmp 0)
      intro lx ax wx hE hR hF
      have e0 : ax.eval (.tmp 0) = .pointer (some ⟨pb, 0, none⟩) := hE.eval 0 (by rfl) rfl
      simp [go_sem, BigFrame.eval_const, BigFrame.eval_global, BigFrame.eval_func, ↓IntWalk.iteOmega, ev e0]
      with_reducible rfl
    apply BuildL.det 27 (fun l w => by split; exact Ext.refl _; exact True.intro) (fun l w h => h) (by rfl) (by rfl) rfl
    case h =>   -- 6: t27 := Op.nilCheck (tmp 26)
      intro lx ax wx hE hR hF
      have e26 : ax.eval (.tmp 26) = _ := hF 5 (detL 5 26 _) (by decide) (.head _)
      simp [go_sem, BigFrame.eval_const, BigFrame.eval_global, BigFrame.eval_func, ↓IntWalk.iteOmega, ev e26]
      with_reducible rfl
    apply BuildL.det 28 (fun l w => by split; exact Ext.refl _; exact True.intro) (fun l w h => h) (by rfl) (by rfl) rfl
    case h =>   -- 7: t28 := Op.fieldAddr 114 (tmp 27) 0
      intro lx ax wx hE hR hF
      have e27 : ax.eval (.tmp 27) = _ := hF 6 (detL 6 27 _) (by decide) (.head _)
      simp [go_sem, BigFrame.eval_const, BigFrame.eval_global, BigFrame.eval_func, ↓IntWalk.iteOmega, ev e27]
      with_reducible rfl
    apply BuildL.det 29 (fun l w => by split; exact Ext.refl _; exact True.intro) (fun l w h => h) (by rfl) (by rfl) rfl
    case h =>   -- 8: t29 := Op.load 112 (tmp 28)
      intro lx ax wx hE hR hF
      have e28 : ax.eval (.tmp 28) = _ := hF 7 (detL 7 28 _) (by decide) (.head _)
      obtain ⟨q0, l1⟩ := HCE.out wx (RemI.own hR)
      simp [go_sem, BigFrame.eval_const, BigFrame.eval_global, BigFrame.eval_func, ↓IntWalk.iteOmega, ev e28, q0]
      with_reducible rfl
    apply BuildL.det 30 (fun l w => by split; exact Ext.refl _; exact True.intro) (fun l w h => h) (by rfl) (by rfl) rfl
    case h =>   -- 9: t30 := Op.move (tmp 1)
      intro lx ax wx hE hR hF
      have e1 : ax.eval (.tmp 1) = .int .i64 c := hE.eval 1 (by rfl) rfl
      simp [go_sem, BigFrame.eval_const, BigFrame.eval_global, BigFrame.eval_func, ↓IntWalk.iteOmega, ev e1]
      with_reducible rfl
    apply BuildL.det 31 (fun l w => by split; exact Ext.refl _; exact True.intro) (fun l w h => h) (by rfl) (by rfl) rfl
    case h =>   -- 10: t31 := Op.lookup 112 (tmp 29) (tmp 30) false
      intro lx ax wx hE hR hF
      have e29 : ax.eval (.tmp 29) = _ := hF 8 (detL 8 29 _) (by decide) (.tail _ (.head _))
      have e30 : ax.eval (.tmp 30) = _ := hF 9 (detL 9 30 _) (by decide) (.head _)
      obtain ⟨q0, l1⟩ := HCE.out wx (RemI.own hR)
      simp [go_sem, BigFrame.eval_const, BigFrame.eval_global, BigFrame.eval_func, ↓IntWalk.iteOmega, ev e29, ev e30, l1]
      with_reducible rfl
    apply BuildL.det 32 (fun l w => by split; exact Ext.refl _; exact True.intro) (fun l w h => h) (by rfl) (by rfl) rfl
    case h =>   -- 11: t32 := Op.move (tmp 8)
      intro lx ax wx hE hR hF
      have e8 : ax.eval (.tmp 8) = .int .i64 n := hE.eval 8 (by rfl) rfl
      simp [go_sem, BigFrame.eval_const, BigFrame.eval_global, BigFrame.eval_func, ↓IntWalk.iteOmega, ev e8]
      with_reducible rfl
    apply BuildL.det 33 (fun l w => by split; exact Ext.refl _; exact True.intro) (fun l w h => h) (by rfl) (by rfl) rfl
    case h =>   -- 12: t33 := Op.move (tmp 8)
      intro lx ax wx hE hR hF
      have e8 : ax.eval (.tmp 8) = .int .i64 n := hE.eval 8 (by rfl) rfl
      simp [go_sem, BigFrame.eval_const, BigFrame.eval_global, BigFrame.eval_func, ↓IntWalk.iteOmega, ev e8]
      with_reducible rfl
    apply BuildL.det 34 (fun l w => by split; exact Ext.refl _; exact True.intro) (fun l w h => h) (by rfl) (by rfl) rfl
    case h =>   -- 13: t34 := Op.binOp BinOp.add 3 (tmp 33) (const (Value.int IntKind.i64 1)) 3
      intro lx ax wx hE hR hF
      have e33 : ax.eval (.tmp 33) = _ := hF 12 (detL 12 33 _) (by decide) (.head _)
      simp [go_sem, BigFrame.eval_const, BigFrame.eval_global, BigFrame.eval_func, ↓IntWalk.iteOmega, ev e33, hwr1]
      with_reducible rfl
    refine BuildL.callnew 35 (fun v w => OwnT H A (tRow 31 3 v (len - 1) (XS.take (n * 3) ++ XS.drop ((n + 1) * 3)) :: G) w) (fun l v w w' hl hR h => by rw [if_pos hl] at hR; exact h.ext hR) (by rfl) (by rfl) rfl ?_ ?_
    · intro lx ax wx hE hR hl hA hF
      have e31 : ax.eval (.tmp 31) = _ := hF 10 (detL 10 31 _) (by decide) (.tail _ (.tail _ (.tail _ (.head _))))
      have e32 : ax.eval (.tmp 32) = _ := hF 11 (detL 11 32 _) (by decide) (.tail _ (.tail _ (.head _)))
      have e34 : ax.eval (.tmp 34) = _ := hF 13 (detL 13 34 _) (by decide) (.head _)
      exact remI_delete hR hl hnl HCS.out (by simp [go_sem, ev e31, ev e32, ev e34])
    apply BuildL.stop
    refine ⟨by kernel_rfl, ?_⟩
    intro lx ax w3 hE R3 hL hF
    have e21 : ax.eval (.tmp 21) = _ := hF 0 (detL 0 21 _) (.tail _ (.tail _ (.tail _ (.tail _ (.tail _ (.tail _ (.tail _ (.tail _ (.tail _ (.tail _ (.tail _ (.tail _ (.tail _ (.tail _ (.head _)))))))))))))))
    have e22 : ax.eval (.tmp 22) = _ := hF 1 (detL 1 22 _) (.tail _ (.tail _ (.tail _ (.tail _ (.tail _ (.tail _ (.tail _ (.tail _ (.tail _ (.tail _ (.tail _ (.tail _ (.tail _ (.head _))))))))))))))
    have e23 : ax.eval (.tmp 23) = _ := hF 2 (detL 2 23 _) (.tail _ (.tail _ (.tail _ (.tail _ (.tail _ (.tail _ (.tail _ (.tail _ (.tail _ (.tail _ (.tail _ (.tail _ (.head _)))))))))))))
    have e24 : ax.eval (.tmp 24) = _ := hF 3 (detL 3 24 _) (.tail _ (.tail _ (.tail _ (.tail _ (.tail _ (.tail _ (.tail _ (.tail _ (.tail _ (.tail _ (.tail _ (.head _))))))))))))
    have e25 : ax.eval (.tmp 25) = _ := hF 4 (detL 4 25 _) (.tail _ (.tail _ (.tail _ (.tail _ (.tail _ (.tail _ (.tail _ (.tail _ (.tail _ (.tail _ (.head _)))))))))))
    have e26 : ax.eval (.tmp 26) = _ := hF 5 (detL 5 26 _) (.tail _ (.tail _ (.tail _ (.tail _ (.tail _ (.tail _ (.tail _ (.tail _ (.tail _ (.head _))))))))))
    have e27 : ax.eval (.tmp 27) = _ := hF 6 (detL 6 27 _) (.tail _ (.tail _ (.tail _ (.tail _ (.tail _ (.tail _ (.tail _ (.tail _ (.head _)))))))))
    have e28 : ax.eval (.tmp 28) = _ := hF 7 (detL 7 28 _) (.tail _ (.tail _ (.tail _ (.tail _ (.tail _ (.tail _ (.tail _ (.head _))))))))
    have e29 : ax.eval (.tmp 29) = _ := hF 8 (detL 8 29 _) (.tail _ (.tail _ (.tail _ (.tail _ (.tail _ (.tail _ (.head _)))))))
    have e30 : ax.eval (.tmp 30) = _ := hF 9 (detL 9 30 _) (.tail _ (.tail _ (.tail _ (.tail _ (.tail _ (.head _))))))
    have e31 : ax.eval (.tmp 31) = _ := hF 10 (detL 10 31 _) (.tail _ (.tail _ (.tail _ (.tail _ (.head _)))))
    have e32 : ax.eval (.tmp 32) = _ := hF 11 (detL 11 32 _) (.tail _ (.tail _ (.tail _ (.head _))))
    have e33 : ax.eval (.tmp 33) = _ := hF 12 (detL 12 33 _) (.tail _ (.tail _ (.head _)))
    have e34 : ax.eval (.tmp 34) = _ := hF 13 (detL 13 34 _) (.tail _ (.head _))
    have f35 := hF 14 _ (.head _)
    obtain ⟨v', e35, O5⟩ : ∃ v', ax.eval (.tmp 35) = v' ∧ OwnT H A (tRow 31 3 v' (len - 1) (XS.take (n * 3) ++ XS.drop ((n + 1) * 3)) :: G) w3 := ⟨_, rfl, f35⟩
    rw [AllEq.frame (D := [21, 22, 23, 24, 25, 26, 27, 28, 29, 30, 31, 32, 33, 34, 35]) (AllEq.cons e21 (AllEq.cons e22 (AllEq.cons e23 (AllEq.cons e24 (AllEq.cons e25 (AllEq.cons e26 (AllEq.cons e27 (AllEq.cons e28 (AllEq.cons e29 (AllEq.cons e30 (AllEq.cons e31 (AllEq.cons e32 (AllEq.cons e33 (AllEq.cons e34 (AllEq.cons e35 (AllEq.nil)))))))))))))))) hE rfl]
    clear hF hE e21 e22 e23 e24 e25 e26 e27 e28 e29 e30 e31 e32 e33 e34 e35
    simp only [List.foldl_cons, List.foldl_nil, Act.put, List.setIfInBounds_toArray, List.set_cons_succ, List.set_cons_zero]
    simp only [List.length_cons, List.length_nil, Nat.zero_add, Nat.reduceAdd, List.drop_succ_cons, List.drop_zero, List.drop_nil, tailOps]
    have HW3 := Lib.hid hwc
    rw [← HG.out] at O5
    refine wp_vm_store (.tmp 24) (.tmp 25) (.tmp 35) 112 42 rfl Try.underlying112 (by decide) rfl O5.tail.ch.vm (c := c) rfl HW3.out (u := v') rfl ?_
    intro w4 h4 hC4
    have hXE : XS.take (n * 3) ++ XS.drop ((n + 1) * 3) = ((N c).erase (o1, o2, o3)).flatMap ownC := by
      rw [HIN.out.2, ← HX.out, List.flatMap_append, flat_take, flat_drop]
    rw [hXE] at O5
    have O6 := O5.keyed hkey.1 hkey.2 h4 hC4
    obtain ⟨B', cap', hv', hcap', hmax', hl', -⟩ := row_Row O6.r0
    subst hv'
    have hlk : (Instr.lookup 112 (.map (some nb)) (.int .i64 c) false).run Try.prog w4 = .ok (.slice B' (len - 1) cap') w4 := by
      have := O6.tail.ch.look hwc
      rwa [show putV m c (.slice B' (len - 1) cap') c = some (.slice B' (len - 1) cap') from if_pos rfl] at this
    have hcell : w4.cell? ⟨pb, 0, none⟩ = some (.map (some nb)) := O6.tail.tail.b0.cell 0
    have HO6 := Lib.hid O6
    have HL := Lib.hid hl'
    obtain ⟨q, hq⟩ : ∃ q, len - 1 = q := ⟨_, rfl⟩
    rw [hq] at hlk HO6 hcap' HL
    have hqb : q ≤ 1000000000 := by omega
    clear hq O5 O6 h4 hC4 hl' hXE HCE HI0 HO4 HLK
    have HKEY := Lib.hid hkey
    by_cases h0 : q = 0
    · have hcond2 : decide ((0 : Int) < (q : Int)) = false := decide_eq_false (by omega)
      subst h0
      go_wp2_with ((with_reducible refine wpList_vm_delete (o := ⟨none, _, _, _, _, _⟩) rfl (.tmp 47) (.tmp 48) 112 42 rfl Try.underlying112 (b := nb) rfl HO6.out.tail.ch.vm (c := c) rfl hwc ?del))
      intro w5 h5 hC5
      have HEND := Lib.hid (HO6.out.gone HS.out.1 HS.out.2.1 HS.out.2.2.1 HS.out.2.2.2 h5 hC5)
      clear h5 hC5
      go_wp2_with fail
      go_ret2
      have hen : (N c).erase (o1, o2, o3) = [] := List.eq_nil_of_length_eq_zero HL.out
      exact ⟨fun h => absurd HIN.out.1 h, fun _ => ⟨by rw [hen]; rfl, by rw [hen]; exact HEND.out⟩⟩
    · have hcond2 : decide ((0 : Int) < (q : Int)) = true := decide_eq_true (by omega)
      go_wp2_with fail
      go_ret2
      have hz : decide (((N c).erase (o1, o2, o3)).length = 0) = false := decide_eq_false (by rw [HL.out]; exact h0)
      obtain ⟨F', hF⟩ := HO6.out.back (fun e => h0 (by rw [← HL.out, e]; rfl)) (erase_sorted _ (HS.out.2.2.1 c)) HS.out.1 HS.out.2.1 HS.out.2.2.1 HS.out.2.2.2 HKEY.out.1 HKEY.out.2
      exact ⟨fun h => absurd HIN.out.1 h, fun _ => ⟨by rw [hz]; rfl, F', hF⟩⟩
end Go.Proofs.Ytdpohbaeopidmaa

/- owners: copied, Commit. -/
namespace Go.Proofs.Ytdpohbaeopidmaa
set_option linter.unusedVariables false
set_option linter.unusedSimpArgs false
open Go.RowKit Go.Maps

/-- A block that another thing speaks of. -/
def tHold (r : Nat) : Thing where
  foot := [r]
  holds := fun w => r < w.heap.size
  keep := fun w w' hs _ h => Nat.lt_of_lt_of_le h hs
  lt := fun w h i hi => by simp at hi; subst hi; exact h
def goneL (N : Int → List OwD) (left : Int → Bool) : Int → List OwD := fun i => if left i then [] else N i
theorem goneL_start {N : Int → List OwD} {left : Int → Bool} (h : ∀ i, N i ≠ [] → left i = true) : goneL N left = fun _ => [] := by
  funext i
  unfold goneL
  split
  · rfl
  · rename_i hl
    by_cases e : N i = []
    · exact e
    · exact absurd (h i e) hl
theorem goneL_end {N : Int → List OwD} {left : Int → Bool} (h : ∀ i, N i ≠ [] → left i = false) : goneL N left = N := by
  funext i
  unfold goneL
  split
  · rename_i hl
    by_cases e : N i = []
    · exact e.symm
    · rw [h i e] at hl; cases hl
  · rfl
theorem goneL_step {N : Int → List OwD} {left : Int → Bool} {x : Int} : setL (goneL N left) x (N x) = goneL N (fun i => left i && !decide (i = x)) := by
  funext i
  unfold setL goneL
  by_cases e : i = x
  · subst e; simp
  · simp [e]
section
variable {H : Nat} {A w : World} {R : List Thing} {nb : Nat} {F : List Nat} {m : Int → Option Value} {L : Int → List OwD} {c : Int} {v : Value} {n : Nat} {X : List OwD}
/-- A row goes in under a new key. -/
theorem OwnT.addRow (h : OwnT H A (tRow 31 3 v n (X.flatMap ownC) :: tCh nb F m L :: R) w) (ok : OkM m L) (hL : L c = []) (hX : X ≠ []) (hc1 : 1 ≤ c) (hc2 : c ≤ 1023) {w' : World} (hv : VM w' nb 1024 (putV m c v)) (hC : Chg [nb] w w') :
    (∃ F', OwnT H A (tCh nb F' (putV m c v) (setL L c X) :: R) w') ∧ OkM (putV m c v) (setL L c X) := by
  have hwc : wfV c := wfV_of (by omega) (by omega)
  have hp : ∀ i, i ≠ c → putV m c v i = m i := fun i hi => if_neg hi
  have hpc : putV m c v c = some v := if_pos rfl
  have h1 := h.perm (.swap _ _ _)
  have hS := h1.ch
  have h2 := h1.chMap hv hC (fun i hi hj => by
    by_cases e : i = c
    · subst e; exact ⟨hc1, hc2⟩
    · rw [hp i e] at hj; exact hS.keys i hi hj) (fun i hi => hp i (fun e => by subst e; exact hi hL))
  refine ⟨(h2.perm (.swap _ _ _)).putRow c hL hX hpc hwc, fun i hi => ?_⟩
  by_cases e : i = c
  · subst e; rw [setL_same] at hi; exact absurd hi hX
  · rw [setL_other e] at hi; rw [hp i e]; exact ok i hi
end
set_option maxRecDepth 100000 in
set_option maxHeartbeats 4000000 in
theorem copied_any (nb : Nat) (F : List Nat) (m : Int → Option Value) (N : Int → List OwD) (w : World) (hS : ChS w nb F m N) (ok : OkM m N) (hn : ∀ c, (N c).length ≤ 1000000000) :
    Calls Try.prog 72 #[.map (some nb)] w fun e w' => ∃ b' F' m', e = .returned (.map (some b')) ∧ OwnT w.heap.size w [tCh b' F' m' N] w' ∧ OkM m' N := by
  have HS := Lib.hid hS
  have HOK := Lib.hid ok
  have HN := Lib.hid hn
  have hmm := @run_makeMap Try.prog
  have HO1 := Lib.hid ((OwnT.start w).cons (Ext.alloc w (.map #[] 0)) (tCh w.heap.size [] (fun _ => none) (fun _ => [])) (show ChS _ _ _ _ _ from ⟨(VM.made w).mono (by omega), (fun c _ h => by cases h), by simp, (fun i hi => by cases hi), (fun c h => absurd rfl h), fun _ => 0, (fun c h => absurd rfl h), fun c _ h => absurd rfl h⟩) (fun i hi => by simp [tCh] at hi; omega))
  have HV0 := Lib.hid ((hS.ext (Ext.alloc w (.map #[] 0))).vm)
  have hrows : ∀ i, N i ≠ [] → (m i).isSome = true := fun i hi => by
    obtain ⟨β, h1, _⟩ := hS.rows
    obtain ⟨v, e, _⟩ := h1 i hi
    rw [e]; rfl
  have HR := Lib.hid hrows
  clear hS ok hn hrows
  go_enter Try.func72, Try.ntmps72
  go_upto_region 2 with fail
  obtain ⟨b, hb⟩ : ∃ b, w.heap.size = b := ⟨_, rfl⟩
  generalize hw1 : w.alloc (.map #[] 0) = w1 at HO1 HV0 ⊢
  have HW1 := Lib.hid (show Ext w w1 from hw1 ▸ Ext.alloc w _)
  clear hw1
  go_wp2_with ((with_reducible refine wpList_vr_start (o := ⟨some 8, _, _, _, _, _⟩) rfl (.tmp 7) 112 42 rfl Try.underlying112 rfl HV0.out ?_); intro w2 cnt2 hr2 hE2 hs2)
  obtain ⟨r, hr⟩ : ∃ r, w1.heap.size = r := ⟨_, rfl⟩
  rw [hr] at hr2 hs2 ⊢
  go_frame
  have hstart : ∃ left cnt F' mk, VR w2 nb r 1023 m left cnt ∧ OwnT w.heap.size w [tHold r, tCh w.heap.size F' mk (goneL N left)] w2 ∧ OkM mk (goneL N left) :=
    ⟨_, _, _, _, hr2, by rw [goneL_start HR.out]; exact HO1.out.cons hE2 (tHold r) (by show r < _; omega) (fun i hi => by simp [tHold] at hi; omega), by rw [goneL_start HR.out]; exact fun _ _ => rfl⟩
  rw [hb] at hstart ⊢
  have HRB := Lib.hid (show b ≠ r ∧ b ≠ nb from by
    have h1 : w.heap.size < w1.heap.size := HO1.out.lt (T := tCh w.heap.size [] (fun _ => none) (fun _ => [])) (by simp) (by simp [tCh])
    have h2 := HS.out.vm.lt
    omega)
  clear hr2 hs2 hr HO1 hE2
  go_loopw [4, 5] (fun _ _ wr => ∃ left cnt F' mk, VR wr nb r 1023 m left cnt ∧ OwnT b w [tHold r, tCh b F' mk (goneL N left)] wr ∧ OkM mk (goneL N left)) (fun _ _ wr => wr.rangeLeft nb r)
  case atStart => exact hstart
  case round =>
    obtain ⟨left, cnt, F', mk, hrg, hOw, hok⟩ := hrel
    have HOW := Lib.hid (And.intro hOw hok)
    clear hstart hOw hok
    go_wp2_with ((with_reducible refine wpList_vr_next (o := ⟨some 9, _, _, _, _, _⟩) rfl (.tmp 8) rfl rfl hrg ?_ ?_))
    · intro hl
      clear hrg
      go_wp2_with fail
      go_ret
      have h1 := HOW.out.1.tail
      have h2 := HOW.out.2
      have he : goneL N left = N := goneL_end (fun i hi => hl i (by have := HS.out.range i hi; exact wfV_of (by omega) (by omega)))
      rw [he] at h1 h2
      exact ⟨b, F', mk, rfl, by rw [hb]; exact h1, h2⟩
    · intro x c w3 cnt3 hwx hlx hmx hrg3 hlt3 hC3 hs3 hen
      have O3 := HOW.out.1.call hC3 (fun i hi => by simpa [tHold] using hi) (tHold r) (show r < w3.heap.size from hrg3.lt) (fun i hi => .inl hi)
      have hE3 : Ext w w3 := by have := O3.below; rw [← hb] at this; exact this
      have hNx : N x ≠ [] := fun e => by have := HOK.out x e; rw [hmx] at this; cases this
      have hrow := (HS.out.ext hE3).row HOK.out x
      rw [hmx] at hrow
      have HCL := Lib.hid (clone_raw c (N x).length _ w3 hrow (by have := HN.out x; omega) (flat_one _))
      have HX := Lib.hid (And.intro hNx (And.intro (HS.out.range x hNx) hlx))
      have HO3 := Lib.hid O3
      have HLT := Lib.hid (show cnt3 < wr.rangeLeft nb r by rw [hrg.left_eq]; exact hlt3)
      have HRG := Lib.hid hrg3
      have HW := Lib.hid hwx
      clear O3 hE3 hNx hrow hlx hmx hrg hrg3 hlt3 hC3 hs3 hwx
      go_wp2_with fail
      refine HCL.out.mono ?_
      rintro e w4 ⟨v', rfl, h4, hE4⟩
      have O4 := HO3.out.newRow hE4 h4
      have HR4 := Lib.hid (HRG.out.ext hE4)
      have HO4 := Lib.hid (O4.perm (.trans (.swap _ _ _) (.cons _ (.swap _ _ _))))
      have HO4 := Lib.hid (O4.perm (.cons _ (.swap _ _ _)))
      clear h4 hE4 O4
      go_wp2_with ((with_reducible refine wpList_vm_store (o := ⟨none, _, _, _, _, _⟩) rfl (.tmp 14) (.tmp 15) (.tmp 17) 112 42 rfl Try.underlying112 (b := b) (m := mk) (n := 1023) (by decide) rfl HO4.out.tail.ch.vm (c := x) rfl HW.out (u := v') rfl ?_); intro w5 h5 hC5)
      obtain ⟨⟨F'', O5⟩, hok5⟩ := HO4.out.addRow HOW.out.2 (by unfold goneL; rw [HX.out.2.2]; rfl) HX.out.1 HX.out.2.1.1 HX.out.2.1.2 h5 hC5
      rw [goneL_step] at O5 hok5
      have HV5 := Lib.hid (HR4.out.chg hC5 (by simp [HRB.out.2.symm]) (by simp [HRB.out.1.symm]))
      have HO5 := Lib.hid (And.intro (O5.perm (.swap _ _ _)) hok5)
      clear h5 hC5 O5 hok5
      simp only [Act.put]
      go_roundw
      case rel => exact ⟨_, _, _, _, HV5.out, HO5.out.1, HO5.out.2⟩
      case measure => rw [HV5.out.left_eq]; exact HLT.out
theorem commit_nil (w : World) : Calls Try.prog 20 #[.pointer none] w fun e w' => e = .returned (.tuple #[]) ∧ Ext w w' := by
  go_enter Try.func20, Try.ntmps20
  go_wp2
  go_end0
  exact ⟨rfl, by (repeat (first | with_reducible exact Below.refl _ _ | with_reducible assumption | with_reducible apply Below.drew | with_reducible apply below_drewN | (with_reducible refine below_set ?_ ?_; focus ((try simp); (try omega); done)) | (with_reducible refine below_new ?_ ?_; focus ((try simp); (try omega); done))))⟩
set_option maxHeartbeats 1000000 in
theorem commit_any {H : Nat} {A : World} {R : List Thing} (pb : Nat) (F : List Nat) (N W : Int → List OwD) (w : World) (hO : OwnT H A (tOB pb F N W :: R) w) (hn : ∀ c, (N c).length ≤ 1000000000) :
    Calls Try.prog 20 #[.pointer (some ⟨pb, 0, none⟩)] w fun e w' => e = .returned (.tuple #[]) ∧ ∃ F', OwnT H A (tOB pb F' N N :: R) w' := by
  obtain ⟨nb, wb, F1, F2, m, m', hO1, ok1, ok2, hs1, hs2⟩ := hO.openB
  have HO := Lib.hid hO1
  have HS := Lib.hid (And.intro ok1 hs1)
  have HC := Lib.hid (copied_any nb F1 m N w hO1.all.2.1 ok1 hn)
  have q0 : w.cell? ⟨pb, 0, none⟩ = some (.map (some nb)) := hO1.b0.cell 0
  clear hO hO1 ok1 ok2 hs1 hs2 hn
  go_enter Try.func20, Try.ntmps20
  go_wp2_with fail
  refine HC.out.mono ?_
  rintro e w1 ⟨b', F', mk, rfl, h1, hok⟩
  have hE1 : Ext w w1 := h1.below
  have O1 := HO.out.cons hE1 (tCh b' F' mk N) h1.t0 (fun i hi => h1.high _ (by simp) i hi)
  have HO1 := Lib.hid (And.intro (O1.perm (.swap _ _ _)) hok)
  have q1 : w1.cell? ⟨pb, 1, none⟩ = some (.map (some wb)) := HO1.out.1.b0.cell 1
  have q2 : w1.frozen? ⟨pb, 1, none⟩ = false := HO1.out.1.b0.frozen 1
  clear h1 hok hE1 O1 q0
  go_wp2_with fail
  go_end0
  have O2 := HO1.out.1.set 1 (.map (some b'))
  have O3 : OwnT H A (tBlk pb 114 #[.map (some nb), .map (some b')] :: tCh nb F1 m N :: tCh b' F' mk N :: R) _ := (O2.sub (M := tBlk pb 114 #[.map (some nb), .map (some b')] :: tCh b' F' mk N :: tCh nb F1 m N :: R) (.cons_cons _ (.cons_cons _ (.cons_cons _ (.cons _ (.refl _)))))).perm (.cons _ (.swap _ _ _))
  obtain ⟨F3, O4⟩ := O3.closeB HS.out.1 HO1.out.2 HS.out.2 HS.out.2
  exact ⟨rfl, F3, O4⟩
end Go.Proofs.Ytdpohbaeopidmaa
