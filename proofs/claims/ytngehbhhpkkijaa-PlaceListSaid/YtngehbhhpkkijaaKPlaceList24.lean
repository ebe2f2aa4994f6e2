/- The walks of package place (can, key, Pair, Read) and of their reference (Can, Pair, Read). -/
import Derived.Test.YtngehbhhpkkijaaKPlaceList09
import Derived.Test.YtngehbhhpkkijaaKPlaceList23
import Derived.Test.YtngehbhhpkkijaaKPlaceList05
import Derived.Maps.OwnSet
import Derived.DeepKeys4
import Derived.Test.YtngehbhhpkkijaaKPlaceList02
namespace Go.Proofs.Ytngehbhhpkkijaa
attribute [local simp] BigFrame.eval_const BigFrame.eval_global BigFrame.eval_func
set_option linter.unusedVariables false
set_option linter.unusedSimpArgs false
open Go.RowKit

def GoodPl (c t s : Int) : Prop := 1 ≤ c ∧ c ≤ 1023 ∧ (t = 0 ∨ t = 1) ∧ 0 ≤ s ∧ s ≤ 255
/-- Whether a place can be. -/
def placeB (c t s : Int) : Bool := decide (1 ≤ c ∧ c ≤ 1023 ∧ (t = 0 ∨ t = 1) ∧ 0 ≤ s ∧ s ≤ 255)
theorem Z1s {c t s : Int} (h : GoodPl c t s) : placeB c t s = true := decide_eq_true h
theorem placeB_no {c t s : Int} (h : ¬ GoodPl c t s) : placeB c t s = false := decide_eq_false h
abbrev spotV (t s : Int) : Value := .agg #[.int .i64 t, .int .i64 s]
abbrev placeV (c t s : Int) : Value := .agg #[.int .i64 c, .int .i64 t, .int .i64 s]
abbrev pairV (k v : Int) : Value := .agg #[.int .u64 k, .int .u64 v]

set_option maxHeartbeats 1000000 in
theorem can_any (c t s : Int) (w : World) :
    Calls Try.prog 74 #[placeV c t s] w fun e w' => e = .returned (.bool (placeB c t s)) ∧ Ext w w' := by
  go_enter Try.func74, Try.ntmps74
  go_wp2
  all_goals
    go_ret
    refine ⟨ret_bool ?_, by (repeat (first | with_reducible exact Below.refl _ _ | with_reducible assumption | with_reducible apply Below.drew | with_reducible apply Z0e | (with_reducible refine Z0n ?_ ?_; focus ((try simp); (try omega); done)) | (with_reducible refine Z0o ?_ ?_; focus ((try simp); (try omega); done))))⟩
    unfold placeB
    rw [Bool.eq_iff_iff]
    simp
    try omega

set_option maxHeartbeats 1000000 in
theorem Z24 (c t s : Int) (w : World) :
    Calls Try.prog 52 #[.int .i64 c, spotV t s] w fun e w' => e = .returned (.bool (placeB c t s)) ∧ Ext w w' := by
  go_enter Try.func52, Try.ntmps52
  go_wp2
  all_goals
    go_ret
    refine ⟨ret_bool ?_, by (repeat (first | with_reducible exact Below.refl _ _ | with_reducible assumption | with_reducible apply Below.drew | with_reducible apply Z0e | (with_reducible refine Z0n ?_ ?_; focus ((try simp); (try omega); done)) | (with_reducible refine Z0o ?_ ?_; focus ((try simp); (try omega); done))))⟩
    unfold placeB
    rw [Bool.eq_iff_iff]
    simp
    try omega

theorem pkey_any (c : Int) (w : World) (h0 : 0 ≤ c) (h1 : c ≤ 4294967295) :
    Calls Try.prog 73 #[.int .i64 c] w fun e w' => e = .returned (.int .u64 (8589934592 + c)) ∧ w = w' := by
  go_enter Try.func73, Try.ntmps73
  go_wp2
  go_ret
  exact ⟨rfl, rfl⟩

set_option maxHeartbeats 2000000 in
theorem ppair_yes (c t s : Int) (w : World) (h : GoodPl c t s) :
    Calls Try.prog 71 #[placeV c t s] w fun e w' => e = .returned (.tuple #[pairV (8589934592 + c) (t + 256 * s), .int .i64 0]) ∧ Ext w w' := by
  have hb := Z1s h
  have CA := fun W => can_any c t s W
  rw [hb] at CA
  obtain ⟨h0, h1, h2, h3, h4⟩ := h
  have h5 : 0 ≤ t := by omega
  have h6 : t ≤ 1 := by omega
  have wt : IntKind.u64.wrap t = t := IntWalk.u64_in _ (by omega)
  have ws : IntKind.u64.wrap s = s := IntWalk.u64_in _ (by omega)
  have wm : IntKind.u64.wrap (s * 256) = s * 256 := IntWalk.u64_in _ (by omega)
  have HCA := Lib.hid CA
  have HKA := Lib.hid (fun W => (pkey_any c W (by omega) (by omega)).mono (fun e w' h => (⟨h.1, ext_of_same h.2⟩ : _ ∧ Ext W w')))
  have e1 : bits .or .u64 t (s * 256) = t + 256 * s := by rw [or_u64 t (s * 256) 256 8 (by rfl) (by omega) (by omega) (by omega) (by omega) (by omega) (by omega)]; omega
  clear CA hb h2
  go_enter Try.func71, Try.ntmps71
  go_wp2_with fail
  refine (HCA.out _).mono ?_
  rintro e w1 ⟨rfl, hb1⟩
  have hE : Ext w ((w.alloc (.cells #[.int .i64 c, .int .i64 t, .int .i64 s] 110)).alloc (.cells #[.int .u64 0, .int .u64 0] 38)) := by (repeat (first | with_reducible exact Below.refl _ _ | with_reducible assumption | with_reducible apply Below.drew | with_reducible apply Z0e | (with_reducible refine Z0n ?_ ?_; focus ((try simp); (try omega); done)) | (with_reducible refine Z0o ?_ ?_; focus ((try simp); (try omega); done))))
  have B1 := (((Blk.new w 110 #[.int .i64 c, .int .i64 t, .int .i64 s]).alloc (.cells #[.int .u64 0, .int .u64 0] 38)).ext hb1)
  have B2 := ((Z28 (by simp) : Blk ((w.alloc (.cells #[.int .i64 c, .int .i64 t, .int .i64 s] 110)).alloc (.cells #[.int .u64 0, .int .u64 0] 38)) (w.heap.size + 1) 38 #[.int .u64 0, .int .u64 0]).ext hb1)
  have hE := hE.trans (hb1.mono (by simp))
  clear hb1
  go_upto_region 3 with fail
  refine wp_phasedR (Ext) (fun l w => Ext w1 w) [[], [0], [0, 1], [], [3], [3, 4], [3, 4, 5], [], [7], [7, 8], [7, 8, 9], [7, 8, 9, 10], [3, 4, 5, 6, 7, 8, 9, 10, 11], [0, 1, 2, 3, 4, 5, 6, 7, 8, 9, 10, 11, 12], [0, 1, 2, 3, 4, 5, 6, 7, 8, 9, 10, 11, 12, 13], [0, 1, 2, 3, 4, 5, 6, 7, 8, 9, 10, 11, 12, 13, 14]] [8, 9, 10, 11, 12, 13, 14, 15, 16, 17, 18, 19, 20, 21] (Ext.refl) (Ext.drew _) (by kernel_rfl) ?_
  apply BuildR.det 8 (Ext.refl) (fun l w h => h) (by rfl) (by rfl) rfl
  case h =>
    intro lx ax wx hE hR hF
    have e1 : ax.eval (.tmp 1) = .pointer (some ⟨w.heap.size, 0, none⟩) := hE.eval 1 (by rfl) rfl
    simp [go_sem, ↓IntWalk.iteOmega, ev e1, wt, ws, wm, e1]
    with_reducible rfl
  apply BuildR.det 9 (Ext.refl) (fun l w h => h) (by rfl) (by rfl) rfl
  case h =>
    intro lx ax wx hE hR hF
    have e8 := hF 0 (det 8 _) (by decide) (.head _)
    have hX := B1.ext hR; have q0 := hX.cell 0; have q1 := hX.cell 1; have q2 := hX.cell 2; simp at q0 q1 q2
    simp [go_sem, ↓IntWalk.iteOmega, ev e8, wt, ws, wm, e1, q0, q1, q2]
    with_reducible rfl
  apply BuildR.call 10 (by rfl) (by rfl) rfl
  case h =>
    intro lx ax wx hE hR hF
    have e9 := hF 1 (det 9 _) (by decide) (.head _)
    simp [go_sem, ↓IntWalk.iteOmega, ev e9, wt, ws, wm, e1]
    with_reducible exact ⟨rfl, rfl⟩
  case hc => intro lx wx hR hl hA; exact (HKA.out wx).mono (fun e w' h => ⟨h.1, h.2, hR.trans h.2⟩)
  apply BuildR.det 11 (Ext.refl) (fun l w h => h) (by rfl) (by rfl) rfl
  case h =>
    intro lx ax wx hE hR hF
    have e1 : ax.eval (.tmp 1) = .pointer (some ⟨w.heap.size, 0, none⟩) := hE.eval 1 (by rfl) rfl
    simp [go_sem, ↓IntWalk.iteOmega, ev e1, wt, ws, wm, e1]
    with_reducible rfl
  apply BuildR.det 12 (Ext.refl) (fun l w h => h) (by rfl) (by rfl) rfl
  case h =>
    intro lx ax wx hE hR hF
    have e11 := hF 3 (det 11 _) (by decide) (.head _)
    simp [go_sem, ↓IntWalk.iteOmega, ev e11, wt, ws, wm, e1]
    with_reducible rfl
  apply BuildR.det 13 (Ext.refl) (fun l w h => h) (by rfl) (by rfl) rfl
  case h =>
    intro lx ax wx hE hR hF
    have e12 := hF 4 (det 12 _) (by decide) (.head _)
    have hX := B1.ext hR; have q0 := hX.cell 0; have q1 := hX.cell 1; have q2 := hX.cell 2; simp at q0 q1 q2
    simp [go_sem, ↓IntWalk.iteOmega, ev e12, wt, ws, wm, e1, q0, q1, q2]
    with_reducible rfl
  apply BuildR.det 14 (Ext.refl) (fun l w h => h) (by rfl) (by rfl) rfl
  case h =>
    intro lx ax wx hE hR hF
    have e13 := hF 5 (det 13 _) (by decide) (.head _)
    simp [go_sem, ↓IntWalk.iteOmega, ev e13, wt, ws, wm, e1]
    with_reducible rfl
  apply BuildR.det 15 (Ext.refl) (fun l w h => h) (by rfl) (by rfl) rfl
  case h =>
    intro lx ax wx hE hR hF
    have e1 : ax.eval (.tmp 1) = .pointer (some ⟨w.heap.size, 0, none⟩) := hE.eval 1 (by rfl) rfl
    simp [go_sem, ↓IntWalk.iteOmega, ev e1, wt, ws, wm, e1]
    with_reducible rfl
  apply BuildR.det 16 (Ext.refl) (fun l w h => h) (by rfl) (by rfl) rfl
  case h =>
    intro lx ax wx hE hR hF
    have e15 := hF 7 (det 15 _) (by decide) (.head _)
    simp [go_sem, ↓IntWalk.iteOmega, ev e15, wt, ws, wm, e1]
    with_reducible rfl
  apply BuildR.det 17 (Ext.refl) (fun l w h => h) (by rfl) (by rfl) rfl
  case h =>
    intro lx ax wx hE hR hF
    have e16 := hF 8 (det 16 _) (by decide) (.head _)
    have hX := B1.ext hR; have q0 := hX.cell 0; have q1 := hX.cell 1; have q2 := hX.cell 2; simp at q0 q1 q2
    simp [go_sem, ↓IntWalk.iteOmega, ev e16, wt, ws, wm, e1, q0, q1, q2]
    with_reducible rfl
  apply BuildR.det 18 (Ext.refl) (fun l w h => h) (by rfl) (by rfl) rfl
  case h =>
    intro lx ax wx hE hR hF
    have e17 := hF 9 (det 17 _) (by decide) (.head _)
    simp [go_sem, ↓IntWalk.iteOmega, ev e17, wt, ws, wm, e1]
    with_reducible rfl
  apply BuildR.det 19 (Ext.refl) (fun l w h => h) (by rfl) (by rfl) rfl
  case h =>
    intro lx ax wx hE hR hF
    have e18 := hF 10 (det 18 _) (by decide) (.head _)
    simp [go_sem, ↓IntWalk.iteOmega, ev e18, wt, ws, wm, e1]
    with_reducible rfl
  apply BuildR.det 20 (Ext.refl) (fun l w h => h) (by rfl) (by rfl) rfl
  case h =>
    intro lx ax wx hE hR hF
    have e14 := hF 6 (det 14 _) (by decide) (.tail _ (.tail _ (.tail _ (.tail _ (.tail _ (.head _))))))
    have e19 := hF 11 (det 19 _) (by decide) (.head _)
    simp [go_sem, ↓IntWalk.iteOmega, ev e14, ev e19, wt, ws, wm, e1]
    with_reducible rfl
  apply BuildR.det 21 (Ext.refl) (fun l w h => h) (by rfl) (by rfl) rfl
  case h =>
    intro lx ax wx hE hR hF
    have e10 := hF 2 (det 10 _) (by decide) (.tail _ (.tail _ (.tail _ (.tail _ (.tail _ (.tail _ (.tail _ (.tail _ (.tail _ (.tail _ (.head _)))))))))))
    have e20 := hF 12 (det 20 _) (by decide) (.head _)
    simp [go_sem, ↓IntWalk.iteOmega, ev e10, ev e20, wt, ws, wm, e1]
    with_reducible rfl
  apply BuildR.stop
  refine ⟨by kernel_rfl, ?_⟩
  intro lx ax w2 hE R2 hL hF
  have e8 := hF 0 (det 8 _) (.tail _ (.tail _ (.tail _ (.tail _ (.tail _ (.tail _ (.tail _ (.tail _ (.tail _ (.tail _ (.tail _ (.tail _ (.tail _ (.head _))))))))))))))
  have e9 := hF 1 (det 9 _) (.tail _ (.tail _ (.tail _ (.tail _ (.tail _ (.tail _ (.tail _ (.tail _ (.tail _ (.tail _ (.tail _ (.tail _ (.head _)))))))))))))
  have e10 := hF 2 (det 10 _) (.tail _ (.tail _ (.tail _ (.tail _ (.tail _ (.tail _ (.tail _ (.tail _ (.tail _ (.tail _ (.tail _ (.head _))))))))))))
  have e11 := hF 3 (det 11 _) (.tail _ (.tail _ (.tail _ (.tail _ (.tail _ (.tail _ (.tail _ (.tail _ (.tail _ (.tail _ (.head _)))))))))))
  have e12 := hF 4 (det 12 _) (.tail _ (.tail _ (.tail _ (.tail _ (.tail _ (.tail _ (.tail _ (.tail _ (.tail _ (.head _))))))))))
  have e13 := hF 5 (det 13 _) (.tail _ (.tail _ (.tail _ (.tail _ (.tail _ (.tail _ (.tail _ (.tail _ (.head _)))))))))
  have e14 := hF 6 (det 14 _) (.tail _ (.tail _ (.tail _ (.tail _ (.tail _ (.tail _ (.tail _ (.head _))))))))
  have e15 := hF 7 (det 15 _) (.tail _ (.tail _ (.tail _ (.tail _ (.tail _ (.tail _ (.head _)))))))
  have e16 := hF 8 (det 16 _) (.tail _ (.tail _ (.tail _ (.tail _ (.tail _ (.head _))))))
  have e17 := hF 9 (det 17 _) (.tail _ (.tail _ (.tail _ (.tail _ (.head _)))))
  have e18 := hF 10 (det 18 _) (.tail _ (.tail _ (.tail _ (.head _))))
  have e19 := hF 11 (det 19 _) (.tail _ (.tail _ (.head _)))
  have e20 := hF 12 (det 20 _) (.tail _ (.head _))
  have e21 := hF 13 (det 21 _) (.head _)
  rw [AllEq.frame (D := [8, 9, 10, 11, 12, 13, 14, 15, 16, 17, 18, 19, 20, 21]) (AllEq.cons e8 (AllEq.cons e9 (AllEq.cons e10 (AllEq.cons e11 (AllEq.cons e12 (AllEq.cons e13 (AllEq.cons e14 (AllEq.cons e15 (AllEq.cons e16 (AllEq.cons e17 (AllEq.cons e18 (AllEq.cons e19 (AllEq.cons e20 (AllEq.cons e21 (AllEq.nil))))))))))))))) hE rfl]
  clear hF hE e8 e9 e10 e11 e12 e13 e14 e15 e16 e17 e18 e19 e20 e21
  simp only [List.foldl_cons, List.foldl_nil, Act.put, List.setIfInBounds_toArray, List.set_cons_succ, List.set_cons_zero]
  simp only [List.length_cons, List.length_nil, Nat.zero_add, Nat.reduceAdd, List.drop_succ_cons, List.drop_zero, List.drop_nil, tailOps]
  have hX := B2.ext R2
  have hE2 := hE.trans (R2.mono (by have := hE.size; omega))
  have q0 := hX.cell 0
  have q1 := hX.cell 1
  have f0 := hX.frozen 0
  have f1 := hX.frozen 1
  simp at q0 q1 f0 f1
  clear hX R2
  go_wp2_with fail
  exact bodyPost_ret (v := .tuple #[pairV (8589934592 + c) (t + 256 * s), .int .i64 0]) (by simp [results, Try.results71, go_sem, q0, q1]) rfl ⟨rfl, by (repeat (first | with_reducible exact Below.refl _ _ | with_reducible assumption | with_reducible apply Below.drew | with_reducible apply Z0e | (with_reducible refine Z0n ?_ ?_; focus ((try simp); (try omega); done)) | (with_reducible refine Z0o ?_ ?_; focus ((try simp); (try omega); done))))⟩

set_option maxHeartbeats 1000000 in
theorem ppair_no (c t s : Int) (w : World) (h : ¬ GoodPl c t s) :
    Calls Try.prog 71 #[placeV c t s] w fun e w' => e = .returned (.tuple #[pairV 0 0, .int .i64 1]) ∧ Ext w w' := by
  have hv := placeB_no h
  have CA := fun W => can_any c t s W
  rw [hv] at CA
  have HCA := Lib.hid CA
  clear h hv CA
  go_enter Try.func71, Try.ntmps71
  go_wp2_with fail
  refine (HCA.out _).mono ?_
  rintro e w1 ⟨rfl, hb1⟩
  obtain ⟨hc1, hf1⟩ := bcell hb1
  have hs1 := hb1.size
  simp at hs1
  have hbw : Ext w w1 := Below.trans (by (repeat (first | with_reducible exact Below.refl _ _ | with_reducible assumption | with_reducible apply Below.drew | with_reducible apply Z0e | (with_reducible refine Z0n ?_ ?_; focus ((try simp); (try omega); done)) | (with_reducible refine Z0o ?_ ?_; focus ((try simp); (try omega); done))))) (hb1.mono (by simp; omega))
  go_wp2_with fail
  exact bodyPost_ret (v := .tuple #[pairV 0 0, .int .i64 1]) (by simp [results, Try.results71, go_sem, hc1]) rfl ⟨rfl, by (repeat (first | with_reducible exact Below.refl _ _ | with_reducible assumption | with_reducible apply Below.drew | with_reducible apply Z0e | (with_reducible refine Z0n ?_ ?_; focus ((try simp); (try omega); done)) | (with_reducible refine Z0o ?_ ?_; focus ((try simp); (try omega); done))))⟩

set_option maxHeartbeats 1000000 in
theorem rppair_yes (c t s : Int) (w : World) (h : GoodPl c t s) :
    Calls Try.prog 75 #[.int .i64 c, spotV t s] w fun e w' => e = .returned (pairV (8589934592 + c) (t + 256 * s)) ∧ Ext w w' := by
  obtain ⟨h0, h1, h2, h3, h4⟩ := h
  have h5 : 0 ≤ t := by omega
  have h6 : t ≤ 1 := by omega
  clear h2
  go_enter Try.func75, Try.ntmps75
  go_wp2
  exact bodyPost_ret (v := pairV (8589934592 + c) (t + 256 * s)) (by simp [results, Try.results75, go_sem]) rfl ⟨rfl, by (repeat (first | with_reducible exact Below.refl _ _ | with_reducible assumption | with_reducible apply Below.drew | with_reducible apply Z0e | (with_reducible refine Z0n ?_ ?_; focus ((try simp); (try omega); done)) | (with_reducible refine Z0o ?_ ?_; focus ((try simp); (try omega); done))))⟩

/-- Whether a pair is a place's. -/
def PlOk (k v : Int) : Prop := GoodPl (k % 4294967296) (v % 256) (v / 256) ∧ 8589934592 + k % 4294967296 = k

set_option maxHeartbeats 1000000 in
theorem pread_yes (k v : Int) (w : World) (h0 : 0 ≤ k) (h1 : k ≤ 18446744073709551615) (h2 : 0 ≤ v) (h3 : v ≤ 18446744073709551615) (h : PlOk k v) :
    Calls Try.prog 72 #[pairV k v] w fun e w' => e = .returned (.tuple #[placeV (k % 4294967296) (v % 256) (v / 256), .bool true]) ∧ Ext w w' := by
  have e1 : bits .and .u64 k 4294967295 = k % 4294967296 := and_u64 _ _ 4294967296 32 (by rfl) (by omega) (by omega) (by omega) (by omega)
  have e2 : bits .and .u64 v 255 = v % 256 := and_u64 _ _ 256 8 (by rfl) (by omega) (by omega) (by omega) (by omega)
  obtain ⟨g, hk⟩ := h
  have hv : v % 256 + 256 * (v / 256) = v := by omega
  have CP := fun W => ppair_yes _ _ _ W g
  rw [hk, hv] at CP
  have HCP := Lib.hid CP
  clear hk hv g CP
  go_enter Try.func72, Try.ntmps72
  go_wp2_with fail
  refine (HCP.out _).mono ?_
  rintro e w1 ⟨rfl, hb1⟩
  obtain ⟨hc1, hf1⟩ := bcell hb1
  have hs1 := hb1.size
  simp at hs1
  have z0 : w.heap.size < w1.heap.size := by omega
  have z1 : w.heap.size + 1 < w1.heap.size := by omega
  have z2 : w.heap.size + 1 + 1 < w1.heap.size := by omega
  clear e1 e2
  have hbw : Below w.heap.size w w1 := Below.trans (by (repeat (first | with_reducible exact Below.refl _ _ | with_reducible assumption | with_reducible apply Below.drew | with_reducible apply Z0e | (with_reducible refine Z0n ?_ ?_; focus ((try simp); (try omega); done)) | (with_reducible refine Z0o ?_ ?_; focus ((try simp); (try omega); done))))) (hb1.mono (by simp; omega))
  go_wp2_with fail
  exact bodyPost_ret (v := .tuple #[placeV (k % 4294967296) (v % 256) (v / 256), .bool true]) (by simp [results, Try.results72, go_sem, hc1, z0, z1, z2]) rfl ⟨rfl, by (repeat (first | with_reducible exact Below.refl _ _ | with_reducible assumption | with_reducible apply Below.drew | with_reducible apply Z0e | (with_reducible refine Z0n ?_ ?_; focus ((try simp); (try omega); done)) | (with_reducible refine Z0o ?_ ?_; focus ((try simp); (try omega); done))))⟩

set_option maxHeartbeats 1000000 in
theorem pread_no (k v : Int) (w : World) (h0 : 0 ≤ k) (h1 : k ≤ 18446744073709551615) (h2 : 0 ≤ v) (h3 : v ≤ 18446744073709551615) (h : ¬ PlOk k v) :
    Calls Try.prog 72 #[pairV k v] w fun e w' => e = .returned (.tuple #[placeV 0 0 0, .bool false]) ∧ Ext w w' := by
  have e1 : bits .and .u64 k 4294967295 = k % 4294967296 := and_u64 _ _ 4294967296 32 (by rfl) (by omega) (by omega) (by omega) (by omega)
  have e2 : bits .and .u64 v 255 = v % 256 := and_u64 _ _ 256 8 (by rfl) (by omega) (by omega) (by omega) (by omega)
  go_enter Try.func72, Try.ntmps72
  by_cases hg : GoodPl (k % 4294967296) (v % 256) (v / 256)
  · have hd : ¬ (8589934592 + k % 4294967296 = k) := fun hd => h ⟨hg, hd⟩
    have hv : v % 256 + 256 * (v / 256) = v := by omega
    have CP := fun W => ppair_yes _ _ _ W hg
    generalize hy : 8589934592 + k % 4294967296 = y at hd CP
    rw [hv] at CP
    have HCP := Lib.hid CP
    have Hd := Lib.hid hd
    clear hy hv hg CP h hd
    go_wp2_with fail
    refine (HCP.out _).mono ?_
    rintro e w1 ⟨rfl, hb1⟩
    obtain ⟨hc1, hf1⟩ := bcell hb1
    have hs1 := hb1.size
    simp at hs1
    have z0 : w.heap.size < w1.heap.size := by omega
    have z1 : w.heap.size + 1 < w1.heap.size := by omega
    have z2 : w.heap.size + 1 + 1 < w1.heap.size := by omega
    clear e1 e2
    have hbw : Below w.heap.size w w1 := Below.trans (by (repeat (first | with_reducible exact Below.refl _ _ | with_reducible assumption | with_reducible apply Below.drew | with_reducible apply Z0e | (with_reducible refine Z0n ?_ ?_; focus ((try simp); (try omega); done)) | (with_reducible refine Z0o ?_ ?_; focus ((try simp); (try omega); done))))) (hb1.mono (by simp; omega))
    have hd := Hd.out
    go_wp2_with fail
    exact bodyPost_ret (v := .tuple #[placeV 0 0 0, .bool false]) (by simp [results, Try.results72, go_sem, hc1, z0, z1, z2]) rfl ⟨rfl, by (repeat (first | with_reducible exact Below.refl _ _ | with_reducible assumption | with_reducible apply Below.drew | with_reducible apply Z0e | (with_reducible refine Z0n ?_ ?_; focus ((try simp); (try omega); done)) | (with_reducible refine Z0o ?_ ?_; focus ((try simp); (try omega); done))))⟩
  · have HCP := Lib.hid (fun W => ppair_no _ _ _ W hg)
    clear h hg
    go_wp2_with fail
    refine (HCP.out _).mono ?_
    rintro e w1 ⟨rfl, hb1⟩
    obtain ⟨hc1, hf1⟩ := bcell hb1
    have hs1 := hb1.size
    simp at hs1
    have z0 : w.heap.size < w1.heap.size := by omega
    have z1 : w.heap.size + 1 < w1.heap.size := by omega
    have z2 : w.heap.size + 1 + 1 < w1.heap.size := by omega
    clear e1 e2
    have hbw : Below w.heap.size w w1 := Below.trans (by (repeat (first | with_reducible exact Below.refl _ _ | with_reducible assumption | with_reducible apply Below.drew | with_reducible apply Z0e | (with_reducible refine Z0n ?_ ?_; focus ((try simp); (try omega); done)) | (with_reducible refine Z0o ?_ ?_; focus ((try simp); (try omega); done))))) (hb1.mono (by simp; omega))
    go_wp2_with fail
    exact bodyPost_ret (v := .tuple #[placeV 0 0 0, .bool false]) (by simp [results, Try.results72, go_sem, hc1, z0, z1, z2]) rfl ⟨rfl, by (repeat (first | with_reducible exact Below.refl _ _ | with_reducible assumption | with_reducible apply Below.drew | with_reducible apply Z0e | (with_reducible refine Z0n ?_ ?_; focus ((try simp); (try omega); done)) | (with_reducible refine Z0o ?_ ?_; focus ((try simp); (try omega); done))))⟩
end Go.Proofs.Ytngehbhhpkkijaa

/- A map of spots to bools that the call makes: what it says of each spot. The look-up of a bool. -/
namespace Go.Proofs.Ytngehbhhpkkijaa
set_option linter.unusedVariables false
set_option linter.unusedSimpArgs false
open Go.RowKit Go.Maps

theorem laidOut_ : laidOutB Try.prog = true := by kernel_rfl
theorem row_spot : (108 : TypeId) < Try.prog.types.size := of_decide_eq_true (by kernel_rfl)
theorem wide_spot : (match Try.prog.underlying 108 with | some (.array _ _) | some (.struct _) => true | _ => false) = true := by kernel_rfl
set_option maxRecDepth 100000 in
theorem law_spot : Keyed Try.prog 108 := Keyed.of_law (deep_law_laid laidOut_ (m := 3) (by omega) row_spot (by kernel_rfl) wide_spot)
theorem keyType_spot : Try.prog.keyType 108 = true := by kernel_rfl
theorem cells_spot : Try.prog.cellsOf 108 = 2 := by kernel_rfl
theorem Z2f : Try.prog.cellsOf 3 = 1 := by kernel_rfl
theorem zero_bool (w : World) : (zeroValue 4).run Try.prog w = .ok (.bool false) w := by kernel_rfl
theorem wf_i64_ {a : Int} (h0 : -9223372036854775808 ≤ a) (h1 : a ≤ 9223372036854775807) : (Lit.int .i64 a).wf = true := WalkArith.wf_i64 (by omega)
set_option maxRecDepth 100000 in
theorem spot_key {t s : Int} (ht : (Lit.int .i64 t).wf = true) (hs : (Lit.int .i64 s).wf = true) : ∃ l, keyOf Try.prog 108 (spotV t s) = some l := by
  have hf : (spotV t s).formed Try.prog 108 = true := by simp [Value.formed, Try.underlying108, cells_spot]
  have hl : Try.prog.keyLits (Try.prog.types.size + 1) 108 (spotV t s).cells.toList = some [.int .i64 t, .int .i64 s] := by
    have hsz : ∃ n, Try.prog.types.size = n + 1 := ⟨Try.prog.types.size - 1, (Nat.succ_pred_eq_of_pos (Nat.lt_of_le_of_lt (Nat.zero_le _) row_spot)).symm⟩
    obtain ⟨n, hn⟩ := hsz
    rw [hn]
    simp [Program.keyLits, Try.underlying108, Try.underlying3, Value.cells, cells_spot, Z2f, ht, hs]
  refine ⟨.string (keyBytes [.int .i64 t, .int .i64 s]), ?_⟩
  unfold keyOf
  rw [Try.underlying108]
  simp only [keyType_spot, hf, hl]
  rfl

theorem plainElem_bool_inv {H : Type} {P : Program} {e : TypeId} (he : P.underlying e = some .bool) {v : Value} {z : DataW H × List MemPlace} (h : plainElem P e v = some z) : ∃ a, v = .bool a ∧ z = (.lit (.bool a), []) := by
  unfold plainElem at h
  rw [he] at h
  cases v <;> simp at h
  exact ⟨_, rfl, h.symm⟩

/-- Block b is a map of at most n entries that says f of each spot. -/
def SMap (w : World) (b n : Nat) (f : Int → Int → Bool) : Prop := ∃ D : DataW Unit, w.ownsMap Try.prog 108 (plainElem Try.prog 4) b n D ∧
  ∀ t s l, keyOf Try.prog 108 (spotV t s) = some l → D.atKey l (.lit (.bool false)) = .lit (.bool (f t s))

section
variable {w w' : World} {b n : Nat} {f : Int → Int → Bool}
theorem SMap.made (w : World) : SMap (w.alloc (.map #[] 0)) w.heap.size 0 (fun _ _ => false) :=
  ⟨.map [], World.ownsMap_made _ _ _ _, fun _ _ l _ => by rfl⟩
theorem SMap.ext (h : SMap w b n f) (k : Ext w w') : SMap w' b n f := by
  obtain ⟨D, h1, h2⟩ := h
  exact ⟨D, h1.kept (Z1x k none) (by simp), h2⟩
theorem SMap.lt (h : SMap w b n f) : b < w.heap.size := by
  obtain ⟨D, h1, h2⟩ := h
  exact h1.lt
theorem SMap.look (h : SMap w b n f) {t s : Int} (ht : (Lit.int .i64 t).wf = true) (hs : (Lit.int .i64 s).wf = true) :
    (Instr.lookup 153 (.map (some b)) (spotV t s) false).run Try.prog w = .ok (.bool (f t s)) w := by
  obtain ⟨D, h1, h2⟩ := h
  obtain ⟨l, hl⟩ := spot_key ht hs
  obtain ⟨v, ps, hrun, hv⟩ := h1.lookup law_spot Try.underlying153 (zero_bool w) (plainElem_bool Try.underlying4 false) hl
  obtain ⟨a, rfl, hz⟩ := plainElem_bool_inv Try.underlying4 hv
  rw [h2 t s l hl] at hz
  simp at hz
  rw [hrun, hz.1]
theorem SMap.store (h : SMap w b n f) (hn : n < maxLen) {t s : Int} (ht : (Lit.int .i64 t).wf = true) (hs : (Lit.int .i64 s).wf = true) :
    ∃ w', (Instr.mapUpdate 153 (.map (some b)) (spotV t s) (.bool true)).run Try.prog w = .ok () w' ∧ SMap w' b (n + 1) (fun x y => (t == x && s == y) || f x y) ∧ w.grownBy w' (some b) := by
  obtain ⟨D, h1, h2⟩ := h
  obtain ⟨l, hl⟩ := spot_key ht hs
  obtain ⟨w', hrun, h3, h4⟩ := h1.update law_spot Try.underlying153 hn hl (plainElem_bool (H := Unit) Try.underlying4 true)
  refine ⟨w', hrun, ⟨_, h3, fun x y l' hl' => ?_⟩, h4⟩
  by_cases e : t = x ∧ s = y
  · obtain ⟨rfl, rfl⟩ := e
    have : l' = l := by rw [hl] at hl'; exact (Option.some.inj hl').symm
    subst this
    rw [atKey_put_same h1.isMap (law_spot.key hl)]
    simp
  · have hne : l' ≠ l := by
      rintro rfl
      have := law_spot.inj hl hl'
      simp at this
      exact e this
    rw [atKey_put_other hne, h2 x y l' hl']
    have : (t == x && s == y) = false := by
      rw [Bool.and_eq_false_iff]
      simp only [beq_eq_false_iff_ne]
      by_cases hx : t = x
      · exact .inr (fun hy => e ⟨hx, hy⟩)
      · exact .inl hx
    show DataW.lit (Lit.bool (f x y)) = DataW.lit (Lit.bool ((t == x && s == y) || f x y))
    rw [this]
    rfl
end

/-- 'm[k] = true' at the operation. -/
theorem wpList_smap_store {w : World} {ops : Array Oper} {rest : List Oper} {o : Oper} {a : Act} {Q : Exit → Act → World → Prop} (hg : o.guard = none) (m x v : Operand) (hop : o.op = Op.mapUpdate 153 m x v)
    {b n : Nat} {f : Int → Int → Bool} (h : SMap w b n f) (hn : n < maxLen) {t s : Int} (ht : (Lit.int .i64 t).wf = true) (hs : (Lit.int .i64 s).wf = true)
    (hm : a.eval m = .map (some b)) (hx : a.eval x = spotV t s) (hv : a.eval v = .bool true)
    (hK : ∀ w', SMap w' b (n + 1) (fun x y => (t == x && s == y) || f x y) → w.grownBy w' (some b) → wpList Try.prog ops Q rest (a.put o.dst undef) w') : wpList Try.prog ops Q (o :: rest) a w := by
  refine wpList_plain hg fun K' hK' => ?_
  obtain ⟨w', hrun, r1, r2⟩ := h.store hn ht hs
  unfold Oper.wp
  simp [execOp, hop, hm, hx, hv, hrun, Result.andThen]
  exact hK' _ _ (hK w' r1 r2)
end Go.Proofs.Ytngehbhhpkkijaa

/- what place.Good answers, plain. -/
namespace Go.Proofs.Ytngehbhhpkkijaa
set_option linter.unusedVariables false
set_option linter.unusedSimpArgs false
open Go.RowKit

abbrev PlD := Int × Int × Int
def plC (x : PlD) : List Value := [.int .i64 x.1, .int .i64 x.2.1, .int .i64 x.2.2]
def cAt (L : List PlD) (i : Nat) : Int := (L.getD i (0, 0, 0)).1
def tAt (L : List PlD) (i : Nat) : Int := (L.getD i (0, 0, 0)).2.1
def sAt (L : List PlD) (i : Nat) : Int := (L.getD i (0, 0, 0)).2.2
def wfP (x : PlD) : Prop := (Lit.int .i64 x.1).wf = true ∧ (Lit.int .i64 x.2.1).wf = true ∧ (Lit.int .i64 x.2.2).wf = true
theorem Row.p_in {w w' : World} {A : Option Addr} {L : List PlD} (h : Row w A 3 plC L) (hb : Below w.heap.size w w') {j : Nat} (hj : j < L.length) :
    ∃ b o, A = some ⟨b, o, none⟩ ∧ b < w.heap.size := by
  obtain ⟨b, o, hA, hlt, _⟩ := h.in_ hb hj
  exact ⟨b, o, hA, hlt⟩
theorem Row.p_at {w w' : World} {b o : Nat} {L : List PlD} (h : Row w (some ⟨b, o, none⟩) 3 plC L) (hb : Below w.heap.size w w') {j : Nat} (hj : j < L.length) :
    w'.cell? ⟨b, o + j * 3, none⟩ = some (.int .i64 (cAt L j)) ∧ w'.cell? ⟨b, o + j * 3 + 1, none⟩ = some (.int .i64 (tAt L j)) ∧ w'.cell? ⟨b, o + j * 3 + 2, none⟩ = some (.int .i64 (sAt L j)) := by
  obtain ⟨b', o', he, _, hc⟩ := h.in_ hb hj
  cases he
  have e : L[j] = (cAt L j, tAt L j, sAt L j) := by simp [cAt, tAt, sAt, List.getD, hj]
  rw [e] at hc
  exact ⟨hc 0 _ rfl, hc 1 _ rfl, hc 2 _ rfl⟩
/-- Whether one of the first j places has that spot. -/
def seenB (L : List PlD) (j : Nat) (t s : Int) : Bool := (L.take j).any fun x => x.2.1 == t && x.2.2 == s
theorem seenB_step (L : List PlD) (j : Nat) (hj : j < L.length) : seenB L (j + 1) = fun x y => (tAt L j == x && sAt L j == y) || seenB L j x y := by
  funext x y
  unfold seenB
  rw [List.take_add_one, List.getElem?_eq_getElem hj, List.any_append]
  simp [tAt, sAt, List.getD, hj, Bool.or_comm]
theorem seenB_zero (L : List PlD) : seenB L 0 = fun _ _ => false := by
  funext x y
  simp [seenB]
theorem tier_nat {c t s : Int} (h : GoodPl c t s) : ∃ T : Nat, t = T ∧ T < 2 := by
  obtain ⟨_, _, h, _, _⟩ := h
  rcases h with h | h
  · exact ⟨0, by omega, by omega⟩
  · exact ⟨1, by omega, by omega⟩
def limOf (s0 s1 t : Int) : Int := if t = 0 then s0 else s1
def okP (L : List PlD) (s0 s1 : Int) (i : Nat) : Prop := GoodPl (cAt L i) (tAt L i) (sAt L i) ∧ sAt L i < limOf s0 s1 (tAt L i) ∧ seenB L i (tAt L i) (sAt L i) = false ∧ (i = 0 ∨ cAt L (i - 1) < cAt L i)
open Classical in
/-- Whether places are those of tiers of so many slots. -/
noncomputable def goodPls (L : List PlD) (s0 s1 : Int) : Bool := decide (∀ i, i < L.length → okP L s0 s1 i)
theorem lim_at {s0 s1 : Int} (T : Nat) (hT : T < 2) : (#[Value.int .i64 s0, Value.int .i64 s1] : Array Value)[T]? = some (.int .i64 (limOf s0 s1 T)) := by
  match T, hT with
  | 0, _ => rfl
  | 1, _ => rfl
end Go.Proofs.Ytngehbhhpkkijaa

/- The arguments of PlaceExact. -/
namespace Go.Proofs.Ytngehbhhpkkijaa
set_option linter.unusedVariables false
set_option linter.unusedSimpArgs false
open Go.RowKit Go.ChangeShapes Go.WideShapes Go.ChangeAt

theorem cells_place : Try.prog.cellsOf 110 = 3 := by kernel_rfl
theorem cells_pair14 : Try.prog.cellsOf 38 = 2 := by kernel_rfl
theorem cells_u14 : Try.prog.cellsOf 30 = 1 := by kernel_rfl
theorem cells_arr14 : Try.prog.cellsOf 115 = 2 := by kernel_rfl
theorem take_drop_get {α : Type} {cs : List α} {o c i : Nat} {x : α} (h : ((cs.drop o).take c)[i]? = some x) (hi : i < c) : cs[o + i]? = some x := by
  rw [List.getElem?_take_of_lt hi, List.getElem?_drop] at h
  exact h
theorem take_one_get {α : Type} {cs : List α} {i : Nat} {v : α} (h : (cs.drop i).take 1 = [v]) : cs[i]? = some v := Z1y h
theorem fit_spot {w : World} {cs : List Value} (hf : Fit Try.prog w 108 cs) : ∃ t s : Int, cs = [.int .i64 t, .int .i64 s] ∧ (Lit.int .i64 t).wf = true ∧ (Lit.int .i64 s).wf = true := by
  obtain ⟨hl, hx⟩ := Z2e 2 Try.underlying108 cells_spot hf
  obtain ⟨t, e0, w0⟩ := Z26 Try.underlying3 (hx 0 0 3 1 rfl Z2f)
  obtain ⟨s, e1, w1⟩ := Z26 Try.underlying3 (hx 1 1 3 1 rfl Z2f)
  exact ⟨t, s, list2_of hl e0 e1, w0, w1⟩
theorem fit_place {w : World} {cs : List Value} (hf : Fit Try.prog w 110 cs) : ∃ x : PlD, cs = plC x ∧ wfP x := by
  obtain ⟨hl, hx⟩ := Z2e 3 Try.underlying110 cells_place hf
  obtain ⟨c, e0, w0⟩ := Z26 Try.underlying3 (hx 0 0 3 1 rfl Z2f)
  obtain ⟨t, s, e1, w1, w2⟩ := fit_spot (hx 1 1 108 2 rfl cells_spot)
  have h1 : cs[1 + 0]? = some (.int .i64 t) := take_drop_get (c := 2) (by rw [e1]; rfl) (by omega)
  have h2 : cs[1 + 1]? = some (.int .i64 s) := take_drop_get (c := 2) (by rw [e1]; rfl) (by omega)
  exact ⟨(c, t, s), list3_of hl e0 h1 h2, w0, w1, w2⟩
theorem arg_place {w : World} {v : Value} (h : Arg Try.prog w 110 v) : ∃ c t s : Int, v = placeV c t s := by
  obtain ⟨cs, rfl, hf⟩ := arg_struct Try.underlying110 h
  obtain ⟨x, rfl, _⟩ := fit_place hf
  exact ⟨x.1, x.2.1, x.2.2, rfl⟩
theorem arg_pair14 {w : World} {v : Value} (h : Arg Try.prog w 38 v) : ∃ (k x : Int), v = pairV k x ∧ 0 ≤ k ∧ k ≤ 18446744073709551615 ∧ 0 ≤ x ∧ x ≤ 18446744073709551615 := by
  obtain ⟨cs, rfl, hf⟩ := arg_struct Try.underlying38 h
  obtain ⟨hl, hx⟩ := Z2e 2 Try.underlying38 cells_pair14 hf
  obtain ⟨k, e0, w0⟩ := Z26 Try.underlying30 (hx 0 0 30 1 rfl cells_u14)
  obtain ⟨x, e1, w1⟩ := Z26 Try.underlying30 (hx 1 1 30 1 rfl cells_u14)
  have b0 := bounds_u64 w0
  have b1 := bounds_u64 w1
  exact ⟨k, x, by rw [list2_of hl e0 e1], by omega, by omega, by omega, by omega⟩
theorem arg_slots {w : World} {v : Value} (h : Arg Try.prog w 115 v) : ∃ (a b : Int), v = .agg #[.int .i64 a, .int .i64 b] := by
  obtain ⟨cs, rfl, hf⟩ := arg_array Try.underlying115 h
  obtain ⟨hl, hx⟩ := fit_array Try.underlying115 hf
  rw [cells_arr14] at hl
  have g := fun i hi => hx i hi
  rw [Z2f] at g
  obtain ⟨a, e0, _⟩ := fit_int Try.underlying3 (g 0 (by omega))
  obtain ⟨b, e1, _⟩ := fit_int Try.underlying3 (g 1 (by omega))
  exact ⟨a, b, by rw [list2_of hl (Z1y e0) (Z1y e1)]⟩
theorem arg_places {w : World} {v : Value} (h : Arg Try.prog w 111 v) :
    ∃ A len cap, ∃ xs : List PlD, v = .slice A len cap ∧ len ≤ cap ∧ cap ≤ maxLen ∧ xs.length = len ∧ (∀ x ∈ xs, wfP x) ∧ Row w A 3 plC xs :=
  fit_row plC wfP Try.underlying111 cells_place (by decide) (fun _ _ hf => fit_place hf) (arg_slice Try.underlying111 h)
end Go.Proofs.Ytngehbhhpkkijaa
