/- The walk of the reference's Read of a place. -/
import Derived.Test.YtngehbhhpkkijaaKPlaceList24
import Derived.Deep.RegionHeld3
namespace Go.Proofs.Ytngehbhhpkkijaa
attribute [local simp] BigFrame.eval_const BigFrame.eval_global BigFrame.eval_func
set_option linter.unusedVariables false
set_option linter.unusedSimpArgs false
open Go.RowKit

set_option maxHeartbeats 2000000 in
theorem rpread_a (k v c t s : Int) (w : World) (h0 : 0 ≤ k) (h1 : k ≤ 18446744073709551615) (h2 : 0 ≤ v) (h3 : v ≤ 18446744073709551615)
    (hc : k % 4294967296 = c) (ht : v % 256 = t) (hs : v / 256 % 1024 = s) (h : ¬ GoodPl c t s) :
    Calls Try.prog 54 #[pairV k v] w fun e w' => e = .returned (.tuple #[.int .i64 0, spotV 0 0, .bool false]) ∧ Ext w w' := by
  have hv := placeB_no h
  have CA := fun W => Z24 c t s W
  rw [hv] at CA
  have HCA := Lib.hid CA
  clear h hv CA
  have e3 : v / 256 % 1024 = s := hs
  have hs0 : 0 ≤ s := by omega
  have hs1 : s < 1024 := by omega
  go_enter Try.func54, Try.ntmps54
  go_upto_region 3 with fail
  simp only [hc, ht, e3]
  have hE : Ext w (((w.alloc (.cells #[.int .u64 k, .int .u64 v] 38)).alloc (.cells #[.int .i64 0, .int .i64 0] 108)).alloc (.cells #[.int .i64 t, .int .i64 s] 108)) := by (repeat (first | with_reducible exact Below.refl _ _ | with_reducible assumption | with_reducible apply Below.drew | with_reducible apply Z0e | (with_reducible refine Z0n ?_ ?_; focus ((try simp); (try omega); done)) | (with_reducible refine Z0o ?_ ?_; focus ((try simp); (try omega); done))))
  have B1 : Blk (((w.alloc (.cells #[.int .u64 k, .int .u64 v] 38)).alloc (.cells #[.int .i64 0, .int .i64 0] 108)).alloc (.cells #[.int .i64 t, .int .i64 s] 108)) w.heap.size 38 #[.int .u64 k, .int .u64 v] := ((Blk.new _ _ _).alloc _).alloc _
  have B2 : Blk (((w.alloc (.cells #[.int .u64 k, .int .u64 v] 38)).alloc (.cells #[.int .i64 0, .int .i64 0] 108)).alloc (.cells #[.int .i64 t, .int .i64 s] 108)) (w.heap.size + 1) 108 #[.int .i64 0, .int .i64 0] := (Z28 (by simp)).alloc _
  have B3 : Blk (((w.alloc (.cells #[.int .u64 k, .int .u64 v] 38)).alloc (.cells #[.int .i64 0, .int .i64 0] 108)).alloc (.cells #[.int .i64 t, .int .i64 s] 108)) (w.heap.size + 1 + 1) 108 #[.int .i64 t, .int .i64 s] := Z28 (by simp)
  generalize (((w.alloc (.cells #[.int .u64 k, .int .u64 v] 38)).alloc (.cells #[.int .i64 0, .int .i64 0] 108)).alloc (.cells #[.int .i64 t, .int .i64 s] 108)) = w1 at hE B1 B2 B3 ⊢
  refine Z0c (R := Ext) (w0 := w1) [[], [], [0, 1], [0, 1, 2], [0, 1, 2, 3], [0, 1, 2, 3, 4], [0, 1, 2, 3, 4], [0, 1, 2, 3, 4, 5, 6], [0, 1, 2, 3, 4], [0, 1, 2, 3, 4, 5, 6, 7, 8], [0, 1, 2, 3, 4, 5, 6, 7, 8, 9]] [21, 22, 23, 24, 25, 26, 27, 28, 29, 30, 31] Ext.refl (fun _ _ _ => Ext.trans) (Ext.drew _) (by kernel_rfl) ?_
  apply Build.det 21 Ext.refl (by rfl) (by rfl) rfl
  case h =>
    intro ax wx hE hR hF
    have e5 : ax.eval (.tmp 5) = .int .i64 c := hE.eval 5 (by rfl) rfl
    simp [go_sem, ↓IntWalk.iteOmega, ev e5]
    with_reducible rfl
  apply Build.det 22 Ext.refl (by rfl) (by rfl) rfl
  case h =>
    intro ax wx hE hR hF
    have e6 : ax.eval (.tmp 6) = .pointer (some ⟨w.heap.size + 1 + 1, 0, none⟩) := hE.eval 6 (by rfl) rfl
    have hX := B1.ext hR; have hY := B3.ext hR; have q0 := hX.cell 0; have q1 := hX.cell 1; have p0 := hY.cell 0; have p1 := hY.cell 1; simp at q0 q1 p0 p1
    simp [go_sem, ↓IntWalk.iteOmega, ev e6, q0, q1, p0, p1]
    with_reducible rfl
  apply Build.call 23 Ext.refl (by rfl) (by rfl) rfl
  case h =>
    intro ax wx hE hR hF
    have e21 := hF 0 (det 21 _) (by decide) (.tail _ (.head _))
    have e22 := hF 1 (det 22 _) (by decide) (.head _)
    simp [go_sem, ↓IntWalk.iteOmega, ev e21, ev e22]
    with_reducible exact ⟨rfl, rfl⟩
  case hc => intro wx hR; with_reducible exact HCA.out wx
  apply Build.det 24 Ext.refl (by rfl) (by rfl) rfl
  case h =>
    intro ax wx hE hR hF
    have e23 := hF 2 (det 23 _) (by decide) (.head _)
    simp [go_sem, ↓IntWalk.iteOmega, ev e23]
    with_reducible rfl
  apply Build.det 25 Ext.refl (by rfl) (by rfl) rfl
  case h =>
    intro ax wx hE hR hF
    have e24 := hF 3 (det 24 _) (by decide) (.head _)
    simp [go_sem, ↓IntWalk.iteOmega, ev e24]
    with_reducible rfl
  refine Build.skip 26 (by rfl) (by rfl) rfl rfl ?_ ?_
  · intro ax wx hE hR hF
    have e5 : ax.eval (.tmp 5) = .int .i64 c := hE.eval 5 (by rfl) rfl
    have e25 := hF 4 (det 25 _) (by decide) (.head _)
    exact e25
  refine Build.skip 27 (by rfl) (by rfl) rfl rfl ?_ ?_
  · intro ax wx hE hR hF
    have e6 : ax.eval (.tmp 6) = .pointer (some ⟨w.heap.size + 1 + 1, 0, none⟩) := hE.eval 6 (by rfl) rfl
    have e25 := hF 4 (det 25 _) (by decide) (.tail _ (.head _))
    exact e25
  refine Build.skip 28 (by rfl) (by rfl) rfl rfl ?_ ?_
  · intro ax wx hE hR hF
    have e25 := hF 4 (det 25 _) (by decide) (.tail _ (.tail _ (.head _)))
    have e26 := hF 5 (det 26 _) (by decide) (.tail _ (.head _))
    have e27 := hF 6 (det 27 _) (by decide) (.head _)
    exact e25
  refine Build.skip 29 (by rfl) (by rfl) rfl rfl ?_ ?_
  · intro ax wx hE hR hF
    have e1 : ax.eval (.tmp 1) = .pointer (some ⟨w.heap.size, 0, none⟩) := hE.eval 1 (by rfl) rfl
    have e25 := hF 4 (det 25 _) (by decide) (.tail _ (.tail _ (.tail _ (.head _))))
    exact e25
  refine Build.skip 30 (by rfl) (by rfl) rfl rfl ?_ ?_
  · intro ax wx hE hR hF
    have e25 := hF 4 (det 25 _) (by decide) (.tail _ (.tail _ (.tail _ (.tail _ (.head _)))))
    have e28 := hF 7 (det 28 _) (by decide) (.tail _ (.head _))
    have e29 := hF 8 (det 29 _) (by decide) (.head _)
    exact e25
  apply Build.det 31 Ext.refl (by rfl) (by rfl) rfl
  case h =>
    intro ax wx hE hR hF
    have e25 := hF 4 (det 25 _) (by decide) (.tail _ (.tail _ (.tail _ (.tail _ (.tail _ (.head _))))))
    have e30 := hF 9 (det 30 _) (by decide) (.head _)
    simp [go_sem, ↓IntWalk.iteOmega, ev e25, ev e30]
    with_reducible rfl
  apply Build.stop
  refine ⟨by kernel_rfl, .inl ⟨rfl, ?_⟩⟩
  intro ax w2 hE R2 hF
  have e21 := hF 0 (det 21 _) (.tail _ (.tail _ (.tail _ (.tail _ (.tail _ (.tail _ (.tail _ (.tail _ (.tail _ (.tail _ (.head _)))))))))))
  have e22 := hF 1 (det 22 _) (.tail _ (.tail _ (.tail _ (.tail _ (.tail _ (.tail _ (.tail _ (.tail _ (.tail _ (.head _))))))))))
  have e23 := hF 2 (det 23 _) (.tail _ (.tail _ (.tail _ (.tail _ (.tail _ (.tail _ (.tail _ (.tail _ (.head _)))))))))
  have e24 := hF 3 (det 24 _) (.tail _ (.tail _ (.tail _ (.tail _ (.tail _ (.tail _ (.tail _ (.head _))))))))
  have e25 := hF 4 (det 25 _) (.tail _ (.tail _ (.tail _ (.tail _ (.tail _ (.tail _ (.head _)))))))
  have e26 := hF 5 (det 26 _) (.tail _ (.tail _ (.tail _ (.tail _ (.tail _ (.head _))))))
  have e27 := hF 6 (det 27 _) (.tail _ (.tail _ (.tail _ (.tail _ (.head _)))))
  have e28 := hF 7 (det 28 _) (.tail _ (.tail _ (.tail _ (.head _))))
  have e29 := hF 8 (det 29 _) (.tail _ (.tail _ (.head _)))
  have e30 := hF 9 (det 30 _) (.tail _ (.head _))
  have e31 := hF 10 (det 31 _) (.head _)
  rw [AllEq.frame (D := [21, 22, 23, 24, 25, 26, 27, 28, 29, 30, 31]) (AllEq.cons e21 (AllEq.cons e22 (AllEq.cons e23 (AllEq.cons e24 (AllEq.cons e25 (AllEq.cons e26 (AllEq.cons e27 (AllEq.cons e28 (AllEq.cons e29 (AllEq.cons e30 (AllEq.cons e31 (AllEq.nil)))))))))))) hE rfl]
  clear hF hE e21 e22 e23 e24 e25 e26 e27 e28 e29 e30 e31
  simp only [List.foldl_cons, List.foldl_nil, Act.put, List.setIfInBounds_toArray, List.set_cons_succ, List.set_cons_zero]
  have C1 := B1.ext R2
  have C2 := B2.ext R2
  have C3 := B3.ext R2
  have hE2 : Ext w w2 := Below.trans hE (R2.mono hE.size)
  have q0 := C1.cell 0
  have q1 := C1.cell 1
  have p0 := C2.cell 0
  have p1 := C2.cell 1
  have f0 := C2.frozen 0
  have f1 := C2.frozen 1
  have r0 := C3.cell 0
  have r1 := C3.cell 1
  simp at q0 q1 p0 p1 f0 f1 r0 r1
  clear C1 C2 C3 R2 B1 B2 B3
  go_wp2_with fail
  exact bodyPost_ret (v := .tuple #[.int .i64 0, spotV 0 0, .bool false]) (by simp [results, Try.results54, go_sem, p0, p1]) rfl ⟨rfl, by (repeat (first | with_reducible exact Below.refl _ _ | with_reducible assumption | with_reducible apply Below.drew | with_reducible apply Z0e | (with_reducible refine Z0n ?_ ?_; focus ((try simp); (try omega); done)) | (with_reducible refine Z0o ?_ ?_; focus ((try simp); (try omega); done))))⟩

set_option maxHeartbeats 2000000 in
theorem rpread_b1 (k v c t s y x : Int) (w : World) (h0 : 0 ≤ k) (h1 : k ≤ 18446744073709551615) (h2 : 0 ≤ v) (h3 : v ≤ 18446744073709551615)
    (hc : k % 4294967296 = c) (ht : v % 256 = t) (hs : v / 256 % 1024 = s) (h : GoodPl c t s) (hy : 8589934592 + c = y) (hx : t + 256 * s = x) (hyk : ¬ y = k) :
    Calls Try.prog 54 #[pairV k v] w fun e w' => e = .returned (.tuple #[.int .i64 0, spotV 0 0, .bool false]) ∧ Ext w w' := by
  have CA := fun W => Z24 c t s W
  rw [Z1s h] at CA
  have HCA := Lib.hid CA
  have CP := fun W => rppair_yes c t s W h
  rw [hy, hx] at CP
  have HCP := Lib.hid CP
  clear h CA CP hy hx
  have e3 : v / 256 % 1024 = s := hs
  have hs0 : 0 ≤ s := by omega
  have hs1 : s < 1024 := by omega
  go_enter Try.func54, Try.ntmps54
  go_upto_region 3 with fail
  simp only [hc, ht, e3]
  have hE : Ext w (((w.alloc (.cells #[.int .u64 k, .int .u64 v] 38)).alloc (.cells #[.int .i64 0, .int .i64 0] 108)).alloc (.cells #[.int .i64 t, .int .i64 s] 108)) := by (repeat (first | with_reducible exact Below.refl _ _ | with_reducible assumption | with_reducible apply Below.drew | with_reducible apply Z0e | (with_reducible refine Z0n ?_ ?_; focus ((try simp); (try omega); done)) | (with_reducible refine Z0o ?_ ?_; focus ((try simp); (try omega); done))))
  have B1 : Blk (((w.alloc (.cells #[.int .u64 k, .int .u64 v] 38)).alloc (.cells #[.int .i64 0, .int .i64 0] 108)).alloc (.cells #[.int .i64 t, .int .i64 s] 108)) w.heap.size 38 #[.int .u64 k, .int .u64 v] := ((Blk.new _ _ _).alloc _).alloc _
  have B2 : Blk (((w.alloc (.cells #[.int .u64 k, .int .u64 v] 38)).alloc (.cells #[.int .i64 0, .int .i64 0] 108)).alloc (.cells #[.int .i64 t, .int .i64 s] 108)) (w.heap.size + 1) 108 #[.int .i64 0, .int .i64 0] := (Z28 (by simp)).alloc _
  have B3 : Blk (((w.alloc (.cells #[.int .u64 k, .int .u64 v] 38)).alloc (.cells #[.int .i64 0, .int .i64 0] 108)).alloc (.cells #[.int .i64 t, .int .i64 s] 108)) (w.heap.size + 1 + 1) 108 #[.int .i64 t, .int .i64 s] := Z28 (by simp)
  generalize (((w.alloc (.cells #[.int .u64 k, .int .u64 v] 38)).alloc (.cells #[.int .i64 0, .int .i64 0] 108)).alloc (.cells #[.int .i64 t, .int .i64 s] 108)) = w1 at hE B1 B2 B3 ⊢
  refine Z0c (R := Ext) (w0 := w1) [[], [], [0, 1], [0, 1, 2], [0, 1, 2, 3], [0, 1, 2, 3, 4], [0, 1, 2, 3, 4], [0, 1, 2, 3, 4, 5, 6], [0, 1, 2, 3, 4], [0, 1, 2, 3, 4, 5, 6, 7, 8], [0, 1, 2, 3, 4, 5, 6, 7, 8, 9]] [21, 22, 23, 24, 25, 26, 27, 28, 29, 30, 31] Ext.refl (fun _ _ _ => Ext.trans) (Ext.drew _) (by kernel_rfl) ?_
  apply Build.det 21 Ext.refl (by rfl) (by rfl) rfl
  case h =>
    intro ax wx hE hR hF
    have e5 : ax.eval (.tmp 5) = .int .i64 c := hE.eval 5 (by rfl) rfl
    simp [go_sem, ↓IntWalk.iteOmega, ev e5, hyk]
    with_reducible rfl
  apply Build.det 22 Ext.refl (by rfl) (by rfl) rfl
  case h =>
    intro ax wx hE hR hF
    have e6 : ax.eval (.tmp 6) = .pointer (some ⟨w.heap.size + 1 + 1, 0, none⟩) := hE.eval 6 (by rfl) rfl
    have hX := B1.ext hR; have hY := B3.ext hR; have q0 := hX.cell 0; have q1 := hX.cell 1; have p0 := hY.cell 0; have p1 := hY.cell 1; simp at q0 q1 p0 p1
    simp [go_sem, ↓IntWalk.iteOmega, ev e6, hyk, q0, q1, p0, p1]
    with_reducible rfl
  apply Build.call 23 Ext.refl (by rfl) (by rfl) rfl
  case h =>
    intro ax wx hE hR hF
    have e21 := hF 0 (det 21 _) (by decide) (.tail _ (.head _))
    have e22 := hF 1 (det 22 _) (by decide) (.head _)
    simp [go_sem, ↓IntWalk.iteOmega, ev e21, ev e22, hyk]
    with_reducible exact ⟨rfl, rfl⟩
  case hc => intro wx hR; with_reducible exact HCA.out wx
  apply Build.det 24 Ext.refl (by rfl) (by rfl) rfl
  case h =>
    intro ax wx hE hR hF
    have e23 := hF 2 (det 23 _) (by decide) (.head _)
    simp [go_sem, ↓IntWalk.iteOmega, ev e23, hyk]
    with_reducible rfl
  apply Build.det 25 Ext.refl (by rfl) (by rfl) rfl
  case h =>
    intro ax wx hE hR hF
    have e24 := hF 3 (det 24 _) (by decide) (.head _)
    simp [go_sem, ↓IntWalk.iteOmega, ev e24, hyk]
    with_reducible rfl
  apply Build.detg 26 Ext.refl (by rfl) (by rfl) rfl rfl
  case h =>
    intro ax wx hE hR hF
    have e5 : ax.eval (.tmp 5) = .int .i64 c := hE.eval 5 (by rfl) rfl
    have e25 := hF 4 (det 25 _) (by decide) (.head _)
    refine ⟨e25, ?_⟩
    simp [go_sem, ↓IntWalk.iteOmega, ev e5, ev e25, hyk]
    with_reducible rfl
  apply Build.detg 27 Ext.refl (by rfl) (by rfl) rfl rfl
  case h =>
    intro ax wx hE hR hF
    have e6 : ax.eval (.tmp 6) = .pointer (some ⟨w.heap.size + 1 + 1, 0, none⟩) := hE.eval 6 (by rfl) rfl
    have e25 := hF 4 (det 25 _) (by decide) (.tail _ (.head _))
    have hX := B1.ext hR; have hY := B3.ext hR; have q0 := hX.cell 0; have q1 := hX.cell 1; have p0 := hY.cell 0; have p1 := hY.cell 1; simp at q0 q1 p0 p1
    refine ⟨e25, ?_⟩
    simp [go_sem, ↓IntWalk.iteOmega, ev e6, ev e25, hyk, q0, q1, p0, p1]
    with_reducible rfl
  apply Build.callg 28 Ext.refl (by rfl) (by rfl) rfl rfl
  case h =>
    intro ax wx hE hR hF
    have e25 := hF 4 (det 25 _) (by decide) (.tail _ (.tail _ (.head _)))
    have e26 := hF 5 (det 26 _) (by decide) (.tail _ (.head _))
    have e27 := hF 6 (det 27 _) (by decide) (.head _)
    refine ⟨e25, ?_⟩
    simp [go_sem, ↓IntWalk.iteOmega, ev e25, ev e26, ev e27, hyk]
    with_reducible exact ⟨rfl, rfl⟩
  case hc => intro wx hR; with_reducible exact HCP.out wx
  apply Build.detg 29 Ext.refl (by rfl) (by rfl) rfl rfl
  case h =>
    intro ax wx hE hR hF
    have e1 : ax.eval (.tmp 1) = .pointer (some ⟨w.heap.size, 0, none⟩) := hE.eval 1 (by rfl) rfl
    have e25 := hF 4 (det 25 _) (by decide) (.tail _ (.tail _ (.tail _ (.head _))))
    have hX := B1.ext hR; have hY := B3.ext hR; have q0 := hX.cell 0; have q1 := hX.cell 1; have p0 := hY.cell 0; have p1 := hY.cell 1; simp at q0 q1 p0 p1
    refine ⟨e25, ?_⟩
    simp [go_sem, ↓IntWalk.iteOmega, ev e1, ev e25, hyk, q0, q1, p0, p1]
    with_reducible rfl
  apply Build.detg 30 Ext.refl (by rfl) (by rfl) rfl rfl
  case h =>
    intro ax wx hE hR hF
    have e25 := hF 4 (det 25 _) (by decide) (.tail _ (.tail _ (.tail _ (.tail _ (.head _)))))
    have e28 := hF 7 (det 28 _) (by decide) (.tail _ (.head _))
    have e29 := hF 8 (det 29 _) (by decide) (.head _)
    refine ⟨e25, ?_⟩
    simp [go_sem, ↓IntWalk.iteOmega, ev e25, ev e28, ev e29, hyk]
    with_reducible rfl
  apply Build.det 31 Ext.refl (by rfl) (by rfl) rfl
  case h =>
    intro ax wx hE hR hF
    have e25 := hF 4 (det 25 _) (by decide) (.tail _ (.tail _ (.tail _ (.tail _ (.tail _ (.head _))))))
    have e30 := hF 9 (det 30 _) (by decide) (.head _)
    simp [go_sem, ↓IntWalk.iteOmega, ev e25, ev e30, hyk]
    with_reducible rfl
  apply Build.stop
  refine ⟨by kernel_rfl, .inl ⟨rfl, ?_⟩⟩
  intro ax w2 hE R2 hF
  have e21 := hF 0 (det 21 _) (.tail _ (.tail _ (.tail _ (.tail _ (.tail _ (.tail _ (.tail _ (.tail _ (.tail _ (.tail _ (.head _)))))))))))
  have e22 := hF 1 (det 22 _) (.tail _ (.tail _ (.tail _ (.tail _ (.tail _ (.tail _ (.tail _ (.tail _ (.tail _ (.head _))))))))))
  have e23 := hF 2 (det 23 _) (.tail _ (.tail _ (.tail _ (.tail _ (.tail _ (.tail _ (.tail _ (.tail _ (.head _)))))))))
  have e24 := hF 3 (det 24 _) (.tail _ (.tail _ (.tail _ (.tail _ (.tail _ (.tail _ (.tail _ (.head _))))))))
  have e25 := hF 4 (det 25 _) (.tail _ (.tail _ (.tail _ (.tail _ (.tail _ (.tail _ (.head _)))))))
  have e26 := hF 5 (det 26 _) (.tail _ (.tail _ (.tail _ (.tail _ (.tail _ (.head _))))))
  have e27 := hF 6 (det 27 _) (.tail _ (.tail _ (.tail _ (.tail _ (.head _)))))
  have e28 := hF 7 (det 28 _) (.tail _ (.tail _ (.tail _ (.head _))))
  have e29 := hF 8 (det 29 _) (.tail _ (.tail _ (.head _)))
  have e30 := hF 9 (det 30 _) (.tail _ (.head _))
  have e31 := hF 10 (det 31 _) (.head _)
  rw [AllEq.frame (D := [21, 22, 23, 24, 25, 26, 27, 28, 29, 30, 31]) (AllEq.cons e21 (AllEq.cons e22 (AllEq.cons e23 (AllEq.cons e24 (AllEq.cons e25 (AllEq.cons e26 (AllEq.cons e27 (AllEq.cons e28 (AllEq.cons e29 (AllEq.cons e30 (AllEq.cons e31 (AllEq.nil)))))))))))) hE rfl]
  clear hF hE e21 e22 e23 e24 e25 e26 e27 e28 e29 e30 e31
  simp only [List.foldl_cons, List.foldl_nil, Act.put, List.setIfInBounds_toArray, List.set_cons_succ, List.set_cons_zero]
  have C1 := B1.ext R2
  have C2 := B2.ext R2
  have C3 := B3.ext R2
  have hE2 : Ext w w2 := Below.trans hE (R2.mono hE.size)
  have q0 := C1.cell 0
  have q1 := C1.cell 1
  have p0 := C2.cell 0
  have p1 := C2.cell 1
  have f0 := C2.frozen 0
  have f1 := C2.frozen 1
  have r0 := C3.cell 0
  have r1 := C3.cell 1
  simp at q0 q1 p0 p1 f0 f1 r0 r1
  clear C1 C2 C3 R2 B1 B2 B3
  go_wp2_with fail
  exact bodyPost_ret (v := .tuple #[.int .i64 0, spotV 0 0, .bool false]) (by simp [results, Try.results54, go_sem, p0, p1]) rfl ⟨rfl, by (repeat (first | with_reducible exact Below.refl _ _ | with_reducible assumption | with_reducible apply Below.drew | with_reducible apply Z0e | (with_reducible refine Z0n ?_ ?_; focus ((try simp); (try omega); done)) | (with_reducible refine Z0o ?_ ?_; focus ((try simp); (try omega); done))))⟩

set_option maxHeartbeats 2000000 in
theorem rpread_b2 (k v c t s x : Int) (w : World) (h0 : 0 ≤ k) (h1 : k ≤ 18446744073709551615) (h2 : 0 ≤ v) (h3 : v ≤ 18446744073709551615)
    (hc : k % 4294967296 = c) (ht : v % 256 = t) (hs : v / 256 % 1024 = s) (h : GoodPl c t s) (hy : 8589934592 + c = k) (hx : t + 256 * s = x) (hxv : ¬ x = v) :
    Calls Try.prog 54 #[pairV k v] w fun e w' => e = .returned (.tuple #[.int .i64 0, spotV 0 0, .bool false]) ∧ Ext w w' := by
  have CA := fun W => Z24 c t s W
  rw [Z1s h] at CA
  have HCA := Lib.hid CA
  have CP := fun W => rppair_yes c t s W h
  rw [hy, hx] at CP
  have HCP := Lib.hid CP
  clear h CA CP hy hx
  have e3 : v / 256 % 1024 = s := hs
  have hs0 : 0 ≤ s := by omega
  have hs1 : s < 1024 := by omega
  go_enter Try.func54, Try.ntmps54
  go_upto_region 3 with fail
  simp only [hc, ht, e3]
  have hE : Ext w (((w.alloc (.cells #[.int .u64 k, .int .u64 v] 38)).alloc (.cells #[.int .i64 0, .int .i64 0] 108)).alloc (.cells #[.int .i64 t, .int .i64 s] 108)) := by (repeat (first | with_reducible exact Below.refl _ _ | with_reducible assumption | with_reducible apply Below.drew | with_reducible apply Z0e | (with_reducible refine Z0n ?_ ?_; focus ((try simp); (try omega); done)) | (with_reducible refine Z0o ?_ ?_; focus ((try simp); (try omega); done))))
  have B1 : Blk (((w.alloc (.cells #[.int .u64 k, .int .u64 v] 38)).alloc (.cells #[.int .i64 0, .int .i64 0] 108)).alloc (.cells #[.int .i64 t, .int .i64 s] 108)) w.heap.size 38 #[.int .u64 k, .int .u64 v] := ((Blk.new _ _ _).alloc _).alloc _
  have B2 : Blk (((w.alloc (.cells #[.int .u64 k, .int .u64 v] 38)).alloc (.cells #[.int .i64 0, .int .i64 0] 108)).alloc (.cells #[.int .i64 t, .int .i64 s] 108)) (w.heap.size + 1) 108 #[.int .i64 0, .int .i64 0] := (Z28 (by simp)).alloc _
  have B3 : Blk (((w.alloc (.cells #[.int .u64 k, .int .u64 v] 38)).alloc (.cells #[.int .i64 0, .int .i64 0] 108)).alloc (.cells #[.int .i64 t, .int .i64 s] 108)) (w.heap.size + 1 + 1) 108 #[.int .i64 t, .int .i64 s] := Z28 (by simp)
  generalize (((w.alloc (.cells #[.int .u64 k, .int .u64 v] 38)).alloc (.cells #[.int .i64 0, .int .i64 0] 108)).alloc (.cells #[.int .i64 t, .int .i64 s] 108)) = w1 at hE B1 B2 B3 ⊢
  refine Z0c (R := Ext) (w0 := w1) [[], [], [0, 1], [0, 1, 2], [0, 1, 2, 3], [0, 1, 2, 3, 4], [0, 1, 2, 3, 4], [0, 1, 2, 3, 4, 5, 6], [0, 1, 2, 3, 4], [0, 1, 2, 3, 4, 5, 6, 7, 8], [0, 1, 2, 3, 4, 5, 6, 7, 8, 9]] [21, 22, 23, 24, 25, 26, 27, 28, 29, 30, 31] Ext.refl (fun _ _ _ => Ext.trans) (Ext.drew _) (by kernel_rfl) ?_
  apply Build.det 21 Ext.refl (by rfl) (by rfl) rfl
  case h =>
    intro ax wx hE hR hF
    have e5 : ax.eval (.tmp 5) = .int .i64 c := hE.eval 5 (by rfl) rfl
    simp [go_sem, ↓IntWalk.iteOmega, ev e5, hxv]
    with_reducible rfl
  apply Build.det 22 Ext.refl (by rfl) (by rfl) rfl
  case h =>
    intro ax wx hE hR hF
    have e6 : ax.eval (.tmp 6) = .pointer (some ⟨w.heap.size + 1 + 1, 0, none⟩) := hE.eval 6 (by rfl) rfl
    have hX := B1.ext hR; have hY := B3.ext hR; have q0 := hX.cell 0; have q1 := hX.cell 1; have p0 := hY.cell 0; have p1 := hY.cell 1; simp at q0 q1 p0 p1
    simp [go_sem, ↓IntWalk.iteOmega, ev e6, hxv, q0, q1, p0, p1]
    with_reducible rfl
  apply Build.call 23 Ext.refl (by rfl) (by rfl) rfl
  case h =>
    intro ax wx hE hR hF
    have e21 := hF 0 (det 21 _) (by decide) (.tail _ (.head _))
    have e22 := hF 1 (det 22 _) (by decide) (.head _)
    simp [go_sem, ↓IntWalk.iteOmega, ev e21, ev e22, hxv]
    with_reducible exact ⟨rfl, rfl⟩
  case hc => intro wx hR; with_reducible exact HCA.out wx
  apply Build.det 24 Ext.refl (by rfl) (by rfl) rfl
  case h =>
    intro ax wx hE hR hF
    have e23 := hF 2 (det 23 _) (by decide) (.head _)
    simp [go_sem, ↓IntWalk.iteOmega, ev e23, hxv]
    with_reducible rfl
  apply Build.det 25 Ext.refl (by rfl) (by rfl) rfl
  case h =>
    intro ax wx hE hR hF
    have e24 := hF 3 (det 24 _) (by decide) (.head _)
    simp [go_sem, ↓IntWalk.iteOmega, ev e24, hxv]
    with_reducible rfl
  apply Build.detg 26 Ext.refl (by rfl) (by rfl) rfl rfl
  case h =>
    intro ax wx hE hR hF
    have e5 : ax.eval (.tmp 5) = .int .i64 c := hE.eval 5 (by rfl) rfl
    have e25 := hF 4 (det 25 _) (by decide) (.head _)
    refine ⟨e25, ?_⟩
    simp [go_sem, ↓IntWalk.iteOmega, ev e5, ev e25, hxv]
    with_reducible rfl
  apply Build.detg 27 Ext.refl (by rfl) (by rfl) rfl rfl
  case h =>
    intro ax wx hE hR hF
    have e6 : ax.eval (.tmp 6) = .pointer (some ⟨w.heap.size + 1 + 1, 0, none⟩) := hE.eval 6 (by rfl) rfl
    have e25 := hF 4 (det 25 _) (by decide) (.tail _ (.head _))
    have hX := B1.ext hR; have hY := B3.ext hR; have q0 := hX.cell 0; have q1 := hX.cell 1; have p0 := hY.cell 0; have p1 := hY.cell 1; simp at q0 q1 p0 p1
    refine ⟨e25, ?_⟩
    simp [go_sem, ↓IntWalk.iteOmega, ev e6, ev e25, hxv, q0, q1, p0, p1]
    with_reducible rfl
  apply Build.callg 28 Ext.refl (by rfl) (by rfl) rfl rfl
  case h =>
    intro ax wx hE hR hF
    have e25 := hF 4 (det 25 _) (by decide) (.tail _ (.tail _ (.head _)))
    have e26 := hF 5 (det 26 _) (by decide) (.tail _ (.head _))
    have e27 := hF 6 (det 27 _) (by decide) (.head _)
    refine ⟨e25, ?_⟩
    simp [go_sem, ↓IntWalk.iteOmega, ev e25, ev e26, ev e27, hxv]
    with_reducible exact ⟨rfl, rfl⟩
  case hc => intro wx hR; with_reducible exact HCP.out wx
  apply Build.detg 29 Ext.refl (by rfl) (by rfl) rfl rfl
  case h =>
    intro ax wx hE hR hF
    have e1 : ax.eval (.tmp 1) = .pointer (some ⟨w.heap.size, 0, none⟩) := hE.eval 1 (by rfl) rfl
    have e25 := hF 4 (det 25 _) (by decide) (.tail _ (.tail _ (.tail _ (.head _))))
    have hX := B1.ext hR; have hY := B3.ext hR; have q0 := hX.cell 0; have q1 := hX.cell 1; have p0 := hY.cell 0; have p1 := hY.cell 1; simp at q0 q1 p0 p1
    refine ⟨e25, ?_⟩
    simp [go_sem, ↓IntWalk.iteOmega, ev e1, ev e25, hxv, q0, q1, p0, p1]
    with_reducible rfl
  apply Build.detg 30 Ext.refl (by rfl) (by rfl) rfl rfl
  case h =>
    intro ax wx hE hR hF
    have e25 := hF 4 (det 25 _) (by decide) (.tail _ (.tail _ (.tail _ (.tail _ (.head _)))))
    have e28 := hF 7 (det 28 _) (by decide) (.tail _ (.head _))
    have e29 := hF 8 (det 29 _) (by decide) (.head _)
    refine ⟨e25, ?_⟩
    simp [go_sem, ↓IntWalk.iteOmega, ev e25, ev e28, ev e29, hxv]
    with_reducible rfl
  apply Build.det 31 Ext.refl (by rfl) (by rfl) rfl
  case h =>
    intro ax wx hE hR hF
    have e25 := hF 4 (det 25 _) (by decide) (.tail _ (.tail _ (.tail _ (.tail _ (.tail _ (.head _))))))
    have e30 := hF 9 (det 30 _) (by decide) (.head _)
    simp [go_sem, ↓IntWalk.iteOmega, ev e25, ev e30, hxv]
    with_reducible rfl
  apply Build.stop
  refine ⟨by kernel_rfl, .inl ⟨rfl, ?_⟩⟩
  intro ax w2 hE R2 hF
  have e21 := hF 0 (det 21 _) (.tail _ (.tail _ (.tail _ (.tail _ (.tail _ (.tail _ (.tail _ (.tail _ (.tail _ (.tail _ (.head _)))))))))))
  have e22 := hF 1 (det 22 _) (.tail _ (.tail _ (.tail _ (.tail _ (.tail _ (.tail _ (.tail _ (.tail _ (.tail _ (.head _))))))))))
  have e23 := hF 2 (det 23 _) (.tail _ (.tail _ (.tail _ (.tail _ (.tail _ (.tail _ (.tail _ (.tail _ (.head _)))))))))
  have e24 := hF 3 (det 24 _) (.tail _ (.tail _ (.tail _ (.tail _ (.tail _ (.tail _ (.tail _ (.head _))))))))
  have e25 := hF 4 (det 25 _) (.tail _ (.tail _ (.tail _ (.tail _ (.tail _ (.tail _ (.head _)))))))
  have e26 := hF 5 (det 26 _) (.tail _ (.tail _ (.tail _ (.tail _ (.tail _ (.head _))))))
  have e27 := hF 6 (det 27 _) (.tail _ (.tail _ (.tail _ (.tail _ (.head _)))))
  have e28 := hF 7 (det 28 _) (.tail _ (.tail _ (.tail _ (.head _))))
  have e29 := hF 8 (det 29 _) (.tail _ (.tail _ (.head _)))
  have e30 := hF 9 (det 30 _) (.tail _ (.head _))
  have e31 := hF 10 (det 31 _) (.head _)
  rw [AllEq.frame (D := [21, 22, 23, 24, 25, 26, 27, 28, 29, 30, 31]) (AllEq.cons e21 (AllEq.cons e22 (AllEq.cons e23 (AllEq.cons e24 (AllEq.cons e25 (AllEq.cons e26 (AllEq.cons e27 (AllEq.cons e28 (AllEq.cons e29 (AllEq.cons e30 (AllEq.cons e31 (AllEq.nil)))))))))))) hE rfl]
  clear hF hE e21 e22 e23 e24 e25 e26 e27 e28 e29 e30 e31
  simp only [List.foldl_cons, List.foldl_nil, Act.put, List.setIfInBounds_toArray, List.set_cons_succ, List.set_cons_zero]
  have C1 := B1.ext R2
  have C2 := B2.ext R2
  have C3 := B3.ext R2
  have hE2 : Ext w w2 := Below.trans hE (R2.mono hE.size)
  have q0 := C1.cell 0
  have q1 := C1.cell 1
  have p0 := C2.cell 0
  have p1 := C2.cell 1
  have f0 := C2.frozen 0
  have f1 := C2.frozen 1
  have r0 := C3.cell 0
  have r1 := C3.cell 1
  simp at q0 q1 p0 p1 f0 f1 r0 r1
  clear C1 C2 C3 R2 B1 B2 B3
  go_wp2_with fail
  exact bodyPost_ret (v := .tuple #[.int .i64 0, spotV 0 0, .bool false]) (by simp [results, Try.results54, go_sem, p0, p1]) rfl ⟨rfl, by (repeat (first | with_reducible exact Below.refl _ _ | with_reducible assumption | with_reducible apply Below.drew | with_reducible apply Z0e | (with_reducible refine Z0n ?_ ?_; focus ((try simp); (try omega); done)) | (with_reducible refine Z0o ?_ ?_; focus ((try simp); (try omega); done))))⟩

set_option maxHeartbeats 2000000 in
theorem rpread_c (k v c t s : Int) (w : World) (h0 : 0 ≤ k) (h1 : k ≤ 18446744073709551615) (h2 : 0 ≤ v) (h3 : v ≤ 18446744073709551615)
    (hc : k % 4294967296 = c) (ht : v % 256 = t) (hs : v / 256 % 1024 = s) (h : GoodPl c t s) (hy : 8589934592 + c = k) (hx : t + 256 * s = v) :
    Calls Try.prog 54 #[pairV k v] w fun e w' => e = .returned (.tuple #[.int .i64 c, spotV t s, .bool true]) ∧ Ext w w' := by
  have CA := fun W => Z24 c t s W
  rw [Z1s h] at CA
  have HCA := Lib.hid CA
  have CP := fun W => rppair_yes c t s W h
  rw [hy, hx] at CP
  have HCP := Lib.hid CP
  clear h CA CP hy hx
  have e3 : v / 256 % 1024 = s := hs
  have hs0 : 0 ≤ s := by omega
  have hs1 : s < 1024 := by omega
  go_enter Try.func54, Try.ntmps54
  go_upto_region 3 with fail
  simp only [hc, ht, e3]
  have hE : Ext w (((w.alloc (.cells #[.int .u64 k, .int .u64 v] 38)).alloc (.cells #[.int .i64 0, .int .i64 0] 108)).alloc (.cells #[.int .i64 t, .int .i64 s] 108)) := by (repeat (first | with_reducible exact Below.refl _ _ | with_reducible assumption | with_reducible apply Below.drew | with_reducible apply Z0e | (with_reducible refine Z0n ?_ ?_; focus ((try simp); (try omega); done)) | (with_reducible refine Z0o ?_ ?_; focus ((try simp); (try omega); done))))
  have B1 : Blk (((w.alloc (.cells #[.int .u64 k, .int .u64 v] 38)).alloc (.cells #[.int .i64 0, .int .i64 0] 108)).alloc (.cells #[.int .i64 t, .int .i64 s] 108)) w.heap.size 38 #[.int .u64 k, .int .u64 v] := ((Blk.new _ _ _).alloc _).alloc _
  have B2 : Blk (((w.alloc (.cells #[.int .u64 k, .int .u64 v] 38)).alloc (.cells #[.int .i64 0, .int .i64 0] 108)).alloc (.cells #[.int .i64 t, .int .i64 s] 108)) (w.heap.size + 1) 108 #[.int .i64 0, .int .i64 0] := (Z28 (by simp)).alloc _
  have B3 : Blk (((w.alloc (.cells #[.int .u64 k, .int .u64 v] 38)).alloc (.cells #[.int .i64 0, .int .i64 0] 108)).alloc (.cells #[.int .i64 t, .int .i64 s] 108)) (w.heap.size + 1 + 1) 108 #[.int .i64 t, .int .i64 s] := Z28 (by simp)
  generalize (((w.alloc (.cells #[.int .u64 k, .int .u64 v] 38)).alloc (.cells #[.int .i64 0, .int .i64 0] 108)).alloc (.cells #[.int .i64 t, .int .i64 s] 108)) = w1 at hE B1 B2 B3 ⊢
  refine Z0c (R := Ext) (w0 := w1) [[], [], [0, 1], [0, 1, 2], [0, 1, 2, 3], [0, 1, 2, 3, 4], [0, 1, 2, 3, 4], [0, 1, 2, 3, 4, 5, 6], [0, 1, 2, 3, 4], [0, 1, 2, 3, 4, 5, 6, 7, 8], [0, 1, 2, 3, 4, 5, 6, 7, 8, 9]] [21, 22, 23, 24, 25, 26, 27, 28, 29, 30, 31] Ext.refl (fun _ _ _ => Ext.trans) (Ext.drew _) (by kernel_rfl) ?_
  apply Build.det 21 Ext.refl (by rfl) (by rfl) rfl
  case h =>
    intro ax wx hE hR hF
    have e5 : ax.eval (.tmp 5) = .int .i64 c := hE.eval 5 (by rfl) rfl
    simp [go_sem, ↓IntWalk.iteOmega, ev e5]
    with_reducible rfl
  apply Build.det 22 Ext.refl (by rfl) (by rfl) rfl
  case h =>
    intro ax wx hE hR hF
    have e6 : ax.eval (.tmp 6) = .pointer (some ⟨w.heap.size + 1 + 1, 0, none⟩) := hE.eval 6 (by rfl) rfl
    have hX := B1.ext hR; have hY := B3.ext hR; have q0 := hX.cell 0; have q1 := hX.cell 1; have p0 := hY.cell 0; have p1 := hY.cell 1; simp at q0 q1 p0 p1
    simp [go_sem, ↓IntWalk.iteOmega, ev e6, q0, q1, p0, p1]
    with_reducible rfl
  apply Build.call 23 Ext.refl (by rfl) (by rfl) rfl
  case h =>
    intro ax wx hE hR hF
    have e21 := hF 0 (det 21 _) (by decide) (.tail _ (.head _))
    have e22 := hF 1 (det 22 _) (by decide) (.head _)
    simp [go_sem, ↓IntWalk.iteOmega, ev e21, ev e22]
    with_reducible exact ⟨rfl, rfl⟩
  case hc => intro wx hR; with_reducible exact HCA.out wx
  apply Build.det 24 Ext.refl (by rfl) (by rfl) rfl
  case h =>
    intro ax wx hE hR hF
    have e23 := hF 2 (det 23 _) (by decide) (.head _)
    simp [go_sem, ↓IntWalk.iteOmega, ev e23]
    with_reducible rfl
  apply Build.det 25 Ext.refl (by rfl) (by rfl) rfl
  case h =>
    intro ax wx hE hR hF
    have e24 := hF 3 (det 24 _) (by decide) (.head _)
    simp [go_sem, ↓IntWalk.iteOmega, ev e24]
    with_reducible rfl
  apply Build.detg 26 Ext.refl (by rfl) (by rfl) rfl rfl
  case h =>
    intro ax wx hE hR hF
    have e5 : ax.eval (.tmp 5) = .int .i64 c := hE.eval 5 (by rfl) rfl
    have e25 := hF 4 (det 25 _) (by decide) (.head _)
    refine ⟨e25, ?_⟩
    simp [go_sem, ↓IntWalk.iteOmega, ev e5, ev e25]
    with_reducible rfl
  apply Build.detg 27 Ext.refl (by rfl) (by rfl) rfl rfl
  case h =>
    intro ax wx hE hR hF
    have e6 : ax.eval (.tmp 6) = .pointer (some ⟨w.heap.size + 1 + 1, 0, none⟩) := hE.eval 6 (by rfl) rfl
    have e25 := hF 4 (det 25 _) (by decide) (.tail _ (.head _))
    have hX := B1.ext hR; have hY := B3.ext hR; have q0 := hX.cell 0; have q1 := hX.cell 1; have p0 := hY.cell 0; have p1 := hY.cell 1; simp at q0 q1 p0 p1
    refine ⟨e25, ?_⟩
    simp [go_sem, ↓IntWalk.iteOmega, ev e6, ev e25, q0, q1, p0, p1]
    with_reducible rfl
  apply Build.callg 28 Ext.refl (by rfl) (by rfl) rfl rfl
  case h =>
    intro ax wx hE hR hF
    have e25 := hF 4 (det 25 _) (by decide) (.tail _ (.tail _ (.head _)))
    have e26 := hF 5 (det 26 _) (by decide) (.tail _ (.head _))
    have e27 := hF 6 (det 27 _) (by decide) (.head _)
    refine ⟨e25, ?_⟩
    simp [go_sem, ↓IntWalk.iteOmega, ev e25, ev e26, ev e27]
    with_reducible exact ⟨rfl, rfl⟩
  case hc => intro wx hR; with_reducible exact HCP.out wx
  apply Build.detg 29 Ext.refl (by rfl) (by rfl) rfl rfl
  case h =>
    intro ax wx hE hR hF
    have e1 : ax.eval (.tmp 1) = .pointer (some ⟨w.heap.size, 0, none⟩) := hE.eval 1 (by rfl) rfl
    have e25 := hF 4 (det 25 _) (by decide) (.tail _ (.tail _ (.tail _ (.head _))))
    have hX := B1.ext hR; have hY := B3.ext hR; have q0 := hX.cell 0; have q1 := hX.cell 1; have p0 := hY.cell 0; have p1 := hY.cell 1; simp at q0 q1 p0 p1
    refine ⟨e25, ?_⟩
    simp [go_sem, ↓IntWalk.iteOmega, ev e1, ev e25, q0, q1, p0, p1]
    with_reducible rfl
  apply Build.detg 30 Ext.refl (by rfl) (by rfl) rfl rfl
  case h =>
    intro ax wx hE hR hF
    have e25 := hF 4 (det 25 _) (by decide) (.tail _ (.tail _ (.tail _ (.tail _ (.head _)))))
    have e28 := hF 7 (det 28 _) (by decide) (.tail _ (.head _))
    have e29 := hF 8 (det 29 _) (by decide) (.head _)
    refine ⟨e25, ?_⟩
    simp [go_sem, ↓IntWalk.iteOmega, ev e25, ev e28, ev e29]
    with_reducible rfl
  apply Build.det 31 Ext.refl (by rfl) (by rfl) rfl
  case h =>
    intro ax wx hE hR hF
    have e25 := hF 4 (det 25 _) (by decide) (.tail _ (.tail _ (.tail _ (.tail _ (.tail _ (.head _))))))
    have e30 := hF 9 (det 30 _) (by decide) (.head _)
    simp [go_sem, ↓IntWalk.iteOmega, ev e25, ev e30]
    with_reducible rfl
  apply Build.stop
  refine ⟨by kernel_rfl, .inl ⟨rfl, ?_⟩⟩
  intro ax w2 hE R2 hF
  have e21 := hF 0 (det 21 _) (.tail _ (.tail _ (.tail _ (.tail _ (.tail _ (.tail _ (.tail _ (.tail _ (.tail _ (.tail _ (.head _)))))))))))
  have e22 := hF 1 (det 22 _) (.tail _ (.tail _ (.tail _ (.tail _ (.tail _ (.tail _ (.tail _ (.tail _ (.tail _ (.head _))))))))))
  have e23 := hF 2 (det 23 _) (.tail _ (.tail _ (.tail _ (.tail _ (.tail _ (.tail _ (.tail _ (.tail _ (.head _)))))))))
  have e24 := hF 3 (det 24 _) (.tail _ (.tail _ (.tail _ (.tail _ (.tail _ (.tail _ (.tail _ (.head _))))))))
  have e25 := hF 4 (det 25 _) (.tail _ (.tail _ (.tail _ (.tail _ (.tail _ (.tail _ (.head _)))))))
  have e26 := hF 5 (det 26 _) (.tail _ (.tail _ (.tail _ (.tail _ (.tail _ (.head _))))))
  have e27 := hF 6 (det 27 _) (.tail _ (.tail _ (.tail _ (.tail _ (.head _)))))
  have e28 := hF 7 (det 28 _) (.tail _ (.tail _ (.tail _ (.head _))))
  have e29 := hF 8 (det 29 _) (.tail _ (.tail _ (.head _)))
  have e30 := hF 9 (det 30 _) (.tail _ (.head _))
  have e31 := hF 10 (det 31 _) (.head _)
  rw [AllEq.frame (D := [21, 22, 23, 24, 25, 26, 27, 28, 29, 30, 31]) (AllEq.cons e21 (AllEq.cons e22 (AllEq.cons e23 (AllEq.cons e24 (AllEq.cons e25 (AllEq.cons e26 (AllEq.cons e27 (AllEq.cons e28 (AllEq.cons e29 (AllEq.cons e30 (AllEq.cons e31 (AllEq.nil)))))))))))) hE rfl]
  clear hF hE e21 e22 e23 e24 e25 e26 e27 e28 e29 e30 e31
  simp only [List.foldl_cons, List.foldl_nil, Act.put, List.setIfInBounds_toArray, List.set_cons_succ, List.set_cons_zero]
  have C1 := B1.ext R2
  have C2 := B2.ext R2
  have C3 := B3.ext R2
  have hE2 : Ext w w2 := Below.trans hE (R2.mono hE.size)
  have q0 := C1.cell 0
  have q1 := C1.cell 1
  have p0 := C2.cell 0
  have p1 := C2.cell 1
  have f0 := C2.frozen 0
  have f1 := C2.frozen 1
  have r0 := C3.cell 0
  have r1 := C3.cell 1
  simp at q0 q1 p0 p1 f0 f1 r0 r1
  clear C1 C2 C3 R2 B1 B2 B3
  go_upto_region 5 with fail
  go_region_with fail
  all_goals
    go_wp2_with fail
    exact bodyPost_ret (v := .tuple #[.int .i64 c, spotV t s, .bool true]) (by simp [results, Try.results54, go_sem, p0, p1]) rfl ⟨rfl, by (repeat (first | with_reducible exact Below.refl _ _ | with_reducible assumption | with_reducible apply Below.drew | with_reducible apply Z0e | (with_reducible refine Z0n ?_ ?_; focus ((try simp); (try omega); done)) | (with_reducible refine Z0o ?_ ?_; focus ((try simp); (try omega); done))))⟩


theorem goodPl_slot {k v : Int} (h : GoodPl (k % 4294967296) (v % 256) (v / 256 % 1024)) (hv0 : 0 ≤ v) (hx : v % 256 + 256 * (v / 256 % 1024) = v) : v / 256 % 1024 = v / 256 := by
  omega
/-- Both reads of a pair. -/
theorem both_places (k v : Int) (h0 : 0 ≤ k) (h1 : k ≤ 18446744073709551615) (h2 : 0 ≤ v) (h3 : v ≤ 18446744073709551615) : ∃ (c t s : Int) (b : Bool),
    (∀ w : World, Calls Try.prog 72 #[pairV k v] w fun e w' => e = .returned (.tuple #[placeV c t s, .bool b]) ∧ Ext w w') ∧
    (∀ w : World, Calls Try.prog 54 #[pairV k v] w fun e w' => e = .returned (.tuple #[.int .i64 c, spotV t s, .bool b]) ∧ Ext w w') := by
  by_cases h : PlOk k v
  · obtain ⟨g, hk⟩ := id h
    have hs : v / 256 % 1024 = v / 256 := by obtain ⟨_, _, _, _, _⟩ := g; omega
    exact ⟨_, _, _, true, fun w => pread_yes k v w h0 h1 h2 h3 h, fun w => rpread_c k v _ _ _ w h0 h1 h2 h3 rfl rfl hs g hk (by omega)⟩
  · refine ⟨0, 0, 0, false, fun w => pread_no k v w h0 h1 h2 h3 h, fun w => ?_⟩
    by_cases g : GoodPl (k % 4294967296) (v % 256) (v / 256 % 1024)
    · by_cases hy : 8589934592 + k % 4294967296 = k
      · refine rpread_b2 k v _ _ _ _ w h0 h1 h2 h3 rfl rfl rfl g hy rfl (fun hx => h ⟨?_, hy⟩)
        rw [goodPl_slot g h2 hx] at g
        exact g
      · exact rpread_b1 k v _ _ _ _ _ w h0 h1 h2 h3 rfl rfl rfl g rfl rfl hy
    · exact rpread_a k v _ _ _ w h0 h1 h2 h3 rfl rfl rfl g
end Go.Proofs.Ytngehbhhpkkijaa
