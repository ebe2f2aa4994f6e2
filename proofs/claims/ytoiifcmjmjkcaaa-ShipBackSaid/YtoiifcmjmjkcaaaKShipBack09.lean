/- diff: the closure far of Apply, and slices.ContainsFunc of it; copy onto bytes. -/
import Derived.Test.YtoiifcmjmjkcaaaKShipBack08
import Derived.Lib.LazyBuf
namespace Go.Proofs.Ytoiifcmjmjkcaaa
set_option linter.unusedVariables false
set_option linter.unusedSimpArgs false
open Go.RowKit

def farX (n : Nat) (x : Nat × ByteArray) : Bool := decide (n < x.1) || decide (n - x.1 < x.2.size / 16)
set_option maxHeartbeats 1000000 in
theorem dfar_any (k : Nat) (d : ByteArray) (n g : Nat) (w : World) (hk : k ≤ 1099511627776) (hd : d.size ≤ 1099511627776) (hn : n ≤ 1099511627776) (hc : w.cell? ⟨g, 0, none⟩ = some (.int .i64 n)) (hg : g < w.heap.size) :
    Calls Try.prog 26 #[.agg #[.int .i64 k, .string d], .pointer (some ⟨g, 0, none⟩)] w fun e w' => e = .returned (.bool (farX n (k, d))) ∧ Ext w w' := by
  have hE := Ext.alloc w (.cells #[.int .i64 k, .string d] 57)
  have HX := Lib.hid (Blk.new w 57 #[.int .i64 k, .string d])
  have HC := Lib.hid (fun (W : World) (h : Ext (w.alloc (.cells #[.int .i64 k, .string d] 57)) W) => ((bcell (hE.trans h)).1 g 0 hg).trans hc)
  obtain ⟨Z, hZ⟩ : ∃ Z, d.size / 16 = Z := ⟨_, rfl⟩
  have hs := fun W => size_any (k : Int) d W (by omega)
  rw [hZ] at hs
  have HS := Lib.hid hs
  have hf : farX n (k, d) = (decide (n < k) || decide (n - k < Z)) := by unfold farX; rw [← hZ]
  obtain ⟨FB, hFB⟩ : ∃ B, farX n (k, d) = B := ⟨_, rfl⟩
  rw [hFB] at hf ⊢
  have HFB := Lib.hid hf
  have HE := Lib.hid hE
  have hzl : Z ≤ 1099511627776 := by omega
  have hwz : IntKind.i64.wrap ((n : Int) - (k : Int)) = (n : Int) - (k : Int) := IntWalk.i64_in _ (by omega)
  clear hs hZ hf hE hc hFB
  go_enter Try.func26, Try.ntmps26
  go_upto_region 1 with fail
  generalize hw0 : w.alloc (.cells #[.int .i64 k, .string d] 57) = w0 at HX HC HE ⊢
  clear hw0
  by_cases h1 : n < k
  · have d1 : decide ((n : Int) < (k : Int)) = true := by rw [decide_eq_true_iff]; omega
    have d1n : decide (n < k) = true := by rw [decide_eq_true_iff]; omega
    refine wp_typed (R := Ext) (w0 := w0) [[], [0], [], [0, 1, 2], [0, 1, 2, 3], [0, 1, 2, 3, 4], [0, 1, 2, 3, 4, 5], [0, 1, 2, 3, 4], [0, 1, 2, 3, 4], [0, 1, 2, 3, 4, 8], [0, 1, 2, 3, 4, 7, 8, 9], [0, 1, 2, 3, 4, 5, 6, 7, 8, 9, 10], [0, 1, 2, 3, 4, 5, 6, 7, 8, 9, 10, 11], [0, 1, 2, 3, 4, 5, 6, 7, 8, 9, 10, 11, 12]] [4, 5, 6, 7, 8, 9, 10, 11, 12, 13, 14, 15, 16, 3] Ext.refl (fun _ _ _ => Ext.trans) (Ext.drew _) (by kernel_rfl) ?_
    apply Build.det 4 Ext.refl (by rfl) (by rfl) rfl
    case h =>   -- 0: t4 := Op.fieldAddr 57 (tmp 2) 0
      intro ax wx hE hR hF
      have e2 : ax.eval (.tmp 2) = .pointer (some ⟨w.heap.size, 0, none⟩) := hE.eval 2 (by rfl) rfl
      simp [go_sem, BigFrame.eval_const, BigFrame.eval_global, BigFrame.eval_func, ↓IntWalk.iteOmega, ev e2, d1, d1n, hwz]
      with_reducible rfl
    apply Build.det 5 Ext.refl (by rfl) (by rfl) rfl
    case h =>   -- 1: t5 := Op.load 3 (tmp 4)
      intro ax wx hE hR hF
      have e4 : ax.eval (.tmp 4) = _ := hF 0 (det 4 _) (by decide) (.head _)
      have hX2 := HX.out.ext hR; have q0 := hX2.cell 0; have q1 := hX2.cell 1; have q2 := HC.out _ hR
      simp [go_sem, BigFrame.eval_const, BigFrame.eval_global, BigFrame.eval_func, ↓IntWalk.iteOmega, ev e4, d1, d1n, hwz, q0, q1, q2]
      with_reducible rfl
    apply Build.det 6 Ext.refl (by rfl) (by rfl) rfl
    case h =>   -- 2: t6 := Op.load 3 (tmp 1)
      intro ax wx hE hR hF
      have e1 : ax.eval (.tmp 1) = .pointer (some ⟨g, 0, none⟩) := hE.eval 1 (by rfl) rfl
      have hX2 := HX.out.ext hR; have q0 := hX2.cell 0; have q1 := hX2.cell 1; have q2 := HC.out _ hR
      simp [go_sem, BigFrame.eval_const, BigFrame.eval_global, BigFrame.eval_func, ↓IntWalk.iteOmega, ev e1, d1, d1n, hwz, q0, q1, q2]
      with_reducible rfl
    apply Build.det 7 Ext.refl (by rfl) (by rfl) rfl
    case h =>   -- 3: t7 := Op.binOp BinOp.gtr 3 (tmp 5) (tmp 6) 3
      intro ax wx hE hR hF
      have e5 : ax.eval (.tmp 5) = _ := hF 1 (det 5 _) (by decide) (.tail _ (.head _))
      have e6 : ax.eval (.tmp 6) = _ := hF 2 (det 6 _) (by decide) (.head _)
      simp [go_sem, BigFrame.eval_const, BigFrame.eval_global, BigFrame.eval_func, ↓IntWalk.iteOmega, ev e5, ev e6, d1, d1n, hwz]
      with_reducible rfl
    apply Build.det 8 Ext.refl (by rfl) (by rfl) rfl
    case h =>   -- 4: t8 := Op.move (tmp 7)
      intro ax wx hE hR hF
      have e7 : ax.eval (.tmp 7) = _ := hF 3 (det 7 _) (by decide) (.head _)
      simp [go_sem, BigFrame.eval_const, BigFrame.eval_global, BigFrame.eval_func, ↓IntWalk.iteOmega, ev e7, d1, d1n, hwz]
      with_reducible rfl
    refine Build.skip 9 (by rfl) (by rfl) rfl rfl ?_ ?_
    · intro ax wx hE hR hF
      have e8 : ax.eval (.tmp 8) = _ := hF 4 (det 8 _) (by decide) (.head _)
      exact e8
    refine Build.skip 10 (by rfl) (by rfl) rfl rfl ?_ ?_
    · intro ax wx hE hR hF
      have e8 : ax.eval (.tmp 8) = _ := hF 4 (det 8 _) (by decide) (.tail _ (.head _))
      exact e8
    refine Build.skip 11 (by rfl) (by rfl) rfl rfl ?_ ?_
    · intro ax wx hE hR hF
      have e8 : ax.eval (.tmp 8) = _ := hF 4 (det 8 _) (by decide) (.tail _ (.tail _ (.head _)))
      exact e8
    refine Build.skip 12 (by rfl) (by rfl) rfl rfl ?_ ?_
    · intro ax wx hE hR hF
      have e8 : ax.eval (.tmp 8) = _ := hF 4 (det 8 _) (by decide) (.tail _ (.tail _ (.tail _ (.head _))))
      exact e8
    refine Build.skip 13 (by rfl) (by rfl) rfl rfl ?_ ?_
    · intro ax wx hE hR hF
      have e8 : ax.eval (.tmp 8) = _ := hF 4 (det 8 _) (by decide) (mem4 (.head _))
      exact e8
    refine Build.skip 14 (by rfl) (by rfl) rfl rfl ?_ ?_
    · intro ax wx hE hR hF
      have e8 : ax.eval (.tmp 8) = _ := hF 4 (det 8 _) (by decide) (mem4 (.tail _ (.head _)))
      exact e8
    refine Build.skip 15 (by rfl) (by rfl) rfl rfl ?_ ?_
    · intro ax wx hE hR hF
      have e8 : ax.eval (.tmp 8) = _ := hF 4 (det 8 _) (by decide) (mem4 (.tail _ (.tail _ (.head _))))
      exact e8
    apply Build.det 16 Ext.refl (by rfl) (by rfl) rfl
    case h =>   -- 12: t16 := Op.pick (tmp 8) (const (Value.bool true)) (tmp 15)
      intro ax wx hE hR hF
      have e8 : ax.eval (.tmp 8) = _ := hF 4 (det 8 _) (by decide) (mem4 (.tail _ (.tail _ (.tail _ (.head _)))))
      have e15 : ax.eval (.tmp 15) = _ := hF 11 (det 15 _) (by decide) (.head _)
      simp [go_sem, BigFrame.eval_const, BigFrame.eval_global, BigFrame.eval_func, ↓IntWalk.iteOmega, ev e8, ev e15, d1, d1n, hwz]
      with_reducible rfl
    apply Build.det 3 Ext.refl (by rfl) (by rfl) rfl
    case h =>   -- 13: t3 := Op.assign (tmp 16)
      intro ax wx hE hR hF
      have e16 : ax.eval (.tmp 16) = _ := hF 12 (det 16 _) (by decide) (.head _)
      simp [go_sem, BigFrame.eval_const, BigFrame.eval_global, BigFrame.eval_func, ↓IntWalk.iteOmega, ev e16, d1, d1n, hwz]
      with_reducible rfl
    apply Build.stop
    refine ⟨by kernel_rfl, .inl ⟨rfl, ?_⟩⟩
    intro ax w2 hE R2 hF
    have e4 : ax.eval (.tmp 4) = _ := hF 0 (det 4 _) (mem4 (mem4 (mem4 (.tail _ (.head _)))))
    have e5 : ax.eval (.tmp 5) = _ := hF 1 (det 5 _) (mem4 (mem4 (mem4 (.head _))))
    have e6 : ax.eval (.tmp 6) = _ := hF 2 (det 6 _) (mem4 (mem4 (.tail _ (.tail _ (.tail _ (.head _))))))
    have e7 : ax.eval (.tmp 7) = _ := hF 3 (det 7 _) (mem4 (mem4 (.tail _ (.tail _ (.head _)))))
    have e8 : ax.eval (.tmp 8) = _ := hF 4 (det 8 _) (mem4 (mem4 (.tail _ (.head _))))
    have e9 : ax.eval (.tmp 9) = _ := hF 5 (det 9 _) (mem4 (mem4 (.head _)))
    have e10 : ax.eval (.tmp 10) = _ := hF 6 (det 10 _) (mem4 (.tail _ (.tail _ (.tail _ (.head _)))))
    have e11 : ax.eval (.tmp 11) = _ := hF 7 (det 11 _) (mem4 (.tail _ (.tail _ (.head _))))
    have e12 : ax.eval (.tmp 12) = _ := hF 8 (det 12 _) (mem4 (.tail _ (.head _)))
    have e13 : ax.eval (.tmp 13) = _ := hF 9 (det 13 _) (mem4 (.head _))
    have e14 : ax.eval (.tmp 14) = _ := hF 10 (det 14 _) (.tail _ (.tail _ (.tail _ (.head _))))
    have e15 : ax.eval (.tmp 15) = _ := hF 11 (det 15 _) (.tail _ (.tail _ (.head _)))
    have e16 : ax.eval (.tmp 16) = _ := hF 12 (det 16 _) (.tail _ (.head _))
    have e3 : ax.eval (.tmp 3) = _ := hF 13 (det 3 _) (.head _)
    rw [AllEq.frame (D := [4, 5, 6, 7, 8, 9, 10, 11, 12, 13, 14, 15, 16, 3]) (AllEq.cons e4 (AllEq.cons e5 (AllEq.cons e6 (AllEq.cons e7 (AllEq.cons e8 (AllEq.cons e9 (AllEq.cons e10 (AllEq.cons e11 (AllEq.cons e12 (AllEq.cons e13 (AllEq.cons e14 (AllEq.cons e15 (AllEq.cons e16 (AllEq.cons e3 (AllEq.nil))))))))))))))) hE rfl]
    clear hF hE e4 e5 e6 e7 e8 e9 e10 e11 e12 e13 e14 e15 e16 e3
    simp only [List.foldl_cons, List.foldl_nil, Act.put, List.setIfInBounds_toArray, List.set_cons_succ, List.set_cons_zero]
    go_wp2_with fail
    go_ret
    exact ⟨ret_bool (by rw [HFB.out, d1n]; rfl), HE.out.trans R2⟩
  · have d1 : decide ((n : Int) < (k : Int)) = false := by rw [decide_eq_false_iff_not]; omega
    have d1n : decide (n < k) = false := by rw [decide_eq_false_iff_not]; omega
    have d2 : decide ((n : Int) - (k : Int) < (Z : Int)) = decide (n - k < Z) := by rw [Bool.eq_iff_iff, decide_eq_true_iff, decide_eq_true_iff]; omega
    obtain ⟨B, hB⟩ : ∃ B, decide (n - k < Z) = B := ⟨_, rfl⟩
    have HB : Hid (FB = B) := by show FB = B; rw [HFB.out, d1n, Bool.false_or, hB]
    rw [hB] at d2
    clear hB
    refine wp_typed (R := Ext) (w0 := w0) [[], [0], [], [0, 1, 2], [0, 1, 2, 3], [0, 1, 2, 3, 4], [0, 1, 2, 3, 4, 5], [0, 1, 2, 3, 4], [0, 1, 2, 3, 4], [0, 1, 2, 3, 4, 8], [0, 1, 2, 3, 4, 7, 8, 9], [0, 1, 2, 3, 4, 5, 6, 7, 8, 9, 10], [0, 1, 2, 3, 4, 5, 6, 7, 8, 9, 10, 11], [0, 1, 2, 3, 4, 5, 6, 7, 8, 9, 10, 11, 12]] [4, 5, 6, 7, 8, 9, 10, 11, 12, 13, 14, 15, 16, 3] Ext.refl (fun _ _ _ => Ext.trans) (Ext.drew _) (by kernel_rfl) ?_
    apply Build.det 4 Ext.refl (by rfl) (by rfl) rfl
    case h =>   -- 0: t4 := Op.fieldAddr 57 (tmp 2) 0
      intro ax wx hE hR hF
      have e2 : ax.eval (.tmp 2) = .pointer (some ⟨w.heap.size, 0, none⟩) := hE.eval 2 (by rfl) rfl
      simp [go_sem, BigFrame.eval_const, BigFrame.eval_global, BigFrame.eval_func, ↓IntWalk.iteOmega, ev e2, d1, d1n, hwz, d2]
      with_reducible rfl
    apply Build.det 5 Ext.refl (by rfl) (by rfl) rfl
    case h =>   -- 1: t5 := Op.load 3 (tmp 4)
      intro ax wx hE hR hF
      have e4 : ax.eval (.tmp 4) = _ := hF 0 (det 4 _) (by decide) (.head _)
      have hX2 := HX.out.ext hR; have q0 := hX2.cell 0; have q1 := hX2.cell 1; have q2 := HC.out _ hR
      simp [go_sem, BigFrame.eval_const, BigFrame.eval_global, BigFrame.eval_func, ↓IntWalk.iteOmega, ev e4, d1, d1n, hwz, d2, q0, q1, q2]
      with_reducible rfl
    apply Build.det 6 Ext.refl (by rfl) (by rfl) rfl
    case h =>   -- 2: t6 := Op.load 3 (tmp 1)
      intro ax wx hE hR hF
      have e1 : ax.eval (.tmp 1) = .pointer (some ⟨g, 0, none⟩) := hE.eval 1 (by rfl) rfl
      have hX2 := HX.out.ext hR; have q0 := hX2.cell 0; have q1 := hX2.cell 1; have q2 := HC.out _ hR
      simp [go_sem, BigFrame.eval_const, BigFrame.eval_global, BigFrame.eval_func, ↓IntWalk.iteOmega, ev e1, d1, d1n, hwz, d2, q0, q1, q2]
      with_reducible rfl
    apply Build.det 7 Ext.refl (by rfl) (by rfl) rfl
    case h =>   -- 3: t7 := Op.binOp BinOp.gtr 3 (tmp 5) (tmp 6) 3
      intro ax wx hE hR hF
      have e5 : ax.eval (.tmp 5) = _ := hF 1 (det 5 _) (by decide) (.tail _ (.head _))
      have e6 : ax.eval (.tmp 6) = _ := hF 2 (det 6 _) (by decide) (.head _)
      simp [go_sem, BigFrame.eval_const, BigFrame.eval_global, BigFrame.eval_func, ↓IntWalk.iteOmega, ev e5, ev e6, d1, d1n, hwz, d2]
      with_reducible rfl
    apply Build.det 8 Ext.refl (by rfl) (by rfl) rfl
    case h =>   -- 4: t8 := Op.move (tmp 7)
      intro ax wx hE hR hF
      have e7 : ax.eval (.tmp 7) = _ := hF 3 (det 7 _) (by decide) (.head _)
      simp [go_sem, BigFrame.eval_const, BigFrame.eval_global, BigFrame.eval_func, ↓IntWalk.iteOmega, ev e7, d1, d1n, hwz, d2]
      with_reducible rfl
    apply Build.detg 9 Ext.refl (by rfl) (by rfl) rfl rfl
    case h =>   -- 5: t9 := Op.load 57 (tmp 2)
      intro ax wx hE hR hF
      have e2 : ax.eval (.tmp 2) = .pointer (some ⟨w.heap.size, 0, none⟩) := hE.eval 2 (by rfl) rfl
      have e8 : ax.eval (.tmp 8) = _ := hF 4 (det 8 _) (by decide) (.head _)
      have hX2 := HX.out.ext hR; have q0 := hX2.cell 0; have q1 := hX2.cell 1; have q2 := HC.out _ hR
      refine ⟨e8, ?_⟩
      simp [go_sem, BigFrame.eval_const, BigFrame.eval_global, BigFrame.eval_func, ↓IntWalk.iteOmega, ev e2, ev e8, d1, d1n, hwz, d2, q0, q1, q2]
      with_reducible rfl
    apply Build.callg 10 Ext.refl (by rfl) (by rfl) rfl rfl
    case h =>
      intro ax wx hE hR hF
      have e8 : ax.eval (.tmp 8) = _ := hF 4 (det 8 _) (by decide) (.tail _ (.head _))
      have e9 : ax.eval (.tmp 9) = _ := hF 5 (det 9 _) (by decide) (.head _)
      refine ⟨e8, ?_⟩
      simp [go_sem, BigFrame.eval_const, BigFrame.eval_global, BigFrame.eval_func, ↓IntWalk.iteOmega, ev e8, ev e9, d1, d1n, hwz, d2]
      with_reducible exact ⟨rfl, rfl⟩
    case hc => intro wx hR; with_reducible exact HS.out wx
    apply Build.detg 11 Ext.refl (by rfl) (by rfl) rfl rfl
    case h =>   -- 7: t11 := Op.load 3 (tmp 1)
      intro ax wx hE hR hF
      have e1 : ax.eval (.tmp 1) = .pointer (some ⟨g, 0, none⟩) := hE.eval 1 (by rfl) rfl
      have e8 : ax.eval (.tmp 8) = _ := hF 4 (det 8 _) (by decide) (.tail _ (.tail _ (.head _)))
      have hX2 := HX.out.ext hR; have q0 := hX2.cell 0; have q1 := hX2.cell 1; have q2 := HC.out _ hR
      refine ⟨e8, ?_⟩
      simp [go_sem, BigFrame.eval_const, BigFrame.eval_global, BigFrame.eval_func, ↓IntWalk.iteOmega, ev e1, ev e8, d1, d1n, hwz, d2, q0, q1, q2]
      with_reducible rfl
    apply Build.detg 12 Ext.refl (by rfl) (by rfl) rfl rfl
    case h =>   -- 8: t12 := Op.fieldAddr 57 (tmp 2) 0
      intro ax wx hE hR hF
      have e2 : ax.eval (.tmp 2) = .pointer (some ⟨w.heap.size, 0, none⟩) := hE.eval 2 (by rfl) rfl
      have e8 : ax.eval (.tmp 8) = _ := hF 4 (det 8 _) (by decide) (.tail _ (.tail _ (.tail _ (.head _))))
      refine ⟨e8, ?_⟩
      simp [go_sem, BigFrame.eval_const, BigFrame.eval_global, BigFrame.eval_func, ↓IntWalk.iteOmega, ev e2, ev e8, d1, d1n, hwz, d2]
      with_reducible rfl
    apply Build.detg 13 Ext.refl (by rfl) (by rfl) rfl rfl
    case h =>   -- 9: t13 := Op.load 3 (tmp 12)
      intro ax wx hE hR hF
      have e8 : ax.eval (.tmp 8) = _ := hF 4 (det 8 _) (by decide) (mem4 (.head _))
      have e12 : ax.eval (.tmp 12) = _ := hF 8 (det 12 _) (by decide) (.head _)
      have hX2 := HX.out.ext hR; have q0 := hX2.cell 0; have q1 := hX2.cell 1; have q2 := HC.out _ hR
      refine ⟨e8, ?_⟩
      simp [go_sem, BigFrame.eval_const, BigFrame.eval_global, BigFrame.eval_func, ↓IntWalk.iteOmega, ev e8, ev e12, d1, d1n, hwz, d2, q0, q1, q2]
      with_reducible rfl
    apply Build.detg 14 Ext.refl (by rfl) (by rfl) rfl rfl
    case h =>   -- 10: t14 := Op.binOp BinOp.sub 3 (tmp 11) (tmp 13) 3
      intro ax wx hE hR hF
      have e8 : ax.eval (.tmp 8) = _ := hF 4 (det 8 _) (by decide) (mem4 (.tail _ (.head _)))
      have e11 : ax.eval (.tmp 11) = _ := hF 7 (det 11 _) (by decide) (.tail _ (.tail _ (.head _)))
      have e13 : ax.eval (.tmp 13) = _ := hF 9 (det 13 _) (by decide) (.head _)
      refine ⟨e8, ?_⟩
      simp [go_sem, BigFrame.eval_const, BigFrame.eval_global, BigFrame.eval_func, ↓IntWalk.iteOmega, ev e8, ev e11, ev e13, d1, d1n, hwz, d2]
      with_reducible rfl
    apply Build.detg 15 Ext.refl (by rfl) (by rfl) rfl rfl
    case h =>   -- 11: t15 := Op.binOp BinOp.gtr 3 (tmp 10) (tmp 14) 3
      intro ax wx hE hR hF
      have e8 : ax.eval (.tmp 8) = _ := hF 4 (det 8 _) (by decide) (mem4 (.tail _ (.tail _ (.head _))))
      have e10 : ax.eval (.tmp 10) = _ := hF 6 (det 10 _) (by decide) (mem4 (.head _))
      have e14 : ax.eval (.tmp 14) = _ := hF 10 (det 14 _) (by decide) (.head _)
      refine ⟨e8, ?_⟩
      simp [go_sem, BigFrame.eval_const, BigFrame.eval_global, BigFrame.eval_func, ↓IntWalk.iteOmega, ev e8, ev e10, ev e14, d1, d1n, hwz, d2]
      with_reducible rfl
    apply Build.det 16 Ext.refl (by rfl) (by rfl) rfl
    case h =>   -- 12: t16 := Op.pick (tmp 8) (const (Value.bool true)) (tmp 15)
      intro ax wx hE hR hF
      have e8 : ax.eval (.tmp 8) = _ := hF 4 (det 8 _) (by decide) (mem4 (.tail _ (.tail _ (.tail _ (.head _)))))
      have e15 : ax.eval (.tmp 15) = _ := hF 11 (det 15 _) (by decide) (.head _)
      simp [go_sem, BigFrame.eval_const, BigFrame.eval_global, BigFrame.eval_func, ↓IntWalk.iteOmega, ev e8, ev e15, d1, d1n, hwz, d2]
      with_reducible rfl
    apply Build.det 3 Ext.refl (by rfl) (by rfl) rfl
    case h =>   -- 13: t3 := Op.assign (tmp 16)
      intro ax wx hE hR hF
      have e16 : ax.eval (.tmp 16) = _ := hF 12 (det 16 _) (by decide) (.head _)
      simp [go_sem, BigFrame.eval_const, BigFrame.eval_global, BigFrame.eval_func, ↓IntWalk.iteOmega, ev e16, d1, d1n, hwz, d2]
      with_reducible rfl
    apply Build.stop
    refine ⟨by kernel_rfl, .inl ⟨rfl, ?_⟩⟩
    intro ax w2 hE R2 hF
    have e4 : ax.eval (.tmp 4) = _ := hF 0 (det 4 _) (mem4 (mem4 (mem4 (.tail _ (.head _)))))
    have e5 : ax.eval (.tmp 5) = _ := hF 1 (det 5 _) (mem4 (mem4 (mem4 (.head _))))
    have e6 : ax.eval (.tmp 6) = _ := hF 2 (det 6 _) (mem4 (mem4 (.tail _ (.tail _ (.tail _ (.head _))))))
    have e7 : ax.eval (.tmp 7) = _ := hF 3 (det 7 _) (mem4 (mem4 (.tail _ (.tail _ (.head _)))))
    have e8 : ax.eval (.tmp 8) = _ := hF 4 (det 8 _) (mem4 (mem4 (.tail _ (.head _))))
    have e9 : ax.eval (.tmp 9) = _ := hF 5 (det 9 _) (mem4 (mem4 (.head _)))
    have e10 : ax.eval (.tmp 10) = _ := hF 6 (det 10 _) (mem4 (.tail _ (.tail _ (.tail _ (.head _)))))
    have e11 : ax.eval (.tmp 11) = _ := hF 7 (det 11 _) (mem4 (.tail _ (.tail _ (.head _))))
    have e12 : ax.eval (.tmp 12) = _ := hF 8 (det 12 _) (mem4 (.tail _ (.head _)))
    have e13 : ax.eval (.tmp 13) = _ := hF 9 (det 13 _) (mem4 (.head _))
    have e14 : ax.eval (.tmp 14) = _ := hF 10 (det 14 _) (.tail _ (.tail _ (.tail _ (.head _))))
    have e15 : ax.eval (.tmp 15) = _ := hF 11 (det 15 _) (.tail _ (.tail _ (.head _)))
    have e16 : ax.eval (.tmp 16) = _ := hF 12 (det 16 _) (.tail _ (.head _))
    have e3 : ax.eval (.tmp 3) = _ := hF 13 (det 3 _) (.head _)
    rw [AllEq.frame (D := [4, 5, 6, 7, 8, 9, 10, 11, 12, 13, 14, 15, 16, 3]) (AllEq.cons e4 (AllEq.cons e5 (AllEq.cons e6 (AllEq.cons e7 (AllEq.cons e8 (AllEq.cons e9 (AllEq.cons e10 (AllEq.cons e11 (AllEq.cons e12 (AllEq.cons e13 (AllEq.cons e14 (AllEq.cons e15 (AllEq.cons e16 (AllEq.cons e3 (AllEq.nil))))))))))))))) hE rfl]
    clear hF hE e4 e5 e6 e7 e8 e9 e10 e11 e12 e13 e14 e15 e16 e3
    simp only [List.foldl_cons, List.foldl_nil, Act.put, List.setIfInBounds_toArray, List.set_cons_succ, List.set_cons_zero]
    go_wp2_with fail
    go_ret
    exact ⟨ret_bool HB.out.symm, HE.out.trans R2⟩

set_option maxHeartbeats 1000000 in
theorem dindex_any (n g : Nat) (A : Option Addr) (len cap : Nat) (L : List (Nat × ByteArray)) (w : World) (hlen : L.length = len) (hm : len ≤ 1000000) (hn : n ≤ 1099511627776) (hrow : Row w A 2 xC L) (hx : ∀ x ∈ L, x.1 ≤ 1099511627776 ∧ x.2.size ≤ 1099511627776) (hc : w.cell? ⟨g, 0, none⟩ = some (.int .i64 n)) (hg : g < w.heap.size) :
    Calls Try.prog 41 #[.slice A len cap, .func (.func 26) #[] #[.pointer (some ⟨g, 0, none⟩)]] w fun e w' => ∃ r : Int, e = .returned (.int .i64 r) ∧ decide (0 ≤ r) = L.any (farX n) ∧ Ext w w' := by
  go_enter Try.func41, Try.ntmps41
  go_wp2_with fail
  go_loopw [8] (fun i wr => ∃ j : Nat, i = .int .i64 j ∧ j ≤ len ∧ Ext w wr ∧ Hid ((L.take j).any (farX n) = false)) (fun i _ => len - (intOf i).toNat)
  case atStart => exact ⟨0, rfl, by omega, Ext.refl _, by simp [Hid]⟩
  case round =>
    obtain ⟨j, rfl, hj, hEx, HJ⟩ := hrel
    by_cases hlt : j < len
    · have hjx : j < L.length := by omega
      obtain ⟨b0, o0, rfl, hlt0⟩ := hrow.x_in hEx hjx
      obtain ⟨q0, q1⟩ := hrow.x_at hEx hjx
      have hxj := hx _ (List.getElem_mem hjx)
      have e : L[j] = (atX L j, datX L j) := by simp [atX, datX, List.getD, hjx]
      rw [e] at hxj
      have HF := Lib.hid (fun W (h : Ext w W) => dfar_any (atX L j) (datX L j) n g W hxj.1 hxj.2 hn (((bcell h).1 g 0 hg).trans hc) (Nat.lt_of_lt_of_le hg h.size))
      have htk : (L.take (j + 1)).any (farX n) = ((L.take j).any (farX n) || farX n (atX L j, datX L j)) := by
        rw [List.take_succ_eq_append_getElem hjx, List.any_append, e]
        simp only [List.any_cons, List.any_nil, Bool.or_false]
      rw [HJ.out, Bool.false_or] at htk
      have hin : farX n (atX L j, datX L j) = true → L.any (farX n) = true := fun h => List.any_eq_true.2 ⟨_, List.getElem_mem hjx, by rw [e]; exact h⟩
      generalize farX n (atX L j, datX L j) = B at HF htk hin
      have HTK := Lib.hid htk
      have HIN := Lib.hid hin
      generalize atX L j = K at q0 HF
      generalize datX L j = D at q1 HF
      clear htk hin e hxj
      cases B
      · go_wp2_with fail
        refine (HF.out _ hEx).mono ?_
        rintro e w2 ⟨rfl, R2⟩
        go_wp2_with fail
        go_roundw
        case rel => exact ⟨j + 1, by go_num, by omega, hEx.trans R2, HTK.out⟩
        case measure => simp [intOf]; omega
      · go_wp2_with fail
        refine (HF.out _ hEx).mono ?_
        rintro e w2 ⟨rfl, R2⟩
        go_wp2_with fail
        go_ret
        exact ⟨(j : Int), rfl, by rw [HIN.out (by trivial), decide_eq_true_iff]; omega, hEx.trans R2⟩
    · have HA : Hid (L.any (farX n) = false) := by
        have := HJ.out
        rwa [List.take_of_length_le (by omega)] at this
      go_wp2_with fail
      go_ret
      exact ⟨-1, rfl, by rw [HA.out]; decide, hEx⟩
theorem dcontains_any (n g : Nat) (A : Option Addr) (len cap : Nat) (L : List (Nat × ByteArray)) (w : World) (hlen : L.length = len) (hm : len ≤ 1000000) (hn : n ≤ 1099511627776) (hrow : Row w A 2 xC L) (hx : ∀ x ∈ L, x.1 ≤ 1099511627776 ∧ x.2.size ≤ 1099511627776) (hc : w.cell? ⟨g, 0, none⟩ = some (.int .i64 n)) (hg : g < w.heap.size) :
    Calls Try.prog 27 #[.slice A len cap, .func (.func 26) #[] #[.pointer (some ⟨g, 0, none⟩)]] w fun e w' => e = .returned (.bool (L.any (farX n))) ∧ Ext w w' := by
  go_enter Try.func27, Try.ntmps27
  go_wp2_with fail
  refine (dindex_any n g A len cap L _ hlen hm hn hrow hx hc hg).mono ?_
  rintro e w2 ⟨r, rfl, hr, R2⟩
  have HR := Lib.hid hr
  clear hr
  go_wp2_with fail
  go_ret
  exact ⟨ret_bool HR.out, R2⟩

theorem putB_cons (L : List UInt8) (o : Nat) (x : UInt8) (d : List UInt8) (h : o + (d.length + 1) ≤ L.length) : putB L o (x :: d) = putB (L.set o x) (o + 1) d := by
  apply List.ext_getElem?
  intro j
  rw [putB_get _ _ _ (by simpa using h), putB_get _ _ _ (by simp; omega), List.length_cons]
  by_cases h1 : j = o
  · subst h1
    rw [if_pos (by omega), if_neg (by omega), List.getElem?_set_self (by omega)]
    simp
  · rw [List.getElem?_set_ne (by omega)]
    by_cases h2 : o ≤ j ∧ j < o + (d.length + 1)
    · rw [if_pos h2, if_pos (by omega)]
      obtain ⟨i, hi⟩ : ∃ i, j - o = i + 1 := ⟨j - o - 1, by omega⟩
      rw [hi, List.getElem?_cons_succ]
      congr 1
      omega
    · rw [if_neg h2, if_neg (by omega)]
theorem putB_nil (L : List UInt8) (o : Nat) : putB L o [] = L := by simp [putB]
theorem Bytes.setCells {g c : Nat} : ∀ (d : List UInt8) (o : Nat) (L : List UInt8) (w : World), Bytes w g L c → o + d.length ≤ L.length → Bytes (w.setCells g o (d.map fun x => Value.int .u8 (x.toNat : Int))) g (putB L o d) c
  | [], o, L, w, h, _ => by rw [putB_nil]; exact h
  | x :: d, o, L, w, h, hl => by
    rw [putB_cons L o x d (by simpa using hl)]
    exact Bytes.setCells d (o + 1) (L.set o x) _ (h.set_ (by simp at hl; omega) x) (by simp at hl ⊢; omega)
theorem size_u8 : ∀ w, (Go.sizeOf 5).run Try.prog w = .ok 1 w := fun _ => by kernel_rfl
theorem copy_bytes {w : World} {g c : Nat} {L : List UInt8} (h : Bytes w g L c) (hc : L.length ≤ c) (ty : TypeId) (o n m : Nat) (d : ByteArray) (ho : o + d.size ≤ L.length) (hn : d.size ≤ n) :
    (Builtin.copy_ #[22, 9] ty #[.slice (some ⟨g, o, none⟩) n m, .string d]).run Try.prog w = .ok (goInt d.size) (w.setCells g o (d.data.toList.map fun x => Value.int .u8 (x.toNat : Int))) :=
  Go.run_copy_string w 22 9 ty 5 g o n m d Try.underlying22 size_u8 hn (fun j hj => by rw [h.cell (by omega)]; rfl) (fun j hj => h.frozen (by omega))
end Go.Proofs.Ytoiifcmjmjkcaaa

/- diff: Apply. -/
namespace Go.Proofs.Ytoiifcmjmjkcaaa
set_option linter.unusedVariables false
set_option linter.unusedSimpArgs false
open Go.RowKit

theorem applyL_take (x : List UInt8) (L : List (Nat × ByteArray)) (j : Nat) (hj : j < L.length) : applyL x (L.take (j + 1)) = putB (applyL x (L.take j)) (16 * atX L j) (datX L j).data.toList := by
  rw [List.take_add_one, List.getElem?_eq_getElem hj]
  simp only [Option.toList_some, applyL_snoc]
  simp [atX, datX, List.getD, hj]
set_option maxRecDepth 100000 in
set_option maxHeartbeats 2000000 in
theorem dapply_any (s : ByteArray) (n : Nat) (A : Option Addr) (len cap : Nat) (L : List (Nat × ByteArray)) (w : World) (hs : s.size = 16 * n) (hn : n ≤ 1000000) (hlen : L.length = len) (hm : len ≤ 1000000) (hrow : Row w A 2 xC L) (hx : ∀ x ∈ L, x.1 ≤ 1099511627776 ∧ x.2.size ≤ 1099511627776) (hg : goodX L = true) (hf : ∀ x ∈ L, x.1 + x.2.size / 16 ≤ n ∧ x.2.size % 16 = 0 ∧ 0 < x.2.size) :
    Calls Try.prog 13 #[.string s, .slice A len cap] w fun e w' => e = .returned (.tuple #[.string ⟨(applyL s.data.toList L).toArray⟩, .int .i64 0]) ∧ Ext w w' := by
  have hw16 : decide (s.size % 16 = 0) = true := by rw [decide_eq_true_iff]; omega
  have CW := fun W => isWhole_any s W (by omega)
  rw [hw16] at CW
  have HCW := Lib.hid CW
  have CG := Lib.hid (fun (W : World) (h : Ext w W) => (hg ▸ dgood_any A len cap L W hlen hm (hrow.extx h) hx : Calls Try.prog 12 #[.slice A len cap] W fun e w' => e = .returned (.bool true) ∧ Ext W w'))
  have hany : L.any (farX n) = false := by
    rw [List.any_eq_false]
    intro x hxm
    have := hf x hxm
    unfold farX
    simp only [Bool.or_eq_true, decide_eq_true_eq, not_or]
    omega
  have CC := Lib.hid (fun (W : World) (h : Ext w W) (g : Nat) (hc : W.cell? ⟨g, 0, none⟩ = some (.int .i64 n)) (hgl : g < W.heap.size) => (hany ▸ dcontains_any n g A len cap L W hlen hm (by omega) (hrow.extx h) hx hc hgl : Calls Try.prog 27 #[.slice A len cap, .func (.func 26) #[] #[.pointer (some ⟨g, 0, none⟩)]] W fun e w' => e = .returned (.bool false) ∧ Ext W w'))
  have hdiv : (s.size : Int) / 16 = (n : Int) := by omega
  have hdl : s.data.toList.length = 16 * n := by rw [← hs]; simp
  have HDL := Lib.hid hdl
  have hAL := fun P h => applyL_length n P s.data.toList hdl h
  have HAL := Lib.hid (fun j => (hAL (L.take j) (fun x hxm => ⟨(hf x (List.mem_of_mem_take hxm)).1, (hf x (List.mem_of_mem_take hxm)).2.1⟩)).trans hdl)
  clear CW hw16 hg hany hdl hAL
  go_enter Try.func13, Try.ntmps13
  go_wp2_with fail
  refine (HCW.out _).mono ?_
  rintro e w1 ⟨rfl, rfl⟩
  go_wp2_with fail
  refine (CG.out _ (Ext.refl _)).mono ?_
  rintro e w2 ⟨rfl, R2⟩
  have hC2 := Blk.new w2 3 #[.int .i64 n]
  have hE2 := R2.trans (Ext.alloc w2 (.cells #[.int .i64 n] 3))
  go_wp2_with fail
  refine (CC.out _ hE2 w2.heap.size (hC2.cell 0) hC2.lt).mono ?_
  rintro e w3 ⟨rfl, R3⟩
  have hE3 := hE2.trans R3
  have hz3 := hE3.size
  clear hC2 hE2 R2 R3 CC CG HCW
  obtain ⟨c, hc1, hc2, hcv⟩ := conv_row s w3 (by unfold maxLen; omega)
  go_upto_region 9 with fail
  have hB0 : Bytes (w3.drew.alloc (.cells (rowOf s.data.toList c) 5 (c, c + 1))) w3.heap.size (applyL s.data.toList (L.take 0)) c := Bytes.new_
  have hbl : Below w.heap.size w (w3.drew.alloc (.cells (rowOf s.data.toList c) 5 (c, c + 1))) := (Below.drew hE3).alloc hz3 _
  clear hcv hE3
  go_loopw [10, 30] (fun _ i wr => ∃ j : Nat, j ≤ len ∧ i = .int .i64 j ∧ Bytes wr w3.heap.size (applyL s.data.toList (L.take j)) c ∧ Below w.heap.size w wr) (fun _ i _ => len - (intOf i).toNat)
  case atStart => exact ⟨0, by omega, rfl, hB0, hbl⟩
  case round =>
    clear hB0 hbl
    obtain ⟨j, hj, rfl, hB, hbl⟩ := hrel
    have hal := HAL.out j
    by_cases hlt : j < len
    · have hjx : j < L.length := by omega
      obtain ⟨b0, o0, rfl, hlt0⟩ := hrow.x_in hbl hjx
      obtain ⟨q0, q1⟩ := hrow.x_at hbl hjx
      have hst := applyL_take s.data.toList L j hjx
      have hal2 := HAL.out (j + 1)
      have hfj := hf _ (List.getElem_mem hjx)
      have e : L[j] = (atX L j, datX L j) := by simp [atX, datX, List.getD, hjx]
      rw [e] at hfj
      simp only at hfj
      generalize atX L j = K at q0 hst hfj
      generalize datX L j = D at q1 hst hfj
      generalize applyL s.data.toList (L.take j) = X at hB hst hal
      have hKD : 16 * K + D.size ≤ 16 * n := by omega
      have hset := hB.setCells D.data.toList (16 * K) _ _ (by have : D.data.toList.length = D.size := by simp
                                                              omega)
      rw [← hst] at hset
      obtain ⟨a, ha⟩ : ∃ a : Nat, 16 * K = a := ⟨_, rfl⟩
      rw [ha] at hset hKD
      have hca : ¬ c = a := by omega
      have hwm : IntKind.i64.wrap ((K : Int) * 16) = (a : Int) := by rw [IntWalk.i64_in _ (by omega)]; omega
      have hcp : ∀ (W : World), Ext wr W → ∀ m, (Builtin.copy_ #[22, 9] 3 #[.slice (some ⟨w3.heap.size, a, none⟩) (16 * n - a) m, .string D]).run Try.prog W = .ok (goInt D.size) (W.setCells w3.heap.size a (D.data.toList.map fun x => Value.int .u8 (x.toNat : Int))) := fun W h m =>
        copy_bytes (hB.below h) (by omega) _ a _ m D (by omega) (by omega)
      have HSET := Lib.hid (fun (W : World) (h : Ext wr W) => (by
        have := (hB.below h).setCells D.data.toList (16 * K) _ _ (by have : D.data.toList.length = D.size := by simp
                                                                     omega)
        rw [← hst, ha] at this
        exact this : Bytes (W.setCells w3.heap.size a (D.data.toList.map fun x => Value.int .u8 (x.toNat : Int))) w3.heap.size (applyL s.data.toList (L.take (j + 1))) c))
      have HCP := Lib.hid hcp
      have hEX := Ext.alloc wr (.cells #[.int .i64 K, .string D] 57)
      have HBX := Lib.hid (Blk.new wr 57 #[.int .i64 K, .string D])
      have hzr := hbl.size
      clear hset hst hB hal hal2 e hcp
      go_upto_region 11 with fail
      clear q0 q1
      refine wp_typed (R := Ext) (w0 := (wr.alloc (.cells #[.int .i64 K, .string D] 57))) [[], [], [1], [1, 2], [0, 1, 2, 3], [], [5], [0, 1, 2, 3, 4, 5, 6]] [34, 35, 36, 37, 38, 39, 40] Ext.refl (fun _ _ _ => Ext.trans) (Ext.drew _) (by kernel_rfl) ?_
      apply Build.det 34 Ext.refl (by rfl) (by rfl) rfl
      case h =>   -- 0: t34 := Op.move (tmp 8)
        intro ax wx hE hR hF
        have e8 : ax.eval (.tmp 8) = .slice (some ⟨w3.heap.size, 0, none⟩) (16 * n) c := hE.eval 8 (by rfl) rfl
        simp [go_sem, BigFrame.eval_const, BigFrame.eval_global, BigFrame.eval_func, ↓IntWalk.iteOmega, ev e8, hwm]
        with_reducible rfl
      apply Build.det 35 Ext.refl (by rfl) (by rfl) rfl
      case h =>   -- 1: t35 := Op.fieldAddr 57 (tmp 10) 0
        intro ax wx hE hR hF
        have e10 : ax.eval (.tmp 10) = .pointer (some ⟨wr.heap.size, 0, none⟩) := hE.eval 10 (by rfl) rfl
        simp [go_sem, BigFrame.eval_const, BigFrame.eval_global, BigFrame.eval_func, ↓IntWalk.iteOmega, ev e10, hwm]
        with_reducible rfl
      apply Build.det 36 Ext.refl (by rfl) (by rfl) rfl
      case h =>   -- 2: t36 := Op.load 3 (tmp 35)
        intro ax wx hE hR hF
        have e35 : ax.eval (.tmp 35) = _ := hF 1 (det 35 _) (by decide) (.head _)
        have hX2 := HBX.out.ext hR; have q0 := hX2.cell 0; have q1 := hX2.cell 1
        simp [go_sem, BigFrame.eval_const, BigFrame.eval_global, BigFrame.eval_func, ↓IntWalk.iteOmega, ev e35, hwm, q0, q1]
        with_reducible rfl
      apply Build.det 37 Ext.refl (by rfl) (by rfl) rfl
      case h =>   -- 3: t37 := Op.binOp BinOp.mul 3 (tmp 36) (const (Value.int IntKind.i64 16)) 3
        intro ax wx hE hR hF
        have e36 : ax.eval (.tmp 36) = _ := hF 2 (det 36 _) (by decide) (.head _)
        simp [go_sem, BigFrame.eval_const, BigFrame.eval_global, BigFrame.eval_func, ↓IntWalk.iteOmega, ev e36, hwm]
        with_reducible rfl
      apply Build.det 38 Ext.refl (by rfl) (by rfl) rfl
      case h =>   -- 4: t38 := Op.slice 22 (tmp 34) (some (tmp 37)) none none
        intro ax wx hE hR hF
        have e34 : ax.eval (.tmp 34) = _ := hF 0 (det 34 _) (by decide) (.tail _ (.tail _ (.tail _ (.head _))))
        have e37 : ax.eval (.tmp 37) = _ := hF 3 (det 37 _) (by decide) (.head _)
        simp [go_sem, BigFrame.eval_const, BigFrame.eval_global, BigFrame.eval_func, ↓IntWalk.iteOmega, ev e34, ev e37, hwm]
        with_reducible rfl
      apply Build.det 39 Ext.refl (by rfl) (by rfl) rfl
      case h =>   -- 5: t39 := Op.fieldAddr 57 (tmp 10) 1
        intro ax wx hE hR hF
        have e10 : ax.eval (.tmp 10) = .pointer (some ⟨wr.heap.size, 0, none⟩) := hE.eval 10 (by rfl) rfl
        simp [go_sem, BigFrame.eval_const, BigFrame.eval_global, BigFrame.eval_func, ↓IntWalk.iteOmega, ev e10, hwm]
        with_reducible rfl
      apply Build.det 40 Ext.refl (by rfl) (by rfl) rfl
      case h =>   -- 6: t40 := Op.load 9 (tmp 39)
        intro ax wx hE hR hF
        have e39 : ax.eval (.tmp 39) = _ := hF 5 (det 39 _) (by decide) (.head _)
        have hX2 := HBX.out.ext hR; have q0 := hX2.cell 0; have q1 := hX2.cell 1
        simp [go_sem, BigFrame.eval_const, BigFrame.eval_global, BigFrame.eval_func, ↓IntWalk.iteOmega, ev e39, hwm, q0, q1]
        with_reducible rfl
      apply Build.stop
      refine ⟨by kernel_rfl, .inr ⟨by kernel_rfl, _, rfl, rfl, ?_⟩⟩
      intro ax w5 hE R5 hF
      have e34 : ax.eval (.tmp 34) = _ := hF 0 (det 34 _) (.tail _ (.tail _ (.tail _ (.tail _ (.tail _ (.tail _ (.head _)))))))
      have e35 : ax.eval (.tmp 35) = _ := hF 1 (det 35 _) (.tail _ (.tail _ (.tail _ (.tail _ (.tail _ (.head _))))))
      have e36 : ax.eval (.tmp 36) = _ := hF 2 (det 36 _) (.tail _ (.tail _ (.tail _ (.tail _ (.head _)))))
      have e37 : ax.eval (.tmp 37) = _ := hF 3 (det 37 _) (.tail _ (.tail _ (.tail _ (.head _))))
      have e38 : ax.eval (.tmp 38) = _ := hF 4 (det 38 _) (.tail _ (.tail _ (.head _)))
      have e39 : ax.eval (.tmp 39) = _ := hF 5 (det 39 _) (.tail _ (.head _))
      have e40 : ax.eval (.tmp 40) = _ := hF 6 (det 40 _) (.head _)
      rw [AllEq.frame (D := [34, 35, 36, 37, 38, 39, 40]) (AllEq.cons e34 (AllEq.cons e35 (AllEq.cons e36 (AllEq.cons e37 (AllEq.cons e38 (AllEq.cons e39 (AllEq.cons e40 (AllEq.nil)))))))) hE rfl]
      clear hF hE e34 e35 e36 e37 e38 e39 e40
      simp only [List.foldl_cons, List.foldl_nil, Act.put, List.setIfInBounds_toArray, List.set_cons_succ, List.set_cons_zero]
      have hE5 := hEX.trans R5
      have hcp5 := HCP.out w5 hE5
      refine wp_of_value (by simp [go_sem, hcp5, hca]; exact ⟨rfl, rfl⟩) ?_
      have hB6 := HSET.out w5 hE5
      have hbl6 : Below w.heap.size w (w5.setCells w3.heap.size a (D.data.toList.map fun x => Value.int .u8 (x.toNat : Int))) := Go.below_setCells hz3 _ _ _ (hbl.trans (hE5.mono hzr))
      generalize w5.setCells w3.heap.size a (D.data.toList.map fun x => Value.int .u8 (x.toNat : Int)) = w6 at hB6 hbl6 ⊢
      clear hE5 hcp5 R5 hEX HSET HCP HBX hwm
      go_wp2_with fail
      go_roundw
      case rel => exact ⟨j + 1, by omega, by go_num, hB6, hbl6⟩
      case measure => simp [intOf]; omega
    · obtain rfl : j = len := by omega
      have hfin : applyL s.data.toList (L.take j) = applyL s.data.toList L := by rw [List.take_of_length_le (by omega)]
      rw [hfin] at hB hal
      obtain ⟨X, hX⟩ : ∃ X, applyL s.data.toList L = X := ⟨_, rfl⟩
      rw [hX] at hB hal
      have HX := Lib.hid hX
      have hcv2 := hB.conv c (16 * n) (by omega)
      clear hB hX hfin
      go_wp2_with fail
      go_ret2
      exact ⟨by rw [HX.out]; rfl, hbl⟩
end Go.Proofs.Ytoiifcmjmjkcaaa
