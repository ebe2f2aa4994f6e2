/- tierceref05: Good. Printed by gen_leafm.py. -/
import Derived.Test.YtencbdcfcpohaaaDoorKLeafBack15
namespace Go.Proofs.YtencbdcfcpohaaaDoor
set_option linter.unusedVariables false
set_option linter.unusedSimpArgs false
open Go.RowKit

set_option maxRecDepth 100000 in
set_option maxHeartbeats 8000000 in
theorem rgood_p (lv : Int) (hsg : 0 < lv) (A : Option Addr) (len cap : Nat) (xs : List (Nat × Nat)) (w : World) (hlen : xs.length = len) (hm : len ≤ 1000000) (hrow : Row w A 2 pairC xs) (hx : ∀ x ∈ xs, x.1 < 18446744073709551616) :
    Calls Tryd.prog 28 #[.agg #[.int .i64 lv, .slice A len cap]] w fun e w' => e = .returned (.bool (goodB lv xs)) ∧ Ext w w' := by
  have hE := Ext.alloc w (.cells #[.int .i64 lv, .slice A len cap] 60)
  have hX : Blk (w.alloc (.cells #[.int .i64 lv, .slice A len cap] 60)) w.heap.size 60 #[.int .i64 lv, .slice A len cap] := Blk.new _ _ _
  have hrow1 := hrow.ext hE
  have hgd := goodB_iff lv xs
  rw [hlen] at hgd
  obtain ⟨GB, hGB⟩ : ∃ g, goodB lv xs = g := ⟨_, rfl⟩
  rw [hGB] at hgd ⊢
  have HG := Lib.hid hgd
  have HE := Lib.hid hE
  have HX := Lib.hid hX
  clear hgd hGB hrow hx hE hX
  have hfalse : (¬ ((0 ≤ lv ∧ lv < 8 ∧ len ≤ 15) ∧ (lv ≤ 0 ∨ 0 < len))) → GB = false := fun h => by
    cases GB with
    | false => rfl
    | true => exact absurd ⟨(HG.out.1 rfl).1, (HG.out.1 rfl).2.1⟩ h
  have HFA := Lib.hid hfalse
  clear hfalse
  have d1 : decide (lv < 0) = false := by rw [decide_eq_false_iff_not]; omega
  have d4 : decide (0 < lv) = true := by rw [decide_eq_true_iff]; omega
  have h4 := hsg
  by_cases h2 : 7 < lv
  · have d2 : decide (7 < lv) = true := by rw [decide_eq_true_iff]; omega
    have hG : Hid (GB = false) := HFA.out (by omega)
    go_enter Tryd.func28, Tryd.ntmps28
    have q0 := HX.out.cell 0
    have q1 := HX.out.cell 1
    go_upto_region 4 with fail
    go_wp2_with fail
    go_ret
    exact ⟨by rw [hG.out] <;> rfl, HE.out⟩
  · have d2 : decide (7 < lv) = false := by rw [decide_eq_false_iff_not]; omega
    by_cases h3 : 15 < len
    · have d3 : decide ((15 : Int) < (len : Int)) = true := by rw [decide_eq_true_iff]; omega
      have hG : Hid (GB = false) := HFA.out (by omega)
      go_enter Tryd.func28, Tryd.ntmps28
      have q0 := HX.out.cell 0
      have q1 := HX.out.cell 1
      go_upto_region 4 with fail
      go_wp2_with fail
      go_ret
      exact ⟨by rw [hG.out] <;> rfl, HE.out⟩
    · have d3 : decide ((15 : Int) < (len : Int)) = false := by rw [decide_eq_false_iff_not]; omega
      · skip
        by_cases h5 : len = 0
        · have d5 : ((len : Int) == 0) = true := by simpa using h5
          have hG : Hid (GB = false) := HFA.out (by omega)
          clear h5
          go_enter Tryd.func28, Tryd.ntmps28
          have q0 := HX.out.cell 0
          have q1 := HX.out.cell 1
          go_upto_region 4 with fail
          go_wp2_with fail
          go_ret
          exact ⟨by rw [hG.out] <;> rfl, HE.out⟩
        · have d5 : ((len : Int) == 0) = false := by simpa using h5
          go_enter Tryd.func28, Tryd.ntmps28
          have q0 := HX.out.cell 0
          have q1 := HX.out.cell 1
          go_upto_region 4 with fail
          clear q0 q1
          go_loopw [3] (fun i wr => ∃ j : Nat, i = .int .i64 j ∧ j ≤ len ∧ Ext (w.alloc (.cells #[.int .i64 lv, .slice A len cap] 60)) wr ∧ Hid (∀ i, i < j → okAt lv xs i)) (fun i _ => len - (intOf i).toNat)
          case atStart => exact ⟨0, rfl, by omega, Ext.refl _, fun i hi => absurd hi (by omega)⟩
          case round =>
            obtain ⟨j, rfl, hj, hEx, HJ⟩ := hrel
            have q0 := (HX.out.ext hEx).cell 0
            have q1 := (HX.out.ext hEx).cell 1
            by_cases hlt : j < len
            · have hjx : j < xs.length := by omega
              obtain ⟨b0, o0, rfl, hlt0, -, -⟩ := hrow1.pair_in hEx hjx
              have HQ := Lib.hid (fun (W : World) (h : Ext wr W) => And.intro (hrow1.key_at (hEx.trans h) hjx) (hrow1.val_at (hEx.trans h) hjx))
              have HXX := Lib.hid (fun (W : World) (h : Ext wr W) => (HX.out.ext hEx).ext h)
              have hstep : okAt lv xs j → ∀ i, i < j + 1 → okAt lv xs i := fun h i hi => by
                by_cases e : i = j
                · subst e; exact h
                · exact HJ.out i (by omega)
              have HS := Lib.hid hstep
              have hbad : ¬ okAt lv xs j → GB = false := fun h => by
                cases GB with
                | false => rfl
                | true => exact absurd ((HG.out.1 rfl).2.2 j (by omega)) h
              have HB := Lib.hid hbad
              clear hstep hbad
              obtain ⟨V, hV⟩ : ∃ V, valAt xs j = V := ⟨_, rfl⟩
              rw [hV] at HQ
              have HV := Lib.hid hV
              clear hV
              cases j with
              | zero =>
                have hsub2 : IntKind.i64.wrap ((0 : Nat) : Int) = ((0 : Nat) : Int) := rfl
                go_upto_region 6 with fail
                have hfar : farB V = (decide (V < 1) || decide (512 ≤ V)) := rfl
                by_cases hv1 : V < 1
                · have dv : decide (V < 1) = true := by rw [decide_eq_true_iff]; omega
                  have dvi : decide ((V : Int) < 1) = true := by rw [decide_eq_true_iff]; omega
                  have hff : Hid (¬ farB V = false) := by rw [hfar, dv]; simp [Hid]
                  clear hfar
                  refine wp_typed (R := Ext) (w0 := wr) [[], [0], [0, 1], [0, 1, 2], [0, 1, 2, 3], [0, 1, 2], [0, 1, 2, 5], [0, 1, 2, 3, 4, 5, 6], [0, 1, 2, 3, 4, 5, 6, 7], [0, 1, 2, 3, 4, 5, 6, 7, 8], [0, 1, 2], [0, 1, 2, 10], [0, 1, 2], [0, 1, 2, 10, 11, 12], [0, 1, 2, 10, 11, 12, 13], [0, 1, 2, 10, 11, 12, 13, 14], [0, 1, 2, 3, 4, 5, 6, 7, 8, 9, 10, 11, 12, 13, 14, 15], [0, 1, 2, 3, 4, 5, 6, 7, 8, 9, 10, 11, 12, 13, 14, 15, 16], [0, 1, 2, 3, 4, 5, 6, 7, 8, 9, 10, 11, 12, 13, 14, 15, 16, 17], [0, 1, 2, 3, 4, 5, 6, 7, 8, 9, 10, 11, 12, 13, 14, 15, 16, 17, 18], [0, 1, 2, 3, 4, 5, 6, 7, 8, 9, 10, 11, 12, 13, 14, 15, 16, 17, 18, 19], [0, 1, 2, 3, 4, 5, 6, 7, 8, 9, 10, 11, 12, 13, 14, 15, 16, 17, 18, 19, 20], [0, 1, 2, 3, 4, 5, 6, 7, 8, 9, 10, 11, 12, 13, 14, 15, 16, 17, 18, 19, 20, 21], [0, 1, 2, 3, 4, 5, 6, 7, 8, 9, 10, 11, 12, 13, 14, 15, 16, 17, 18, 19, 20, 21, 22], [0, 1, 2, 3, 4, 5, 6, 7, 8, 9, 10, 11, 12, 13, 14, 15, 16, 17, 18, 19, 20, 21, 22, 23], [0, 1, 2, 3, 4, 5, 6, 7, 8, 9, 10, 11, 12, 13, 14, 15, 16, 17, 18, 19, 20, 21, 22], [0, 1, 2, 3, 4, 5, 6, 7, 8, 9, 10, 11, 12, 13, 14, 15, 16, 17, 18, 19, 20, 21, 22, 23, 24, 25], [0, 1, 2, 3, 4, 5, 6, 7, 8, 9, 10, 11, 12, 13, 14, 15, 16, 17, 18, 19, 20, 21, 22, 23, 24, 25, 26], [0, 1, 2, 3, 4, 5, 6, 7, 8, 9, 10, 11, 12, 13, 14, 15, 16, 17, 18, 19, 20, 21, 22, 23, 24, 25, 26, 27], [0, 1, 2, 3, 4, 5, 6, 7, 8, 9, 10, 11, 12, 13, 14, 15, 16, 17, 18, 19, 20, 21, 22, 23, 24, 25, 26, 27, 28], [0, 1, 2, 3, 4, 5, 6, 7, 8, 9, 10, 11, 12, 13, 14, 15, 16, 17, 18, 19, 20, 21, 22, 23, 24, 25, 26, 27, 28, 29], [0, 1, 2, 3, 4, 5, 6, 7, 8, 9, 10, 11, 12, 13, 14, 15, 16, 17, 18, 19, 20, 21, 22, 23, 24, 25, 26, 27, 28, 29, 30], [0, 1, 2, 3, 4, 5, 6, 7, 8, 9, 10, 11, 12, 13, 14, 15, 16, 17, 18, 19, 20, 21, 22, 23, 24, 25, 26, 27, 28, 29, 30, 31], [0, 1, 2, 3, 4, 5, 6, 7, 8, 9, 10, 11, 12, 13, 14, 15, 16, 17, 18, 19, 20, 21, 22, 23, 24, 25, 26, 27, 28, 29, 30], [0, 1, 2, 3, 4, 5, 6, 7, 8, 9, 10, 11, 12, 13, 14, 15, 16, 17, 18, 19, 20, 21, 22, 23, 24, 25, 26, 27, 28, 29, 30, 31, 32, 33], [0, 1, 2, 3, 4, 5, 6, 7, 8, 9, 10, 11, 12, 13, 14, 15, 16, 17, 18, 19, 20, 21, 22, 23, 24, 25, 26, 27, 28, 29, 30, 31, 32, 33, 34], [0, 1, 2, 3, 4, 5, 6, 7, 8, 9, 10, 11, 12, 13, 14, 15, 16, 17, 18, 19, 20, 21, 22, 23, 24, 25, 26, 27, 28, 29, 30, 31, 32, 33, 34, 35], [0, 1, 2, 3, 4, 5, 6, 7, 8, 9, 10, 11, 12, 13, 14, 15, 16, 17, 18, 19, 20, 21, 22, 23, 24, 25, 26, 27, 28, 29, 30, 31, 32, 33, 34, 35, 36], [0, 1, 2, 3, 4, 5, 6, 7, 8, 9, 10, 11, 12, 13, 14, 15, 16, 17, 18, 19, 20, 21, 22, 23, 24, 25, 26, 27, 28, 29, 30, 31, 32, 33, 34, 35, 36, 37], [0, 1, 2, 3, 4, 5, 6, 7, 8, 9, 10, 11, 12, 13, 14, 15, 16, 17, 18, 19, 20, 21, 22, 23, 24, 25, 26, 27, 28, 29, 30, 31, 32, 33, 34, 35, 36, 37, 38], [0, 1, 2, 3, 4, 5, 6, 7, 8, 9, 10, 11, 12, 13, 14, 15, 16, 17, 18, 19, 20, 21, 22, 23, 24, 25, 26, 27, 28, 29, 30, 31, 32, 33, 34, 35, 36, 37, 38, 39]] [36, 37, 38, 39, 40, 41, 42, 43, 44, 45, 46, 47, 48, 49, 50, 51, 52, 53, 54, 55, 56, 57, 58, 59, 60, 61, 62, 63, 64, 65, 66, 67, 68, 69, 70, 71, 72, 73, 74, 75, 76] Ext.refl (fun _ _ _ => Ext.trans) (Ext.drew _) (by kernel_rfl) ?_
                  apply Build.det 36 Ext.refl (by rfl) (by rfl) rfl
                  case h =>   -- 0: t36 := Op.move (tmp 3)
                    intro ax wx hE hR hF
                    have e3 : ax.eval (.tmp 3) = .int .i64 ((0 : Nat) : Int) := hE.eval 3 (by rfl) rfl
                    simp [go_sem, BigFrame.eval_const, BigFrame.eval_global, BigFrame.eval_func, ↓IntWalk.iteOmega, ev e3, hsub2, d4, dv, dvi]
                    with_reducible rfl
                  apply Build.det 37 Ext.refl (by rfl) (by rfl) rfl
                  case h =>   -- 1: t37 := Op.binOp BinOp.gtr 3 (tmp 36) (const (Value.int IntKind.i64 0)) 3
                    intro ax wx hE hR hF
                    have e36 : ax.eval (.tmp 36) = _ := hF 0 (det 36 _) (by decide) (.head _)
                    simp [go_sem, BigFrame.eval_const, BigFrame.eval_global, BigFrame.eval_func, ↓IntWalk.iteOmega, ev e36, hsub2, d4, dv, dvi]
                    with_reducible rfl
                  apply Build.det 38 Ext.refl (by rfl) (by rfl) rfl
                  case h =>   -- 2: t38 := Op.move (tmp 37)
                    intro ax wx hE hR hF
                    have e37 : ax.eval (.tmp 37) = _ := hF 1 (det 37 _) (by decide) (.head _)
                    simp [go_sem, BigFrame.eval_const, BigFrame.eval_global, BigFrame.eval_func, ↓IntWalk.iteOmega, ev e37, hsub2, d4, dv, dvi]
                    with_reducible rfl
                  refine Build.skip 39 (by rfl) (by rfl) rfl rfl ?_ ?_
                  · intro ax wx hE hR hF
                    have e38 : ax.eval (.tmp 38) = _ := hF 2 (det 38 _) (by decide) (.head _)
                    exact e38
                  refine Build.skip 40 (by rfl) (by rfl) rfl rfl ?_ ?_
                  · intro ax wx hE hR hF
                    have e38 : ax.eval (.tmp 38) = _ := hF 2 (det 38 _) (by decide) (.tail _ (.head _))
                    exact e38
                  refine Build.skip 41 (by rfl) (by rfl) rfl rfl ?_ ?_
                  · intro ax wx hE hR hF
                    have e38 : ax.eval (.tmp 38) = _ := hF 2 (det 38 _) (by decide) (.tail _ (.tail _ (.head _)))
                    exact e38
                  refine Build.skip 42 (by rfl) (by rfl) rfl rfl ?_ ?_
                  · intro ax wx hE hR hF
                    have e38 : ax.eval (.tmp 38) = _ := hF 2 (det 38 _) (by decide) (.tail _ (.tail _ (.tail _ (.head _))))
                    exact e38
                  refine Build.skip 43 (by rfl) (by rfl) rfl rfl ?_ ?_
                  · intro ax wx hE hR hF
                    have e38 : ax.eval (.tmp 38) = _ := hF 2 (det 38 _) (by decide) (mem4 (.head _))
                    exact e38
                  refine Build.skip 44 (by rfl) (by rfl) rfl rfl ?_ ?_
                  · intro ax wx hE hR hF
                    have e38 : ax.eval (.tmp 38) = _ := hF 2 (det 38 _) (by decide) (mem4 (.tail _ (.head _)))
                    exact e38
                  refine Build.skip 45 (by rfl) (by rfl) rfl rfl ?_ ?_
                  · intro ax wx hE hR hF
                    have e38 : ax.eval (.tmp 38) = _ := hF 2 (det 38 _) (by decide) (mem4 (.tail _ (.tail _ (.head _))))
                    exact e38
                  refine Build.skip 46 (by rfl) (by rfl) rfl rfl ?_ ?_
                  · intro ax wx hE hR hF
                    have e38 : ax.eval (.tmp 38) = _ := hF 2 (det 38 _) (by decide) (mem4 (.tail _ (.tail _ (.tail _ (.head _)))))
                    exact e38
                  refine Build.skip 47 (by rfl) (by rfl) rfl rfl ?_ ?_
                  · intro ax wx hE hR hF
                    have e38 : ax.eval (.tmp 38) = _ := hF 2 (det 38 _) (by decide) (mem4 (mem4 (.head _)))
                    exact e38
                  refine Build.skip 48 (by rfl) (by rfl) rfl rfl ?_ ?_
                  · intro ax wx hE hR hF
                    have e38 : ax.eval (.tmp 38) = _ := hF 2 (det 38 _) (by decide) (mem4 (mem4 (.tail _ (.head _))))
                    exact e38
                  refine Build.skip 49 (by rfl) (by rfl) rfl rfl ?_ ?_
                  · intro ax wx hE hR hF
                    have e38 : ax.eval (.tmp 38) = _ := hF 2 (det 38 _) (by decide) (mem4 (mem4 (.tail _ (.tail _ (.head _)))))
                    exact e38
                  refine Build.skip 50 (by rfl) (by rfl) rfl rfl ?_ ?_
                  · intro ax wx hE hR hF
                    have e38 : ax.eval (.tmp 38) = _ := hF 2 (det 38 _) (by decide) (mem4 (mem4 (.tail _ (.tail _ (.tail _ (.head _))))))
                    exact e38
                  refine Build.skip 51 (by rfl) (by rfl) rfl rfl ?_ ?_
                  · intro ax wx hE hR hF
                    have e38 : ax.eval (.tmp 38) = _ := hF 2 (det 38 _) (by decide) (mem4 (mem4 (mem4 (.head _))))
                    exact e38
                  refine Build.skip 52 (by rfl) (by rfl) rfl rfl ?_ ?_
                  · intro ax wx hE hR hF
                    have e38 : ax.eval (.tmp 38) = _ := hF 2 (det 38 _) (by decide) (mem4 (mem4 (mem4 (.tail _ (.head _)))))
                    exact e38
                  apply Build.det 53 Ext.refl (by rfl) (by rfl) rfl
                  case h =>   -- 17: t53 := Op.pick (tmp 38) (tmp 52) (const (Value.bool false))
                    intro ax wx hE hR hF
                    have e38 : ax.eval (.tmp 38) = _ := hF 2 (det 38 _) (by decide) (mem4 (mem4 (mem4 (.tail _ (.tail _ (.head _))))))
                    have e52 : ax.eval (.tmp 52) = _ := hF 16 (det 52 _) (by decide) (.head _)
                    simp [go_sem, BigFrame.eval_const, BigFrame.eval_global, BigFrame.eval_func, ↓IntWalk.iteOmega, ev e38, ev e52, hsub2, d4, dv, dvi]
                    with_reducible rfl
                  apply Build.det 54 Ext.refl (by rfl) (by rfl) rfl
                  case h =>   -- 18: t54 := Op.move (tmp 53)
                    intro ax wx hE hR hF
                    have e53 : ax.eval (.tmp 53) = _ := hF 17 (det 53 _) (by decide) (.head _)
                    simp [go_sem, BigFrame.eval_const, BigFrame.eval_global, BigFrame.eval_func, ↓IntWalk.iteOmega, ev e53, hsub2, d4, dv, dvi]
                    with_reducible rfl
                  apply Build.detg 55 Ext.refl (by rfl) (by rfl) rfl rfl
                  case h =>   -- 19: t55 := Op.fieldAddr 60 (tmp 1) 0
                    intro ax wx hE hR hF
                    have e1 : ax.eval (.tmp 1) = .pointer (some ⟨w.heap.size, 0, none⟩) := hE.eval 1 (by rfl) rfl
                    have e54 : ax.eval (.tmp 54) = _ := hF 18 (det 54 _) (by decide) (.head _)
                    refine ⟨e54, ?_⟩
                    simp [go_sem, BigFrame.eval_const, BigFrame.eval_global, BigFrame.eval_func, ↓IntWalk.iteOmega, ev e1, ev e54, hsub2, d4, dv, dvi]
                    with_reducible rfl
                  apply Build.detg 56 Ext.refl (by rfl) (by rfl) rfl rfl
                  case h =>   -- 20: t56 := Op.load 3 (tmp 55)
                    intro ax wx hE hR hF
                    have e54 : ax.eval (.tmp 54) = _ := hF 18 (det 54 _) (by decide) (.tail _ (.head _))
                    have e55 : ax.eval (.tmp 55) = _ := hF 19 (det 55 _) (by decide) (.head _)
                    have hX2 := HXX.out _ hR; have q0 := hX2.cell 0; have q1 := hX2.cell 1; have p1 := (HQ.out _ hR).1; have p2 := (HQ.out _ hR).2
                    refine ⟨e54, ?_⟩
                    simp [go_sem, BigFrame.eval_const, BigFrame.eval_global, BigFrame.eval_func, ↓IntWalk.iteOmega, ev e54, ev e55, hsub2, d4, dv, dvi, q0, q1, p1, p2]
                    with_reducible rfl
                  apply Build.detg 57 Ext.refl (by rfl) (by rfl) rfl rfl
                  case h =>   -- 21: t57 := Op.binOp BinOp.gtr 3 (tmp 56) (const (Value.int IntKind.i64 0)) 3
                    intro ax wx hE hR hF
                    have e54 : ax.eval (.tmp 54) = _ := hF 18 (det 54 _) (by decide) (.tail _ (.tail _ (.head _)))
                    have e56 : ax.eval (.tmp 56) = _ := hF 20 (det 56 _) (by decide) (.head _)
                    refine ⟨e54, ?_⟩
                    simp [go_sem, BigFrame.eval_const, BigFrame.eval_global, BigFrame.eval_func, ↓IntWalk.iteOmega, ev e54, ev e56, hsub2, d4, dv, dvi]
                    with_reducible rfl
                  apply Build.detg 58 Ext.refl (by rfl) (by rfl) rfl rfl
                  case h =>   -- 22: t58 := Op.move (tmp 57)
                    intro ax wx hE hR hF
                    have e54 : ax.eval (.tmp 54) = _ := hF 18 (det 54 _) (by decide) (.tail _ (.tail _ (.tail _ (.head _))))
                    have e57 : ax.eval (.tmp 57) = _ := hF 21 (det 57 _) (by decide) (.head _)
                    refine ⟨e54, ?_⟩
                    simp [go_sem, BigFrame.eval_const, BigFrame.eval_global, BigFrame.eval_func, ↓IntWalk.iteOmega, ev e54, ev e57, hsub2, d4, dv, dvi]
                    with_reducible rfl
                  apply Build.detg 59 Ext.refl (by rfl) (by rfl) rfl rfl
                  case h =>   -- 23: t59 := Op.fieldAddr 60 (tmp 1) 1
                    intro ax wx hE hR hF
                    have e1 : ax.eval (.tmp 1) = .pointer (some ⟨w.heap.size, 0, none⟩) := hE.eval 1 (by rfl) rfl
                    have e58 : ax.eval (.tmp 58) = _ := hF 22 (det 58 _) (by decide) (.head _)
                    refine ⟨e58, ?_⟩
                    simp [go_sem, BigFrame.eval_const, BigFrame.eval_global, BigFrame.eval_func, ↓IntWalk.iteOmega, ev e1, ev e58, hsub2, d4, dv, dvi]
                    with_reducible rfl
                  apply Build.detg 60 Ext.refl (by rfl) (by rfl) rfl rfl
                  case h =>   -- 24: t60 := Op.load 58 (tmp 59)
                    intro ax wx hE hR hF
                    have e58 : ax.eval (.tmp 58) = _ := hF 22 (det 58 _) (by decide) (.tail _ (.head _))
                    have e59 : ax.eval (.tmp 59) = _ := hF 23 (det 59 _) (by decide) (.head _)
                    have hX2 := HXX.out _ hR; have q0 := hX2.cell 0; have q1 := hX2.cell 1; have p1 := (HQ.out _ hR).1; have p2 := (HQ.out _ hR).2
                    refine ⟨e58, ?_⟩
                    simp [go_sem, BigFrame.eval_const, BigFrame.eval_global, BigFrame.eval_func, ↓IntWalk.iteOmega, ev e58, ev e59, hsub2, d4, dv, dvi, q0, q1, p1, p2]
                    with_reducible rfl
                  apply Build.detg 61 Ext.refl (by rfl) (by rfl) rfl rfl
                  case h =>   -- 25: t61 := Op.move (tmp 3)
                    intro ax wx hE hR hF
                    have e3 : ax.eval (.tmp 3) = .int .i64 ((0 : Nat) : Int) := hE.eval 3 (by rfl) rfl
                    have e58 : ax.eval (.tmp 58) = _ := hF 22 (det 58 _) (by decide) (.tail _ (.tail _ (.head _)))
                    refine ⟨e58, ?_⟩
                    simp [go_sem, BigFrame.eval_const, BigFrame.eval_global, BigFrame.eval_func, ↓IntWalk.iteOmega, ev e3, ev e58, hsub2, d4, dv, dvi]
                    with_reducible rfl
                  apply Build.detg 62 Ext.refl (by rfl) (by rfl) rfl rfl
                  case h =>   -- 26: t62 := Op.indexAddr 58 (tmp 60) (tmp 61)
                    intro ax wx hE hR hF
                    have e58 : ax.eval (.tmp 58) = _ := hF 22 (det 58 _) (by decide) (.tail _ (.tail _ (.tail _ (.head _))))
                    have e60 : ax.eval (.tmp 60) = _ := hF 24 (det 60 _) (by decide) (.tail _ (.head _))
                    have e61 : ax.eval (.tmp 61) = _ := hF 25 (det 61 _) (by decide) (.head _)
                    refine ⟨e58, ?_⟩
                    simp [go_sem, BigFrame.eval_const, BigFrame.eval_global, BigFrame.eval_func, ↓IntWalk.iteOmega, ev e58, ev e60, ev e61, hsub2, d4, dv, dvi]
                    with_reducible rfl
                  apply Build.detg 63 Ext.refl (by rfl) (by rfl) rfl rfl
                  case h =>   -- 27: t63 := Op.fieldAddr 72 (tmp 62) 1
                    intro ax wx hE hR hF
                    have e58 : ax.eval (.tmp 58) = _ := hF 22 (det 58 _) (by decide) (mem4 (.head _))
                    have e62 : ax.eval (.tmp 62) = _ := hF 26 (det 62 _) (by decide) (.head _)
                    refine ⟨e58, ?_⟩
                    simp [go_sem, BigFrame.eval_const, BigFrame.eval_global, BigFrame.eval_func, ↓IntWalk.iteOmega, ev e58, ev e62, hsub2, d4, dv, dvi]
                    with_reducible rfl
                  apply Build.detg 64 Ext.refl (by rfl) (by rfl) rfl rfl
                  case h =>   -- 28: t64 := Op.load 31 (tmp 63)
                    intro ax wx hE hR hF
                    have e58 : ax.eval (.tmp 58) = _ := hF 22 (det 58 _) (by decide) (mem4 (.tail _ (.head _)))
                    have e63 : ax.eval (.tmp 63) = _ := hF 27 (det 63 _) (by decide) (.head _)
                    have hX2 := HXX.out _ hR; have q0 := hX2.cell 0; have q1 := hX2.cell 1; have p1 := (HQ.out _ hR).1; have p2 := (HQ.out _ hR).2
                    refine ⟨e58, ?_⟩
                    simp [go_sem, BigFrame.eval_const, BigFrame.eval_global, BigFrame.eval_func, ↓IntWalk.iteOmega, ev e58, ev e63, hsub2, d4, dv, dvi, q0, q1, p1, p2]
                    with_reducible rfl
                  apply Build.detg 65 Ext.refl (by rfl) (by rfl) rfl rfl
                  case h =>   -- 29: t65 := Op.binOp BinOp.lss 31 (tmp 64) (const (Value.int IntKind.u64 1)) 31
                    intro ax wx hE hR hF
                    have e58 : ax.eval (.tmp 58) = _ := hF 22 (det 58 _) (by decide) (mem4 (.tail _ (.tail _ (.head _))))
                    have e64 : ax.eval (.tmp 64) = _ := hF 28 (det 64 _) (by decide) (.head _)
                    refine ⟨e58, ?_⟩
                    simp [go_sem, BigFrame.eval_const, BigFrame.eval_global, BigFrame.eval_func, ↓IntWalk.iteOmega, ev e58, ev e64, hsub2, d4, dv, dvi]
                    with_reducible rfl
                  apply Build.detg 66 Ext.refl (by rfl) (by rfl) rfl rfl
                  case h =>   -- 30: t66 := Op.move (tmp 65)
                    intro ax wx hE hR hF
                    have e58 : ax.eval (.tmp 58) = _ := hF 22 (det 58 _) (by decide) (mem4 (.tail _ (.tail _ (.tail _ (.head _)))))
                    have e65 : ax.eval (.tmp 65) = _ := hF 29 (det 65 _) (by decide) (.head _)
                    refine ⟨e58, ?_⟩
                    simp [go_sem, BigFrame.eval_const, BigFrame.eval_global, BigFrame.eval_func, ↓IntWalk.iteOmega, ev e58, ev e65, hsub2, d4, dv, dvi]
                    with_reducible rfl
                  refine Build.skip 67 (by rfl) (by rfl) rfl rfl ?_ ?_
                  · intro ax wx hE hR hF
                    have e66 : ax.eval (.tmp 66) = _ := hF 30 (det 66 _) (by decide) (.head _)
                    exact e66
                  refine Build.skip 68 (by rfl) (by rfl) rfl rfl ?_ ?_
                  · intro ax wx hE hR hF
                    have e66 : ax.eval (.tmp 66) = _ := hF 30 (det 66 _) (by decide) (.tail _ (.head _))
                    exact e66
                  refine Build.skip 69 (by rfl) (by rfl) rfl rfl ?_ ?_
                  · intro ax wx hE hR hF
                    have e66 : ax.eval (.tmp 66) = _ := hF 30 (det 66 _) (by decide) (.tail _ (.tail _ (.head _)))
                    exact e66
                  refine Build.skip 70 (by rfl) (by rfl) rfl rfl ?_ ?_
                  · intro ax wx hE hR hF
                    have e66 : ax.eval (.tmp 66) = _ := hF 30 (det 66 _) (by decide) (.tail _ (.tail _ (.tail _ (.head _))))
                    exact e66
                  refine Build.skip 71 (by rfl) (by rfl) rfl rfl ?_ ?_
                  · intro ax wx hE hR hF
                    have e66 : ax.eval (.tmp 66) = _ := hF 30 (det 66 _) (by decide) (mem4 (.head _))
                    exact e66
                  refine Build.skip 72 (by rfl) (by rfl) rfl rfl ?_ ?_
                  · intro ax wx hE hR hF
                    have e66 : ax.eval (.tmp 66) = _ := hF 30 (det 66 _) (by decide) (mem4 (.tail _ (.head _)))
                    exact e66
                  refine Build.skip 73 (by rfl) (by rfl) rfl rfl ?_ ?_
                  · intro ax wx hE hR hF
                    have e66 : ax.eval (.tmp 66) = _ := hF 30 (det 66 _) (by decide) (mem4 (.tail _ (.tail _ (.head _))))
                    exact e66
                  apply Build.detg 74 Ext.refl (by rfl) (by rfl) rfl rfl
                  case h =>   -- 38: t74 := Op.pick (tmp 66) (const (Value.bool true)) (tmp 73)
                    intro ax wx hE hR hF
                    have e58 : ax.eval (.tmp 58) = _ := hF 22 (det 58 _) (by decide) (mem4 (mem4 (mem4 (.tail _ (.tail _ (.tail _ (.head _)))))))
                    have e66 : ax.eval (.tmp 66) = _ := hF 30 (det 66 _) (by decide) (mem4 (.tail _ (.tail _ (.tail _ (.head _)))))
                    have e73 : ax.eval (.tmp 73) = _ := hF 37 (det 73 _) (by decide) (.head _)
                    refine ⟨e58, ?_⟩
                    simp [go_sem, BigFrame.eval_const, BigFrame.eval_global, BigFrame.eval_func, ↓IntWalk.iteOmega, ev e58, ev e66, ev e73, hsub2, d4, dv, dvi]
                    with_reducible rfl
                  apply Build.detg 75 Ext.refl (by rfl) (by rfl) rfl rfl
                  case h =>   -- 39: t75 := Op.pick (tmp 58) (tmp 74) (const (Value.bool false))
                    intro ax wx hE hR hF
                    have e54 : ax.eval (.tmp 54) = _ := hF 18 (det 54 _) (by decide) (mem16 (mem4 (.head _)))
                    have e58 : ax.eval (.tmp 58) = _ := hF 22 (det 58 _) (by decide) (mem16 (.head _))
                    have e74 : ax.eval (.tmp 74) = _ := hF 38 (det 74 _) (by decide) (.head _)
                    refine ⟨e54, ?_⟩
                    simp [go_sem, BigFrame.eval_const, BigFrame.eval_global, BigFrame.eval_func, ↓IntWalk.iteOmega, ev e54, ev e58, ev e74, hsub2, d4, dv, dvi]
                    with_reducible rfl
                  apply Build.det 76 Ext.refl (by rfl) (by rfl) rfl
                  case h =>   -- 40: t76 := Op.pick (tmp 54) (const (Value.bool true)) (tmp 75)
                    intro ax wx hE hR hF
                    have e54 : ax.eval (.tmp 54) = _ := hF 18 (det 54 _) (by decide) (mem16 (mem4 (.tail _ (.head _))))
                    have e75 : ax.eval (.tmp 75) = _ := hF 39 (det 75 _) (by decide) (.head _)
                    simp [go_sem, BigFrame.eval_const, BigFrame.eval_global, BigFrame.eval_func, ↓IntWalk.iteOmega, ev e54, ev e75, hsub2, d4, dv, dvi]
                    with_reducible rfl
                  apply Build.stop
                  refine ⟨by kernel_rfl, .inl ⟨rfl, ?_⟩⟩
                  intro ax w2 hE R2 hF
                  have e36 : ax.eval (.tmp 36) = _ := hF 0 (det 36 _) (mem16 (mem16 (mem4 (mem4 (.head _)))))
                  have e37 : ax.eval (.tmp 37) = _ := hF 1 (det 37 _) (mem16 (mem16 (mem4 (.tail _ (.tail _ (.tail _ (.head _)))))))
                  have e38 : ax.eval (.tmp 38) = _ := hF 2 (det 38 _) (mem16 (mem16 (mem4 (.tail _ (.tail _ (.head _))))))
                  have e39 : ax.eval (.tmp 39) = _ := hF 3 (det 39 _) (mem16 (mem16 (mem4 (.tail _ (.head _)))))
                  have e40 : ax.eval (.tmp 40) = _ := hF 4 (det 40 _) (mem16 (mem16 (mem4 (.head _))))
                  have e41 : ax.eval (.tmp 41) = _ := hF 5 (det 41 _) (mem16 (mem16 (.tail _ (.tail _ (.tail _ (.head _))))))
                  have e42 : ax.eval (.tmp 42) = _ := hF 6 (det 42 _) (mem16 (mem16 (.tail _ (.tail _ (.head _)))))
                  have e43 : ax.eval (.tmp 43) = _ := hF 7 (det 43 _) (mem16 (mem16 (.tail _ (.head _))))
                  have e44 : ax.eval (.tmp 44) = _ := hF 8 (det 44 _) (mem16 (mem16 (.head _)))
                  have e45 : ax.eval (.tmp 45) = _ := hF 9 (det 45 _) (mem16 (mem4 (mem4 (mem4 (.tail _ (.tail _ (.tail _ (.head _))))))))
                  have e46 : ax.eval (.tmp 46) = _ := hF 10 (det 46 _) (mem16 (mem4 (mem4 (mem4 (.tail _ (.tail _ (.head _)))))))
                  have e47 : ax.eval (.tmp 47) = _ := hF 11 (det 47 _) (mem16 (mem4 (mem4 (mem4 (.tail _ (.head _))))))
                  have e48 : ax.eval (.tmp 48) = _ := hF 12 (det 48 _) (mem16 (mem4 (mem4 (mem4 (.head _)))))
                  have e49 : ax.eval (.tmp 49) = _ := hF 13 (det 49 _) (mem16 (mem4 (mem4 (.tail _ (.tail _ (.tail _ (.head _)))))))
                  have e50 : ax.eval (.tmp 50) = _ := hF 14 (det 50 _) (mem16 (mem4 (mem4 (.tail _ (.tail _ (.head _))))))
                  have e51 : ax.eval (.tmp 51) = _ := hF 15 (det 51 _) (mem16 (mem4 (mem4 (.tail _ (.head _)))))
                  have e52 : ax.eval (.tmp 52) = _ := hF 16 (det 52 _) (mem16 (mem4 (mem4 (.head _))))
                  have e53 : ax.eval (.tmp 53) = _ := hF 17 (det 53 _) (mem16 (mem4 (.tail _ (.tail _ (.tail _ (.head _))))))
                  have e54 : ax.eval (.tmp 54) = _ := hF 18 (det 54 _) (mem16 (mem4 (.tail _ (.tail _ (.head _)))))
                  have e55 : ax.eval (.tmp 55) = _ := hF 19 (det 55 _) (mem16 (mem4 (.tail _ (.head _))))
                  have e56 : ax.eval (.tmp 56) = _ := hF 20 (det 56 _) (mem16 (mem4 (.head _)))
                  have e57 : ax.eval (.tmp 57) = _ := hF 21 (det 57 _) (mem16 (.tail _ (.tail _ (.tail _ (.head _)))))
                  have e58 : ax.eval (.tmp 58) = _ := hF 22 (det 58 _) (mem16 (.tail _ (.tail _ (.head _))))
                  have e59 : ax.eval (.tmp 59) = _ := hF 23 (det 59 _) (mem16 (.tail _ (.head _)))
                  have e60 : ax.eval (.tmp 60) = _ := hF 24 (det 60 _) (mem16 (.head _))
                  have e61 : ax.eval (.tmp 61) = _ := hF 25 (det 61 _) (mem4 (mem4 (mem4 (.tail _ (.tail _ (.tail _ (.head _)))))))
                  have e62 : ax.eval (.tmp 62) = _ := hF 26 (det 62 _) (mem4 (mem4 (mem4 (.tail _ (.tail _ (.head _))))))
                  have e63 : ax.eval (.tmp 63) = _ := hF 27 (det 63 _) (mem4 (mem4 (mem4 (.tail _ (.head _)))))
                  have e64 : ax.eval (.tmp 64) = _ := hF 28 (det 64 _) (mem4 (mem4 (mem4 (.head _))))
                  have e65 : ax.eval (.tmp 65) = _ := hF 29 (det 65 _) (mem4 (mem4 (.tail _ (.tail _ (.tail _ (.head _))))))
                  have e66 : ax.eval (.tmp 66) = _ := hF 30 (det 66 _) (mem4 (mem4 (.tail _ (.tail _ (.head _)))))
                  have e67 : ax.eval (.tmp 67) = _ := hF 31 (det 67 _) (mem4 (mem4 (.tail _ (.head _))))
                  have e68 : ax.eval (.tmp 68) = _ := hF 32 (det 68 _) (mem4 (mem4 (.head _)))
                  have e69 : ax.eval (.tmp 69) = _ := hF 33 (det 69 _) (mem4 (.tail _ (.tail _ (.tail _ (.head _)))))
                  have e70 : ax.eval (.tmp 70) = _ := hF 34 (det 70 _) (mem4 (.tail _ (.tail _ (.head _))))
                  have e71 : ax.eval (.tmp 71) = _ := hF 35 (det 71 _) (mem4 (.tail _ (.head _)))
                  have e72 : ax.eval (.tmp 72) = _ := hF 36 (det 72 _) (mem4 (.head _))
                  have e73 : ax.eval (.tmp 73) = _ := hF 37 (det 73 _) (.tail _ (.tail _ (.tail _ (.head _))))
                  have e74 : ax.eval (.tmp 74) = _ := hF 38 (det 74 _) (.tail _ (.tail _ (.head _)))
                  have e75 : ax.eval (.tmp 75) = _ := hF 39 (det 75 _) (.tail _ (.head _))
                  have e76 : ax.eval (.tmp 76) = _ := hF 40 (det 76 _) (.head _)
                  rw [AllEq.frame (D := [36, 37, 38, 39, 40, 41, 42, 43, 44, 45, 46, 47, 48, 49, 50, 51, 52, 53, 54, 55, 56, 57, 58, 59, 60, 61, 62, 63, 64, 65, 66, 67, 68, 69, 70, 71, 72, 73, 74, 75, 76]) (AllEq.cons e36 (AllEq.cons e37 (AllEq.cons e38 (AllEq.cons e39 (AllEq.cons e40 (AllEq.cons e41 (AllEq.cons e42 (AllEq.cons e43 (AllEq.cons e44 (AllEq.cons e45 (AllEq.cons e46 (AllEq.cons e47 (AllEq.cons e48 (AllEq.cons e49 (AllEq.cons e50 (AllEq.cons e51 (AllEq.cons e52 (AllEq.cons e53 (AllEq.cons e54 (AllEq.cons e55 (AllEq.cons e56 (AllEq.cons e57 (AllEq.cons e58 (AllEq.cons e59 (AllEq.cons e60 (AllEq.cons e61 (AllEq.cons e62 (AllEq.cons e63 (AllEq.cons e64 (AllEq.cons e65 (AllEq.cons e66 (AllEq.cons e67 (AllEq.cons e68 (AllEq.cons e69 (AllEq.cons e70 (AllEq.cons e71 (AllEq.cons e72 (AllEq.cons e73 (AllEq.cons e74 (AllEq.cons e75 (AllEq.cons e76 (AllEq.nil)))))))))))))))))))))))))))))))))))))))))) hE rfl]
                  clear hF hE e36 e37 e38 e39 e40 e41 e42 e43 e44 e45 e46 e47 e48 e49 e50 e51 e52 e53 e54 e55 e56 e57 e58 e59 e60 e61 e62 e63 e64 e65 e66 e67 e68 e69 e70 e71 e72 e73 e74 e75 e76
                  simp only [List.foldl_cons, List.foldl_nil, Act.put, List.setIfInBounds_toArray, List.set_cons_succ, List.set_cons_zero]
                  have hEx := hEx.trans R2
                  have hG : Hid (GB = false) := HB.out (fun h => h.2.elim (fun h => by omega) (fun h => hff.out (HV.out ▸ h)))
                  go_wp2_with fail
                  go_ret
                  exact ⟨by rw [hG.out] <;> rfl, HE.out.trans hEx⟩
                · have dv : decide (V < 1) = false := by rw [decide_eq_false_iff_not]; omega
                  have dvi : decide ((V : Int) < 1) = false := by rw [decide_eq_false_iff_not]; omega
                  by_cases hv2 : 511 < V
                  · have dw : decide (511 < V) = true := by rw [decide_eq_true_iff]; omega
                    have dwi : decide ((511 : Int) < (V : Int)) = true := by rw [decide_eq_true_iff]; omega
                    have dw2 : decide (512 ≤ V) = true := by rw [decide_eq_true_iff]; omega
                    have hff : Hid (¬ farB V = false) := by rw [hfar, dw2]; simp [Hid]
                    clear hfar dw2
                    refine wp_typed (R := Ext) (w0 := wr) [[], [0], [0, 1], [0, 1, 2], [0, 1, 2, 3], [0, 1, 2], [0, 1, 2, 5], [0, 1, 2, 3, 4, 5, 6], [0, 1, 2, 3, 4, 5, 6, 7], [0, 1, 2, 3, 4, 5, 6, 7, 8], [0, 1, 2], [0, 1, 2, 10], [0, 1, 2], [0, 1, 2, 10, 11, 12], [0, 1, 2, 10, 11, 12, 13], [0, 1, 2, 10, 11, 12, 13, 14], [0, 1, 2, 3, 4, 5, 6, 7, 8, 9, 10, 11, 12, 13, 14, 15], [0, 1, 2, 3, 4, 5, 6, 7, 8, 9, 10, 11, 12, 13, 14, 15, 16], [0, 1, 2, 3, 4, 5, 6, 7, 8, 9, 10, 11, 12, 13, 14, 15, 16, 17], [0, 1, 2, 3, 4, 5, 6, 7, 8, 9, 10, 11, 12, 13, 14, 15, 16, 17, 18], [0, 1, 2, 3, 4, 5, 6, 7, 8, 9, 10, 11, 12, 13, 14, 15, 16, 17, 18, 19], [0, 1, 2, 3, 4, 5, 6, 7, 8, 9, 10, 11, 12, 13, 14, 15, 16, 17, 18, 19, 20], [0, 1, 2, 3, 4, 5, 6, 7, 8, 9, 10, 11, 12, 13, 14, 15, 16, 17, 18, 19, 20, 21], [0, 1, 2, 3, 4, 5, 6, 7, 8, 9, 10, 11, 12, 13, 14, 15, 16, 17, 18, 19, 20, 21, 22], [0, 1, 2, 3, 4, 5, 6, 7, 8, 9, 10, 11, 12, 13, 14, 15, 16, 17, 18, 19, 20, 21, 22, 23], [0, 1, 2, 3, 4, 5, 6, 7, 8, 9, 10, 11, 12, 13, 14, 15, 16, 17, 18, 19, 20, 21, 22], [0, 1, 2, 3, 4, 5, 6, 7, 8, 9, 10, 11, 12, 13, 14, 15, 16, 17, 18, 19, 20, 21, 22, 23, 24, 25], [0, 1, 2, 3, 4, 5, 6, 7, 8, 9, 10, 11, 12, 13, 14, 15, 16, 17, 18, 19, 20, 21, 22, 23, 24, 25, 26], [0, 1, 2, 3, 4, 5, 6, 7, 8, 9, 10, 11, 12, 13, 14, 15, 16, 17, 18, 19, 20, 21, 22, 23, 24, 25, 26, 27], [0, 1, 2, 3, 4, 5, 6, 7, 8, 9, 10, 11, 12, 13, 14, 15, 16, 17, 18, 19, 20, 21, 22, 23, 24, 25, 26, 27, 28], [0, 1, 2, 3, 4, 5, 6, 7, 8, 9, 10, 11, 12, 13, 14, 15, 16, 17, 18, 19, 20, 21, 22, 23, 24, 25, 26, 27, 28, 29], [0, 1, 2, 3, 4, 5, 6, 7, 8, 9, 10, 11, 12, 13, 14, 15, 16, 17, 18, 19, 20, 21, 22, 23, 24, 25, 26, 27, 28, 29, 30], [0, 1, 2, 3, 4, 5, 6, 7, 8, 9, 10, 11, 12, 13, 14, 15, 16, 17, 18, 19, 20, 21, 22, 23, 24, 25, 26, 27, 28, 29, 30, 31], [0, 1, 2, 3, 4, 5, 6, 7, 8, 9, 10, 11, 12, 13, 14, 15, 16, 17, 18, 19, 20, 21, 22, 23, 24, 25, 26, 27, 28, 29, 30], [0, 1, 2, 3, 4, 5, 6, 7, 8, 9, 10, 11, 12, 13, 14, 15, 16, 17, 18, 19, 20, 21, 22, 23, 24, 25, 26, 27, 28, 29, 30, 31, 32, 33], [0, 1, 2, 3, 4, 5, 6, 7, 8, 9, 10, 11, 12, 13, 14, 15, 16, 17, 18, 19, 20, 21, 22, 23, 24, 25, 26, 27, 28, 29, 30, 31, 32, 33, 34], [0, 1, 2, 3, 4, 5, 6, 7, 8, 9, 10, 11, 12, 13, 14, 15, 16, 17, 18, 19, 20, 21, 22, 23, 24, 25, 26, 27, 28, 29, 30, 31, 32, 33, 34, 35], [0, 1, 2, 3, 4, 5, 6, 7, 8, 9, 10, 11, 12, 13, 14, 15, 16, 17, 18, 19, 20, 21, 22, 23, 24, 25, 26, 27, 28, 29, 30, 31, 32, 33, 34, 35, 36], [0, 1, 2, 3, 4, 5, 6, 7, 8, 9, 10, 11, 12, 13, 14, 15, 16, 17, 18, 19, 20, 21, 22, 23, 24, 25, 26, 27, 28, 29, 30, 31, 32, 33, 34, 35, 36, 37], [0, 1, 2, 3, 4, 5, 6, 7, 8, 9, 10, 11, 12, 13, 14, 15, 16, 17, 18, 19, 20, 21, 22, 23, 24, 25, 26, 27, 28, 29, 30, 31, 32, 33, 34, 35, 36, 37, 38], [0, 1, 2, 3, 4, 5, 6, 7, 8, 9, 10, 11, 12, 13, 14, 15, 16, 17, 18, 19, 20, 21, 22, 23, 24, 25, 26, 27, 28, 29, 30, 31, 32, 33, 34, 35, 36, 37, 38, 39]] [36, 37, 38, 39, 40, 41, 42, 43, 44, 45, 46, 47, 48, 49, 50, 51, 52, 53, 54, 55, 56, 57, 58, 59, 60, 61, 62, 63, 64, 65, 66, 67, 68, 69, 70, 71, 72, 73, 74, 75, 76] Ext.refl (fun _ _ _ => Ext.trans) (Ext.drew _) (by kernel_rfl) ?_
                    apply Build.det 36 Ext.refl (by rfl) (by rfl) rfl
                    case h =>   -- 0: t36 := Op.move (tmp 3)
                      intro ax wx hE hR hF
                      have e3 : ax.eval (.tmp 3) = .int .i64 ((0 : Nat) : Int) := hE.eval 3 (by rfl) rfl
                      simp [go_sem, BigFrame.eval_const, BigFrame.eval_global, BigFrame.eval_func, ↓IntWalk.iteOmega, ev e3, hsub2, d4, dv, dvi, dw, dwi]
                      with_reducible rfl
                    apply Build.det 37 Ext.refl (by rfl) (by rfl) rfl
                    case h =>   -- 1: t37 := Op.binOp BinOp.gtr 3 (tmp 36) (const (Value.int IntKind.i64 0)) 3
                      intro ax wx hE hR hF
                      have e36 : ax.eval (.tmp 36) = _ := hF 0 (det 36 _) (by decide) (.head _)
                      simp [go_sem, BigFrame.eval_const, BigFrame.eval_global, BigFrame.eval_func, ↓IntWalk.iteOmega, ev e36, hsub2, d4, dv, dvi, dw, dwi]
                      with_reducible rfl
                    apply Build.det 38 Ext.refl (by rfl) (by rfl) rfl
                    case h =>   -- 2: t38 := Op.move (tmp 37)
                      intro ax wx hE hR hF
                      have e37 : ax.eval (.tmp 37) = _ := hF 1 (det 37 _) (by decide) (.head _)
                      simp [go_sem, BigFrame.eval_const, BigFrame.eval_global, BigFrame.eval_func, ↓IntWalk.iteOmega, ev e37, hsub2, d4, dv, dvi, dw, dwi]
                      with_reducible rfl
                    refine Build.skip 39 (by rfl) (by rfl) rfl rfl ?_ ?_
                    · intro ax wx hE hR hF
                      have e38 : ax.eval (.tmp 38) = _ := hF 2 (det 38 _) (by decide) (.head _)
                      exact e38
                    refine Build.skip 40 (by rfl) (by rfl) rfl rfl ?_ ?_
                    · intro ax wx hE hR hF
                      have e38 : ax.eval (.tmp 38) = _ := hF 2 (det 38 _) (by decide) (.tail _ (.head _))
                      exact e38
                    refine Build.skip 41 (by rfl) (by rfl) rfl rfl ?_ ?_
                    · intro ax wx hE hR hF
                      have e38 : ax.eval (.tmp 38) = _ := hF 2 (det 38 _) (by decide) (.tail _ (.tail _ (.head _)))
                      exact e38
                    refine Build.skip 42 (by rfl) (by rfl) rfl rfl ?_ ?_
                    · intro ax wx hE hR hF
                      have e38 : ax.eval (.tmp 38) = _ := hF 2 (det 38 _) (by decide) (.tail _ (.tail _ (.tail _ (.head _))))
                      exact e38
                    refine Build.skip 43 (by rfl) (by rfl) rfl rfl ?_ ?_
                    · intro ax wx hE hR hF
                      have e38 : ax.eval (.tmp 38) = _ := hF 2 (det 38 _) (by decide) (mem4 (.head _))
                      exact e38
                    refine Build.skip 44 (by rfl) (by rfl) rfl rfl ?_ ?_
                    · intro ax wx hE hR hF
                      have e38 : ax.eval (.tmp 38) = _ := hF 2 (det 38 _) (by decide) (mem4 (.tail _ (.head _)))
                      exact e38
                    refine Build.skip 45 (by rfl) (by rfl) rfl rfl ?_ ?_
                    · intro ax wx hE hR hF
                      have e38 : ax.eval (.tmp 38) = _ := hF 2 (det 38 _) (by decide) (mem4 (.tail _ (.tail _ (.head _))))
                      exact e38
                    refine Build.skip 46 (by rfl) (by rfl) rfl rfl ?_ ?_
                    · intro ax wx hE hR hF
                      have e38 : ax.eval (.tmp 38) = _ := hF 2 (det 38 _) (by decide) (mem4 (.tail _ (.tail _ (.tail _ (.head _)))))
                      exact e38
                    refine Build.skip 47 (by rfl) (by rfl) rfl rfl ?_ ?_
                    · intro ax wx hE hR hF
                      have e38 : ax.eval (.tmp 38) = _ := hF 2 (det 38 _) (by decide) (mem4 (mem4 (.head _)))
                      exact e38
                    refine Build.skip 48 (by rfl) (by rfl) rfl rfl ?_ ?_
                    · intro ax wx hE hR hF
                      have e38 : ax.eval (.tmp 38) = _ := hF 2 (det 38 _) (by decide) (mem4 (mem4 (.tail _ (.head _))))
                      exact e38
                    refine Build.skip 49 (by rfl) (by rfl) rfl rfl ?_ ?_
                    · intro ax wx hE hR hF
                      have e38 : ax.eval (.tmp 38) = _ := hF 2 (det 38 _) (by decide) (mem4 (mem4 (.tail _ (.tail _ (.head _)))))
                      exact e38
                    refine Build.skip 50 (by rfl) (by rfl) rfl rfl ?_ ?_
                    · intro ax wx hE hR hF
                      have e38 : ax.eval (.tmp 38) = _ := hF 2 (det 38 _) (by decide) (mem4 (mem4 (.tail _ (.tail _ (.tail _ (.head _))))))
                      exact e38
                    refine Build.skip 51 (by rfl) (by rfl) rfl rfl ?_ ?_
                    · intro ax wx hE hR hF
                      have e38 : ax.eval (.tmp 38) = _ := hF 2 (det 38 _) (by decide) (mem4 (mem4 (mem4 (.head _))))
                      exact e38
                    refine Build.skip 52 (by rfl) (by rfl) rfl rfl ?_ ?_
                    · intro ax wx hE hR hF
                      have e38 : ax.eval (.tmp 38) = _ := hF 2 (det 38 _) (by decide) (mem4 (mem4 (mem4 (.tail _ (.head _)))))
                      exact e38
                    apply Build.det 53 Ext.refl (by rfl) (by rfl) rfl
                    case h =>   -- 17: t53 := Op.pick (tmp 38) (tmp 52) (const (Value.bool false))
                      intro ax wx hE hR hF
                      have e38 : ax.eval (.tmp 38) = _ := hF 2 (det 38 _) (by decide) (mem4 (mem4 (mem4 (.tail _ (.tail _ (.head _))))))
                      have e52 : ax.eval (.tmp 52) = _ := hF 16 (det 52 _) (by decide) (.head _)
                      simp [go_sem, BigFrame.eval_const, BigFrame.eval_global, BigFrame.eval_func, ↓IntWalk.iteOmega, ev e38, ev e52, hsub2, d4, dv, dvi, dw, dwi]
                      with_reducible rfl
                    apply Build.det 54 Ext.refl (by rfl) (by rfl) rfl
                    case h =>   -- 18: t54 := Op.move (tmp 53)
                      intro ax wx hE hR hF
                      have e53 : ax.eval (.tmp 53) = _ := hF 17 (det 53 _) (by decide) (.head _)
                      simp [go_sem, BigFrame.eval_const, BigFrame.eval_global, BigFrame.eval_func, ↓IntWalk.iteOmega, ev e53, hsub2, d4, dv, dvi, dw, dwi]
                      with_reducible rfl
                    apply Build.detg 55 Ext.refl (by rfl) (by rfl) rfl rfl
                    case h =>   -- 19: t55 := Op.fieldAddr 60 (tmp 1) 0
                      intro ax wx hE hR hF
                      have e1 : ax.eval (.tmp 1) = .pointer (some ⟨w.heap.size, 0, none⟩) := hE.eval 1 (by rfl) rfl
                      have e54 : ax.eval (.tmp 54) = _ := hF 18 (det 54 _) (by decide) (.head _)
                      refine ⟨e54, ?_⟩
                      simp [go_sem, BigFrame.eval_const, BigFrame.eval_global, BigFrame.eval_func, ↓IntWalk.iteOmega, ev e1, ev e54, hsub2, d4, dv, dvi, dw, dwi]
                      with_reducible rfl
                    apply Build.detg 56 Ext.refl (by rfl) (by rfl) rfl rfl
                    case h =>   -- 20: t56 := Op.load 3 (tmp 55)
                      intro ax wx hE hR hF
                      have e54 : ax.eval (.tmp 54) = _ := hF 18 (det 54 _) (by decide) (.tail _ (.head _))
                      have e55 : ax.eval (.tmp 55) = _ := hF 19 (det 55 _) (by decide) (.head _)
                      have hX2 := HXX.out _ hR; have q0 := hX2.cell 0; have q1 := hX2.cell 1; have p1 := (HQ.out _ hR).1; have p2 := (HQ.out _ hR).2
                      refine ⟨e54, ?_⟩
                      simp [go_sem, BigFrame.eval_const, BigFrame.eval_global, BigFrame.eval_func, ↓IntWalk.iteOmega, ev e54, ev e55, hsub2, d4, dv, dvi, dw, dwi, q0, q1, p1, p2]
                      with_reducible rfl
                    apply Build.detg 57 Ext.refl (by rfl) (by rfl) rfl rfl
                    case h =>   -- 21: t57 := Op.binOp BinOp.gtr 3 (tmp 56) (const (Value.int IntKind.i64 0)) 3
                      intro ax wx hE hR hF
                      have e54 : ax.eval (.tmp 54) = _ := hF 18 (det 54 _) (by decide) (.tail _ (.tail _ (.head _)))
                      have e56 : ax.eval (.tmp 56) = _ := hF 20 (det 56 _) (by decide) (.head _)
                      refine ⟨e54, ?_⟩
                      simp [go_sem, BigFrame.eval_const, BigFrame.eval_global, BigFrame.eval_func, ↓IntWalk.iteOmega, ev e54, ev e56, hsub2, d4, dv, dvi, dw, dwi]
                      with_reducible rfl
                    apply Build.detg 58 Ext.refl (by rfl) (by rfl) rfl rfl
                    case h =>   -- 22: t58 := Op.move (tmp 57)
                      intro ax wx hE hR hF
                      have e54 : ax.eval (.tmp 54) = _ := hF 18 (det 54 _) (by decide) (.tail _ (.tail _ (.tail _ (.head _))))
                      have e57 : ax.eval (.tmp 57) = _ := hF 21 (det 57 _) (by decide) (.head _)
                      refine ⟨e54, ?_⟩
                      simp [go_sem, BigFrame.eval_const, BigFrame.eval_global, BigFrame.eval_func, ↓IntWalk.iteOmega, ev e54, ev e57, hsub2, d4, dv, dvi, dw, dwi]
                      with_reducible rfl
                    apply Build.detg 59 Ext.refl (by rfl) (by rfl) rfl rfl
                    case h =>   -- 23: t59 := Op.fieldAddr 60 (tmp 1) 1
                      intro ax wx hE hR hF
                      have e1 : ax.eval (.tmp 1) = .pointer (some ⟨w.heap.size, 0, none⟩) := hE.eval 1 (by rfl) rfl
                      have e58 : ax.eval (.tmp 58) = _ := hF 22 (det 58 _) (by decide) (.head _)
                      refine ⟨e58, ?_⟩
                      simp [go_sem, BigFrame.eval_const, BigFrame.eval_global, BigFrame.eval_func, ↓IntWalk.iteOmega, ev e1, ev e58, hsub2, d4, dv, dvi, dw, dwi]
                      with_reducible rfl
                    apply Build.detg 60 Ext.refl (by rfl) (by rfl) rfl rfl
                    case h =>   -- 24: t60 := Op.load 58 (tmp 59)
                      intro ax wx hE hR hF
                      have e58 : ax.eval (.tmp 58) = _ := hF 22 (det 58 _) (by decide) (.tail _ (.head _))
                      have e59 : ax.eval (.tmp 59) = _ := hF 23 (det 59 _) (by decide) (.head _)
                      have hX2 := HXX.out _ hR; have q0 := hX2.cell 0; have q1 := hX2.cell 1; have p1 := (HQ.out _ hR).1; have p2 := (HQ.out _ hR).2
                      refine ⟨e58, ?_⟩
                      simp [go_sem, BigFrame.eval_const, BigFrame.eval_global, BigFrame.eval_func, ↓IntWalk.iteOmega, ev e58, ev e59, hsub2, d4, dv, dvi, dw, dwi, q0, q1, p1, p2]
                      with_reducible rfl
                    apply Build.detg 61 Ext.refl (by rfl) (by rfl) rfl rfl
                    case h =>   -- 25: t61 := Op.move (tmp 3)
                      intro ax wx hE hR hF
                      have e3 : ax.eval (.tmp 3) = .int .i64 ((0 : Nat) : Int) := hE.eval 3 (by rfl) rfl
                      have e58 : ax.eval (.tmp 58) = _ := hF 22 (det 58 _) (by decide) (.tail _ (.tail _ (.head _)))
                      refine ⟨e58, ?_⟩
                      simp [go_sem, BigFrame.eval_const, BigFrame.eval_global, BigFrame.eval_func, ↓IntWalk.iteOmega, ev e3, ev e58, hsub2, d4, dv, dvi, dw, dwi]
                      with_reducible rfl
                    apply Build.detg 62 Ext.refl (by rfl) (by rfl) rfl rfl
                    case h =>   -- 26: t62 := Op.indexAddr 58 (tmp 60) (tmp 61)
                      intro ax wx hE hR hF
                      have e58 : ax.eval (.tmp 58) = _ := hF 22 (det 58 _) (by decide) (.tail _ (.tail _ (.tail _ (.head _))))
                      have e60 : ax.eval (.tmp 60) = _ := hF 24 (det 60 _) (by decide) (.tail _ (.head _))
                      have e61 : ax.eval (.tmp 61) = _ := hF 25 (det 61 _) (by decide) (.head _)
                      refine ⟨e58, ?_⟩
                      simp [go_sem, BigFrame.eval_const, BigFrame.eval_global, BigFrame.eval_func, ↓IntWalk.iteOmega, ev e58, ev e60, ev e61, hsub2, d4, dv, dvi, dw, dwi]
                      with_reducible rfl
                    apply Build.detg 63 Ext.refl (by rfl) (by rfl) rfl rfl
                    case h =>   -- 27: t63 := Op.fieldAddr 72 (tmp 62) 1
                      intro ax wx hE hR hF
                      have e58 : ax.eval (.tmp 58) = _ := hF 22 (det 58 _) (by decide) (mem4 (.head _))
                      have e62 : ax.eval (.tmp 62) = _ := hF 26 (det 62 _) (by decide) (.head _)
                      refine ⟨e58, ?_⟩
                      simp [go_sem, BigFrame.eval_const, BigFrame.eval_global, BigFrame.eval_func, ↓IntWalk.iteOmega, ev e58, ev e62, hsub2, d4, dv, dvi, dw, dwi]
                      with_reducible rfl
                    apply Build.detg 64 Ext.refl (by rfl) (by rfl) rfl rfl
                    case h =>   -- 28: t64 := Op.load 31 (tmp 63)
                      intro ax wx hE hR hF
                      have e58 : ax.eval (.tmp 58) = _ := hF 22 (det 58 _) (by decide) (mem4 (.tail _ (.head _)))
                      have e63 : ax.eval (.tmp 63) = _ := hF 27 (det 63 _) (by decide) (.head _)
                      have hX2 := HXX.out _ hR; have q0 := hX2.cell 0; have q1 := hX2.cell 1; have p1 := (HQ.out _ hR).1; have p2 := (HQ.out _ hR).2
                      refine ⟨e58, ?_⟩
                      simp [go_sem, BigFrame.eval_const, BigFrame.eval_global, BigFrame.eval_func, ↓IntWalk.iteOmega, ev e58, ev e63, hsub2, d4, dv, dvi, dw, dwi, q0, q1, p1, p2]
                      with_reducible rfl
                    apply Build.detg 65 Ext.refl (by rfl) (by rfl) rfl rfl
                    case h =>   -- 29: t65 := Op.binOp BinOp.lss 31 (tmp 64) (const (Value.int IntKind.u64 1)) 31
                      intro ax wx hE hR hF
                      have e58 : ax.eval (.tmp 58) = _ := hF 22 (det 58 _) (by decide) (mem4 (.tail _ (.tail _ (.head _))))
                      have e64 : ax.eval (.tmp 64) = _ := hF 28 (det 64 _) (by decide) (.head _)
                      refine ⟨e58, ?_⟩
                      simp [go_sem, BigFrame.eval_const, BigFrame.eval_global, BigFrame.eval_func, ↓IntWalk.iteOmega, ev e58, ev e64, hsub2, d4, dv, dvi, dw, dwi]
                      with_reducible rfl
                    apply Build.detg 66 Ext.refl (by rfl) (by rfl) rfl rfl
                    case h =>   -- 30: t66 := Op.move (tmp 65)
                      intro ax wx hE hR hF
                      have e58 : ax.eval (.tmp 58) = _ := hF 22 (det 58 _) (by decide) (mem4 (.tail _ (.tail _ (.tail _ (.head _)))))
                      have e65 : ax.eval (.tmp 65) = _ := hF 29 (det 65 _) (by decide) (.head _)
                      refine ⟨e58, ?_⟩
                      simp [go_sem, BigFrame.eval_const, BigFrame.eval_global, BigFrame.eval_func, ↓IntWalk.iteOmega, ev e58, ev e65, hsub2, d4, dv, dvi, dw, dwi]
                      with_reducible rfl
                    apply Build.detg 67 Ext.refl (by rfl) (by rfl) rfl rfl
                    case h =>   -- 31: t67 := Op.fieldAddr 60 (tmp 1) 1
                      intro ax wx hE hR hF
                      have e1 : ax.eval (.tmp 1) = .pointer (some ⟨w.heap.size, 0, none⟩) := hE.eval 1 (by rfl) rfl
                      have e66 : ax.eval (.tmp 66) = _ := hF 30 (det 66 _) (by decide) (.head _)
                      refine ⟨e66, ?_⟩
                      simp [go_sem, BigFrame.eval_const, BigFrame.eval_global, BigFrame.eval_func, ↓IntWalk.iteOmega, ev e1, ev e66, hsub2, d4, dv, dvi, dw, dwi]
                      with_reducible rfl
                    apply Build.detg 68 Ext.refl (by rfl) (by rfl) rfl rfl
                    case h =>   -- 32: t68 := Op.load 58 (tmp 67)
                      intro ax wx hE hR hF
                      have e66 : ax.eval (.tmp 66) = _ := hF 30 (det 66 _) (by decide) (.tail _ (.head _))
                      have e67 : ax.eval (.tmp 67) = _ := hF 31 (det 67 _) (by decide) (.head _)
                      have hX2 := HXX.out _ hR; have q0 := hX2.cell 0; have q1 := hX2.cell 1; have p1 := (HQ.out _ hR).1; have p2 := (HQ.out _ hR).2
                      refine ⟨e66, ?_⟩
                      simp [go_sem, BigFrame.eval_const, BigFrame.eval_global, BigFrame.eval_func, ↓IntWalk.iteOmega, ev e66, ev e67, hsub2, d4, dv, dvi, dw, dwi, q0, q1, p1, p2]
                      with_reducible rfl
                    apply Build.detg 69 Ext.refl (by rfl) (by rfl) rfl rfl
                    case h =>   -- 33: t69 := Op.move (tmp 3)
                      intro ax wx hE hR hF
                      have e3 : ax.eval (.tmp 3) = .int .i64 ((0 : Nat) : Int) := hE.eval 3 (by rfl) rfl
                      have e66 : ax.eval (.tmp 66) = _ := hF 30 (det 66 _) (by decide) (.tail _ (.tail _ (.head _)))
                      refine ⟨e66, ?_⟩
                      simp [go_sem, BigFrame.eval_const, BigFrame.eval_global, BigFrame.eval_func, ↓IntWalk.iteOmega, ev e3, ev e66, hsub2, d4, dv, dvi, dw, dwi]
                      with_reducible rfl
                    apply Build.detg 70 Ext.refl (by rfl) (by rfl) rfl rfl
                    case h =>   -- 34: t70 := Op.indexAddr 58 (tmp 68) (tmp 69)
                      intro ax wx hE hR hF
                      have e66 : ax.eval (.tmp 66) = _ := hF 30 (det 66 _) (by decide) (.tail _ (.tail _ (.tail _ (.head _))))
                      have e68 : ax.eval (.tmp 68) = _ := hF 32 (det 68 _) (by decide) (.tail _ (.head _))
                      have e69 : ax.eval (.tmp 69) = _ := hF 33 (det 69 _) (by decide) (.head _)
                      refine ⟨e66, ?_⟩
                      simp [go_sem, BigFrame.eval_const, BigFrame.eval_global, BigFrame.eval_func, ↓IntWalk.iteOmega, ev e66, ev e68, ev e69, hsub2, d4, dv, dvi, dw, dwi]
                      with_reducible rfl
                    apply Build.detg 71 Ext.refl (by rfl) (by rfl) rfl rfl
                    case h =>   -- 35: t71 := Op.fieldAddr 72 (tmp 70) 1
                      intro ax wx hE hR hF
                      have e66 : ax.eval (.tmp 66) = _ := hF 30 (det 66 _) (by decide) (mem4 (.head _))
                      have e70 : ax.eval (.tmp 70) = _ := hF 34 (det 70 _) (by decide) (.head _)
                      refine ⟨e66, ?_⟩
                      simp [go_sem, BigFrame.eval_const, BigFrame.eval_global, BigFrame.eval_func, ↓IntWalk.iteOmega, ev e66, ev e70, hsub2, d4, dv, dvi, dw, dwi]
                      with_reducible rfl
                    apply Build.detg 72 Ext.refl (by rfl) (by rfl) rfl rfl
                    case h =>   -- 36: t72 := Op.load 31 (tmp 71)
                      intro ax wx hE hR hF
                      have e66 : ax.eval (.tmp 66) = _ := hF 30 (det 66 _) (by decide) (mem4 (.tail _ (.head _)))
                      have e71 : ax.eval (.tmp 71) = _ := hF 35 (det 71 _) (by decide) (.head _)
                      have hX2 := HXX.out _ hR; have q0 := hX2.cell 0; have q1 := hX2.cell 1; have p1 := (HQ.out _ hR).1; have p2 := (HQ.out _ hR).2
                      refine ⟨e66, ?_⟩
                      simp [go_sem, BigFrame.eval_const, BigFrame.eval_global, BigFrame.eval_func, ↓IntWalk.iteOmega, ev e66, ev e71, hsub2, d4, dv, dvi, dw, dwi, q0, q1, p1, p2]
                      with_reducible rfl
                    apply Build.detg 73 Ext.refl (by rfl) (by rfl) rfl rfl
                    case h =>   -- 37: t73 := Op.binOp BinOp.gtr 31 (tmp 72) (const (Value.int IntKind.u64 511)) 31
                      intro ax wx hE hR hF
                      have e66 : ax.eval (.tmp 66) = _ := hF 30 (det 66 _) (by decide) (mem4 (.tail _ (.tail _ (.head _))))
                      have e72 : ax.eval (.tmp 72) = _ := hF 36 (det 72 _) (by decide) (.head _)
                      refine ⟨e66, ?_⟩
                      simp [go_sem, BigFrame.eval_const, BigFrame.eval_global, BigFrame.eval_func, ↓IntWalk.iteOmega, ev e66, ev e72, hsub2, d4, dv, dvi, dw, dwi]
                      with_reducible rfl
                    apply Build.detg 74 Ext.refl (by rfl) (by rfl) rfl rfl
                    case h =>   -- 38: t74 := Op.pick (tmp 66) (const (Value.bool true)) (tmp 73)
                      intro ax wx hE hR hF
                      have e58 : ax.eval (.tmp 58) = _ := hF 22 (det 58 _) (by decide) (mem4 (mem4 (mem4 (.tail _ (.tail _ (.tail _ (.head _)))))))
                      have e66 : ax.eval (.tmp 66) = _ := hF 30 (det 66 _) (by decide) (mem4 (.tail _ (.tail _ (.tail _ (.head _)))))
                      have e73 : ax.eval (.tmp 73) = _ := hF 37 (det 73 _) (by decide) (.head _)
                      refine ⟨e58, ?_⟩
                      simp [go_sem, BigFrame.eval_const, BigFrame.eval_global, BigFrame.eval_func, ↓IntWalk.iteOmega, ev e58, ev e66, ev e73, hsub2, d4, dv, dvi, dw, dwi]
                      with_reducible rfl
                    apply Build.detg 75 Ext.refl (by rfl) (by rfl) rfl rfl
                    case h =>   -- 39: t75 := Op.pick (tmp 58) (tmp 74) (const (Value.bool false))
                      intro ax wx hE hR hF
                      have e54 : ax.eval (.tmp 54) = _ := hF 18 (det 54 _) (by decide) (mem16 (mem4 (.head _)))
                      have e58 : ax.eval (.tmp 58) = _ := hF 22 (det 58 _) (by decide) (mem16 (.head _))
                      have e74 : ax.eval (.tmp 74) = _ := hF 38 (det 74 _) (by decide) (.head _)
                      refine ⟨e54, ?_⟩
                      simp [go_sem, BigFrame.eval_const, BigFrame.eval_global, BigFrame.eval_func, ↓IntWalk.iteOmega, ev e54, ev e58, ev e74, hsub2, d4, dv, dvi, dw, dwi]
                      with_reducible rfl
                    apply Build.det 76 Ext.refl (by rfl) (by rfl) rfl
                    case h =>   -- 40: t76 := Op.pick (tmp 54) (const (Value.bool true)) (tmp 75)
                      intro ax wx hE hR hF
                      have e54 : ax.eval (.tmp 54) = _ := hF 18 (det 54 _) (by decide) (mem16 (mem4 (.tail _ (.head _))))
                      have e75 : ax.eval (.tmp 75) = _ := hF 39 (det 75 _) (by decide) (.head _)
                      simp [go_sem, BigFrame.eval_const, BigFrame.eval_global, BigFrame.eval_func, ↓IntWalk.iteOmega, ev e54, ev e75, hsub2, d4, dv, dvi, dw, dwi]
                      with_reducible rfl
                    apply Build.stop
                    refine ⟨by kernel_rfl, .inl ⟨rfl, ?_⟩⟩
                    intro ax w2 hE R2 hF
                    have e36 : ax.eval (.tmp 36) = _ := hF 0 (det 36 _) (mem16 (mem16 (mem4 (mem4 (.head _)))))
                    have e37 : ax.eval (.tmp 37) = _ := hF 1 (det 37 _) (mem16 (mem16 (mem4 (.tail _ (.tail _ (.tail _ (.head _)))))))
                    have e38 : ax.eval (.tmp 38) = _ := hF 2 (det 38 _) (mem16 (mem16 (mem4 (.tail _ (.tail _ (.head _))))))
                    have e39 : ax.eval (.tmp 39) = _ := hF 3 (det 39 _) (mem16 (mem16 (mem4 (.tail _ (.head _)))))
                    have e40 : ax.eval (.tmp 40) = _ := hF 4 (det 40 _) (mem16 (mem16 (mem4 (.head _))))
                    have e41 : ax.eval (.tmp 41) = _ := hF 5 (det 41 _) (mem16 (mem16 (.tail _ (.tail _ (.tail _ (.head _))))))
                    have e42 : ax.eval (.tmp 42) = _ := hF 6 (det 42 _) (mem16 (mem16 (.tail _ (.tail _ (.head _)))))
                    have e43 : ax.eval (.tmp 43) = _ := hF 7 (det 43 _) (mem16 (mem16 (.tail _ (.head _))))
                    have e44 : ax.eval (.tmp 44) = _ := hF 8 (det 44 _) (mem16 (mem16 (.head _)))
                    have e45 : ax.eval (.tmp 45) = _ := hF 9 (det 45 _) (mem16 (mem4 (mem4 (mem4 (.tail _ (.tail _ (.tail _ (.head _))))))))
                    have e46 : ax.eval (.tmp 46) = _ := hF 10 (det 46 _) (mem16 (mem4 (mem4 (mem4 (.tail _ (.tail _ (.head _)))))))
                    have e47 : ax.eval (.tmp 47) = _ := hF 11 (det 47 _) (mem16 (mem4 (mem4 (mem4 (.tail _ (.head _))))))
                    have e48 : ax.eval (.tmp 48) = _ := hF 12 (det 48 _) (mem16 (mem4 (mem4 (mem4 (.head _)))))
                    have e49 : ax.eval (.tmp 49) = _ := hF 13 (det 49 _) (mem16 (mem4 (mem4 (.tail _ (.tail _ (.tail _ (.head _)))))))
                    have e50 : ax.eval (.tmp 50) = _ := hF 14 (det 50 _) (mem16 (mem4 (mem4 (.tail _ (.tail _ (.head _))))))
                    have e51 : ax.eval (.tmp 51) = _ := hF 15 (det 51 _) (mem16 (mem4 (mem4 (.tail _ (.head _)))))
                    have e52 : ax.eval (.tmp 52) = _ := hF 16 (det 52 _) (mem16 (mem4 (mem4 (.head _))))
                    have e53 : ax.eval (.tmp 53) = _ := hF 17 (det 53 _) (mem16 (mem4 (.tail _ (.tail _ (.tail _ (.head _))))))
                    have e54 : ax.eval (.tmp 54) = _ := hF 18 (det 54 _) (mem16 (mem4 (.tail _ (.tail _ (.head _)))))
                    have e55 : ax.eval (.tmp 55) = _ := hF 19 (det 55 _) (mem16 (mem4 (.tail _ (.head _))))
                    have e56 : ax.eval (.tmp 56) = _ := hF 20 (det 56 _) (mem16 (mem4 (.head _)))
                    have e57 : ax.eval (.tmp 57) = _ := hF 21 (det 57 _) (mem16 (.tail _ (.tail _ (.tail _ (.head _)))))
                    have e58 : ax.eval (.tmp 58) = _ := hF 22 (det 58 _) (mem16 (.tail _ (.tail _ (.head _))))
                    have e59 : ax.eval (.tmp 59) = _ := hF 23 (det 59 _) (mem16 (.tail _ (.head _)))
                    have e60 : ax.eval (.tmp 60) = _ := hF 24 (det 60 _) (mem16 (.head _))
                    have e61 : ax.eval (.tmp 61) = _ := hF 25 (det 61 _) (mem4 (mem4 (mem4 (.tail _ (.tail _ (.tail _ (.head _)))))))
                    have e62 : ax.eval (.tmp 62) = _ := hF 26 (det 62 _) (mem4 (mem4 (mem4 (.tail _ (.tail _ (.head _))))))
                    have e63 : ax.eval (.tmp 63) = _ := hF 27 (det 63 _) (mem4 (mem4 (mem4 (.tail _ (.head _)))))
                    have e64 : ax.eval (.tmp 64) = _ := hF 28 (det 64 _) (mem4 (mem4 (mem4 (.head _))))
                    have e65 : ax.eval (.tmp 65) = _ := hF 29 (det 65 _) (mem4 (mem4 (.tail _ (.tail _ (.tail _ (.head _))))))
                    have e66 : ax.eval (.tmp 66) = _ := hF 30 (det 66 _) (mem4 (mem4 (.tail _ (.tail _ (.head _)))))
                    have e67 : ax.eval (.tmp 67) = _ := hF 31 (det 67 _) (mem4 (mem4 (.tail _ (.head _))))
                    have e68 : ax.eval (.tmp 68) = _ := hF 32 (det 68 _) (mem4 (mem4 (.head _)))
                    have e69 : ax.eval (.tmp 69) = _ := hF 33 (det 69 _) (mem4 (.tail _ (.tail _ (.tail _ (.head _)))))
                    have e70 : ax.eval (.tmp 70) = _ := hF 34 (det 70 _) (mem4 (.tail _ (.tail _ (.head _))))
                    have e71 : ax.eval (.tmp 71) = _ := hF 35 (det 71 _) (mem4 (.tail _ (.head _)))
                    have e72 : ax.eval (.tmp 72) = _ := hF 36 (det 72 _) (mem4 (.head _))
                    have e73 : ax.eval (.tmp 73) = _ := hF 37 (det 73 _) (.tail _ (.tail _ (.tail _ (.head _))))
                    have e74 : ax.eval (.tmp 74) = _ := hF 38 (det 74 _) (.tail _ (.tail _ (.head _)))
                    have e75 : ax.eval (.tmp 75) = _ := hF 39 (det 75 _) (.tail _ (.head _))
                    have e76 : ax.eval (.tmp 76) = _ := hF 40 (det 76 _) (.head _)
                    rw [AllEq.frame (D := [36, 37, 38, 39, 40, 41, 42, 43, 44, 45, 46, 47, 48, 49, 50, 51, 52, 53, 54, 55, 56, 57, 58, 59, 60, 61, 62, 63, 64, 65, 66, 67, 68, 69, 70, 71, 72, 73, 74, 75, 76]) (AllEq.cons e36 (AllEq.cons e37 (AllEq.cons e38 (AllEq.cons e39 (AllEq.cons e40 (AllEq.cons e41 (AllEq.cons e42 (AllEq.cons e43 (AllEq.cons e44 (AllEq.cons e45 (AllEq.cons e46 (AllEq.cons e47 (AllEq.cons e48 (AllEq.cons e49 (AllEq.cons e50 (AllEq.cons e51 (AllEq.cons e52 (AllEq.cons e53 (AllEq.cons e54 (AllEq.cons e55 (AllEq.cons e56 (AllEq.cons e57 (AllEq.cons e58 (AllEq.cons e59 (AllEq.cons e60 (AllEq.cons e61 (AllEq.cons e62 (AllEq.cons e63 (AllEq.cons e64 (AllEq.cons e65 (AllEq.cons e66 (AllEq.cons e67 (AllEq.cons e68 (AllEq.cons e69 (AllEq.cons e70 (AllEq.cons e71 (AllEq.cons e72 (AllEq.cons e73 (AllEq.cons e74 (AllEq.cons e75 (AllEq.cons e76 (AllEq.nil)))))))))))))))))))))))))))))))))))))))))) hE rfl]
                    clear hF hE e36 e37 e38 e39 e40 e41 e42 e43 e44 e45 e46 e47 e48 e49 e50 e51 e52 e53 e54 e55 e56 e57 e58 e59 e60 e61 e62 e63 e64 e65 e66 e67 e68 e69 e70 e71 e72 e73 e74 e75 e76
                    simp only [List.foldl_cons, List.foldl_nil, Act.put, List.setIfInBounds_toArray, List.set_cons_succ, List.set_cons_zero]
                    have hEx := hEx.trans R2
                    have hG : Hid (GB = false) := HB.out (fun h => h.2.elim (fun h => by omega) (fun h => hff.out (HV.out ▸ h)))
                    go_wp2_with fail
                    go_ret
                    exact ⟨by rw [hG.out] <;> rfl, HE.out.trans hEx⟩
                  · have dw : decide (511 < V) = false := by rw [decide_eq_false_iff_not]; omega
                    have dwi : decide ((511 : Int) < (V : Int)) = false := by rw [decide_eq_false_iff_not]; omega
                    have dw2 : decide (512 ≤ V) = false := by rw [decide_eq_false_iff_not]; omega
                    have hff : Hid (farB V = false) := by rw [hfar, dw2, dv]; rfl
                    clear hfar dw2
                    refine wp_typed (R := Ext) (w0 := wr) [[], [0], [0, 1], [0, 1, 2], [0, 1, 2, 3], [0, 1, 2], [0, 1, 2, 5], [0, 1, 2, 3, 4, 5, 6], [0, 1, 2, 3, 4, 5, 6, 7], [0, 1, 2, 3, 4, 5, 6, 7, 8], [0, 1, 2], [0, 1, 2, 10], [0, 1, 2], [0, 1, 2, 10, 11, 12], [0, 1, 2, 10, 11, 12, 13], [0, 1, 2, 10, 11, 12, 13, 14], [0, 1, 2, 3, 4, 5, 6, 7, 8, 9, 10, 11, 12, 13, 14, 15], [0, 1, 2, 3, 4, 5, 6, 7, 8, 9, 10, 11, 12, 13, 14, 15, 16], [0, 1, 2, 3, 4, 5, 6, 7, 8, 9, 10, 11, 12, 13, 14, 15, 16, 17], [0, 1, 2, 3, 4, 5, 6, 7, 8, 9, 10, 11, 12, 13, 14, 15, 16, 17, 18], [0, 1, 2, 3, 4, 5, 6, 7, 8, 9, 10, 11, 12, 13, 14, 15, 16, 17, 18, 19], [0, 1, 2, 3, 4, 5, 6, 7, 8, 9, 10, 11, 12, 13, 14, 15, 16, 17, 18, 19, 20], [0, 1, 2, 3, 4, 5, 6, 7, 8, 9, 10, 11, 12, 13, 14, 15, 16, 17, 18, 19, 20, 21], [0, 1, 2, 3, 4, 5, 6, 7, 8, 9, 10, 11, 12, 13, 14, 15, 16, 17, 18, 19, 20, 21, 22], [0, 1, 2, 3, 4, 5, 6, 7, 8, 9, 10, 11, 12, 13, 14, 15, 16, 17, 18, 19, 20, 21, 22, 23], [0, 1, 2, 3, 4, 5, 6, 7, 8, 9, 10, 11, 12, 13, 14, 15, 16, 17, 18, 19, 20, 21, 22], [0, 1, 2, 3, 4, 5, 6, 7, 8, 9, 10, 11, 12, 13, 14, 15, 16, 17, 18, 19, 20, 21, 22, 23, 24, 25], [0, 1, 2, 3, 4, 5, 6, 7, 8, 9, 10, 11, 12, 13, 14, 15, 16, 17, 18, 19, 20, 21, 22, 23, 24, 25, 26], [0, 1, 2, 3, 4, 5, 6, 7, 8, 9, 10, 11, 12, 13, 14, 15, 16, 17, 18, 19, 20, 21, 22, 23, 24, 25, 26, 27], [0, 1, 2, 3, 4, 5, 6, 7, 8, 9, 10, 11, 12, 13, 14, 15, 16, 17, 18, 19, 20, 21, 22, 23, 24, 25, 26, 27, 28], [0, 1, 2, 3, 4, 5, 6, 7, 8, 9, 10, 11, 12, 13, 14, 15, 16, 17, 18, 19, 20, 21, 22, 23, 24, 25, 26, 27, 28, 29], [0, 1, 2, 3, 4, 5, 6, 7, 8, 9, 10, 11, 12, 13, 14, 15, 16, 17, 18, 19, 20, 21, 22, 23, 24, 25, 26, 27, 28, 29, 30], [0, 1, 2, 3, 4, 5, 6, 7, 8, 9, 10, 11, 12, 13, 14, 15, 16, 17, 18, 19, 20, 21, 22, 23, 24, 25, 26, 27, 28, 29, 30, 31], [0, 1, 2, 3, 4, 5, 6, 7, 8, 9, 10, 11, 12, 13, 14, 15, 16, 17, 18, 19, 20, 21, 22, 23, 24, 25, 26, 27, 28, 29, 30], [0, 1, 2, 3, 4, 5, 6, 7, 8, 9, 10, 11, 12, 13, 14, 15, 16, 17, 18, 19, 20, 21, 22, 23, 24, 25, 26, 27, 28, 29, 30, 31, 32, 33], [0, 1, 2, 3, 4, 5, 6, 7, 8, 9, 10, 11, 12, 13, 14, 15, 16, 17, 18, 19, 20, 21, 22, 23, 24, 25, 26, 27, 28, 29, 30, 31, 32, 33, 34], [0, 1, 2, 3, 4, 5, 6, 7, 8, 9, 10, 11, 12, 13, 14, 15, 16, 17, 18, 19, 20, 21, 22, 23, 24, 25, 26, 27, 28, 29, 30, 31, 32, 33, 34, 35], [0, 1, 2, 3, 4, 5, 6, 7, 8, 9, 10, 11, 12, 13, 14, 15, 16, 17, 18, 19, 20, 21, 22, 23, 24, 25, 26, 27, 28, 29, 30, 31, 32, 33, 34, 35, 36], [0, 1, 2, 3, 4, 5, 6, 7, 8, 9, 10, 11, 12, 13, 14, 15, 16, 17, 18, 19, 20, 21, 22, 23, 24, 25, 26, 27, 28, 29, 30, 31, 32, 33, 34, 35, 36, 37], [0, 1, 2, 3, 4, 5, 6, 7, 8, 9, 10, 11, 12, 13, 14, 15, 16, 17, 18, 19, 20, 21, 22, 23, 24, 25, 26, 27, 28, 29, 30, 31, 32, 33, 34, 35, 36, 37, 38], [0, 1, 2, 3, 4, 5, 6, 7, 8, 9, 10, 11, 12, 13, 14, 15, 16, 17, 18, 19, 20, 21, 22, 23, 24, 25, 26, 27, 28, 29, 30, 31, 32, 33, 34, 35, 36, 37, 38, 39]] [36, 37, 38, 39, 40, 41, 42, 43, 44, 45, 46, 47, 48, 49, 50, 51, 52, 53, 54, 55, 56, 57, 58, 59, 60, 61, 62, 63, 64, 65, 66, 67, 68, 69, 70, 71, 72, 73, 74, 75, 76] Ext.refl (fun _ _ _ => Ext.trans) (Ext.drew _) (by kernel_rfl) ?_
                    apply Build.det 36 Ext.refl (by rfl) (by rfl) rfl
                    case h =>   -- 0: t36 := Op.move (tmp 3)
                      intro ax wx hE hR hF
                      have e3 : ax.eval (.tmp 3) = .int .i64 ((0 : Nat) : Int) := hE.eval 3 (by rfl) rfl
                      simp [go_sem, BigFrame.eval_const, BigFrame.eval_global, BigFrame.eval_func, ↓IntWalk.iteOmega, ev e3, hsub2, d4, dv, dvi, dw, dwi]
                      with_reducible rfl
                    apply Build.det 37 Ext.refl (by rfl) (by rfl) rfl
                    case h =>   -- 1: t37 := Op.binOp BinOp.gtr 3 (tmp 36) (const (Value.int IntKind.i64 0)) 3
                      intro ax wx hE hR hF
                      have e36 : ax.eval (.tmp 36) = _ := hF 0 (det 36 _) (by decide) (.head _)
                      simp [go_sem, BigFrame.eval_const, BigFrame.eval_global, BigFrame.eval_func, ↓IntWalk.iteOmega, ev e36, hsub2, d4, dv, dvi, dw, dwi]
                      with_reducible rfl
                    apply Build.det 38 Ext.refl (by rfl) (by rfl) rfl
                    case h =>   -- 2: t38 := Op.move (tmp 37)
                      intro ax wx hE hR hF
                      have e37 : ax.eval (.tmp 37) = _ := hF 1 (det 37 _) (by decide) (.head _)
                      simp [go_sem, BigFrame.eval_const, BigFrame.eval_global, BigFrame.eval_func, ↓IntWalk.iteOmega, ev e37, hsub2, d4, dv, dvi, dw, dwi]
                      with_reducible rfl
                    refine Build.skip 39 (by rfl) (by rfl) rfl rfl ?_ ?_
                    · intro ax wx hE hR hF
                      have e38 : ax.eval (.tmp 38) = _ := hF 2 (det 38 _) (by decide) (.head _)
                      exact e38
                    refine Build.skip 40 (by rfl) (by rfl) rfl rfl ?_ ?_
                    · intro ax wx hE hR hF
                      have e38 : ax.eval (.tmp 38) = _ := hF 2 (det 38 _) (by decide) (.tail _ (.head _))
                      exact e38
                    refine Build.skip 41 (by rfl) (by rfl) rfl rfl ?_ ?_
                    · intro ax wx hE hR hF
                      have e38 : ax.eval (.tmp 38) = _ := hF 2 (det 38 _) (by decide) (.tail _ (.tail _ (.head _)))
                      exact e38
                    refine Build.skip 42 (by rfl) (by rfl) rfl rfl ?_ ?_
                    · intro ax wx hE hR hF
                      have e38 : ax.eval (.tmp 38) = _ := hF 2 (det 38 _) (by decide) (.tail _ (.tail _ (.tail _ (.head _))))
                      exact e38
                    refine Build.skip 43 (by rfl) (by rfl) rfl rfl ?_ ?_
                    · intro ax wx hE hR hF
                      have e38 : ax.eval (.tmp 38) = _ := hF 2 (det 38 _) (by decide) (mem4 (.head _))
                      exact e38
                    refine Build.skip 44 (by rfl) (by rfl) rfl rfl ?_ ?_
                    · intro ax wx hE hR hF
                      have e38 : ax.eval (.tmp 38) = _ := hF 2 (det 38 _) (by decide) (mem4 (.tail _ (.head _)))
                      exact e38
                    refine Build.skip 45 (by rfl) (by rfl) rfl rfl ?_ ?_
                    · intro ax wx hE hR hF
                      have e38 : ax.eval (.tmp 38) = _ := hF 2 (det 38 _) (by decide) (mem4 (.tail _ (.tail _ (.head _))))
                      exact e38
                    refine Build.skip 46 (by rfl) (by rfl) rfl rfl ?_ ?_
                    · intro ax wx hE hR hF
                      have e38 : ax.eval (.tmp 38) = _ := hF 2 (det 38 _) (by decide) (mem4 (.tail _ (.tail _ (.tail _ (.head _)))))
                      exact e38
                    refine Build.skip 47 (by rfl) (by rfl) rfl rfl ?_ ?_
                    · intro ax wx hE hR hF
                      have e38 : ax.eval (.tmp 38) = _ := hF 2 (det 38 _) (by decide) (mem4 (mem4 (.head _)))
                      exact e38
                    refine Build.skip 48 (by rfl) (by rfl) rfl rfl ?_ ?_
                    · intro ax wx hE hR hF
                      have e38 : ax.eval (.tmp 38) = _ := hF 2 (det 38 _) (by decide) (mem4 (mem4 (.tail _ (.head _))))
                      exact e38
                    refine Build.skip 49 (by rfl) (by rfl) rfl rfl ?_ ?_
                    · intro ax wx hE hR hF
                      have e38 : ax.eval (.tmp 38) = _ := hF 2 (det 38 _) (by decide) (mem4 (mem4 (.tail _ (.tail _ (.head _)))))
                      exact e38
                    refine Build.skip 50 (by rfl) (by rfl) rfl rfl ?_ ?_
                    · intro ax wx hE hR hF
                      have e38 : ax.eval (.tmp 38) = _ := hF 2 (det 38 _) (by decide) (mem4 (mem4 (.tail _ (.tail _ (.tail _ (.head _))))))
                      exact e38
                    refine Build.skip 51 (by rfl) (by rfl) rfl rfl ?_ ?_
                    · intro ax wx hE hR hF
                      have e38 : ax.eval (.tmp 38) = _ := hF 2 (det 38 _) (by decide) (mem4 (mem4 (mem4 (.head _))))
                      exact e38
                    refine Build.skip 52 (by rfl) (by rfl) rfl rfl ?_ ?_
                    · intro ax wx hE hR hF
                      have e38 : ax.eval (.tmp 38) = _ := hF 2 (det 38 _) (by decide) (mem4 (mem4 (mem4 (.tail _ (.head _)))))
                      exact e38
                    apply Build.det 53 Ext.refl (by rfl) (by rfl) rfl
                    case h =>   -- 17: t53 := Op.pick (tmp 38) (tmp 52) (const (Value.bool false))
                      intro ax wx hE hR hF
                      have e38 : ax.eval (.tmp 38) = _ := hF 2 (det 38 _) (by decide) (mem4 (mem4 (mem4 (.tail _ (.tail _ (.head _))))))
                      have e52 : ax.eval (.tmp 52) = _ := hF 16 (det 52 _) (by decide) (.head _)
                      simp [go_sem, BigFrame.eval_const, BigFrame.eval_global, BigFrame.eval_func, ↓IntWalk.iteOmega, ev e38, ev e52, hsub2, d4, dv, dvi, dw, dwi]
                      with_reducible rfl
                    apply Build.det 54 Ext.refl (by rfl) (by rfl) rfl
                    case h =>   -- 18: t54 := Op.move (tmp 53)
                      intro ax wx hE hR hF
                      have e53 : ax.eval (.tmp 53) = _ := hF 17 (det 53 _) (by decide) (.head _)
                      simp [go_sem, BigFrame.eval_const, BigFrame.eval_global, BigFrame.eval_func, ↓IntWalk.iteOmega, ev e53, hsub2, d4, dv, dvi, dw, dwi]
                      with_reducible rfl
                    apply Build.detg 55 Ext.refl (by rfl) (by rfl) rfl rfl
                    case h =>   -- 19: t55 := Op.fieldAddr 60 (tmp 1) 0
                      intro ax wx hE hR hF
                      have e1 : ax.eval (.tmp 1) = .pointer (some ⟨w.heap.size, 0, none⟩) := hE.eval 1 (by rfl) rfl
                      have e54 : ax.eval (.tmp 54) = _ := hF 18 (det 54 _) (by decide) (.head _)
                      refine ⟨e54, ?_⟩
                      simp [go_sem, BigFrame.eval_const, BigFrame.eval_global, BigFrame.eval_func, ↓IntWalk.iteOmega, ev e1, ev e54, hsub2, d4, dv, dvi, dw, dwi]
                      with_reducible rfl
                    apply Build.detg 56 Ext.refl (by rfl) (by rfl) rfl rfl
                    case h =>   -- 20: t56 := Op.load 3 (tmp 55)
                      intro ax wx hE hR hF
                      have e54 : ax.eval (.tmp 54) = _ := hF 18 (det 54 _) (by decide) (.tail _ (.head _))
                      have e55 : ax.eval (.tmp 55) = _ := hF 19 (det 55 _) (by decide) (.head _)
                      have hX2 := HXX.out _ hR; have q0 := hX2.cell 0; have q1 := hX2.cell 1; have p1 := (HQ.out _ hR).1; have p2 := (HQ.out _ hR).2
                      refine ⟨e54, ?_⟩
                      simp [go_sem, BigFrame.eval_const, BigFrame.eval_global, BigFrame.eval_func, ↓IntWalk.iteOmega, ev e54, ev e55, hsub2, d4, dv, dvi, dw, dwi, q0, q1, p1, p2]
                      with_reducible rfl
                    apply Build.detg 57 Ext.refl (by rfl) (by rfl) rfl rfl
                    case h =>   -- 21: t57 := Op.binOp BinOp.gtr 3 (tmp 56) (const (Value.int IntKind.i64 0)) 3
                      intro ax wx hE hR hF
                      have e54 : ax.eval (.tmp 54) = _ := hF 18 (det 54 _) (by decide) (.tail _ (.tail _ (.head _)))
                      have e56 : ax.eval (.tmp 56) = _ := hF 20 (det 56 _) (by decide) (.head _)
                      refine ⟨e54, ?_⟩
                      simp [go_sem, BigFrame.eval_const, BigFrame.eval_global, BigFrame.eval_func, ↓IntWalk.iteOmega, ev e54, ev e56, hsub2, d4, dv, dvi, dw, dwi]
                      with_reducible rfl
                    apply Build.detg 58 Ext.refl (by rfl) (by rfl) rfl rfl
                    case h =>   -- 22: t58 := Op.move (tmp 57)
                      intro ax wx hE hR hF
                      have e54 : ax.eval (.tmp 54) = _ := hF 18 (det 54 _) (by decide) (.tail _ (.tail _ (.tail _ (.head _))))
                      have e57 : ax.eval (.tmp 57) = _ := hF 21 (det 57 _) (by decide) (.head _)
                      refine ⟨e54, ?_⟩
                      simp [go_sem, BigFrame.eval_const, BigFrame.eval_global, BigFrame.eval_func, ↓IntWalk.iteOmega, ev e54, ev e57, hsub2, d4, dv, dvi, dw, dwi]
                      with_reducible rfl
                    apply Build.detg 59 Ext.refl (by rfl) (by rfl) rfl rfl
                    case h =>   -- 23: t59 := Op.fieldAddr 60 (tmp 1) 1
                      intro ax wx hE hR hF
                      have e1 : ax.eval (.tmp 1) = .pointer (some ⟨w.heap.size, 0, none⟩) := hE.eval 1 (by rfl) rfl
                      have e58 : ax.eval (.tmp 58) = _ := hF 22 (det 58 _) (by decide) (.head _)
                      refine ⟨e58, ?_⟩
                      simp [go_sem, BigFrame.eval_const, BigFrame.eval_global, BigFrame.eval_func, ↓IntWalk.iteOmega, ev e1, ev e58, hsub2, d4, dv, dvi, dw, dwi]
                      with_reducible rfl
                    apply Build.detg 60 Ext.refl (by rfl) (by rfl) rfl rfl
                    case h =>   -- 24: t60 := Op.load 58 (tmp 59)
                      intro ax wx hE hR hF
                      have e58 : ax.eval (.tmp 58) = _ := hF 22 (det 58 _) (by decide) (.tail _ (.head _))
                      have e59 : ax.eval (.tmp 59) = _ := hF 23 (det 59 _) (by decide) (.head _)
                      have hX2 := HXX.out _ hR; have q0 := hX2.cell 0; have q1 := hX2.cell 1; have p1 := (HQ.out _ hR).1; have p2 := (HQ.out _ hR).2
                      refine ⟨e58, ?_⟩
                      simp [go_sem, BigFrame.eval_const, BigFrame.eval_global, BigFrame.eval_func, ↓IntWalk.iteOmega, ev e58, ev e59, hsub2, d4, dv, dvi, dw, dwi, q0, q1, p1, p2]
                      with_reducible rfl
                    apply Build.detg 61 Ext.refl (by rfl) (by rfl) rfl rfl
                    case h =>   -- 25: t61 := Op.move (tmp 3)
                      intro ax wx hE hR hF
                      have e3 : ax.eval (.tmp 3) = .int .i64 ((0 : Nat) : Int) := hE.eval 3 (by rfl) rfl
                      have e58 : ax.eval (.tmp 58) = _ := hF 22 (det 58 _) (by decide) (.tail _ (.tail _ (.head _)))
                      refine ⟨e58, ?_⟩
                      simp [go_sem, BigFrame.eval_const, BigFrame.eval_global, BigFrame.eval_func, ↓IntWalk.iteOmega, ev e3, ev e58, hsub2, d4, dv, dvi, dw, dwi]
                      with_reducible rfl
                    apply Build.detg 62 Ext.refl (by rfl) (by rfl) rfl rfl
                    case h =>   -- 26: t62 := Op.indexAddr 58 (tmp 60) (tmp 61)
                      intro ax wx hE hR hF
                      have e58 : ax.eval (.tmp 58) = _ := hF 22 (det 58 _) (by decide) (.tail _ (.tail _ (.tail _ (.head _))))
                      have e60 : ax.eval (.tmp 60) = _ := hF 24 (det 60 _) (by decide) (.tail _ (.head _))
                      have e61 : ax.eval (.tmp 61) = _ := hF 25 (det 61 _) (by decide) (.head _)
                      refine ⟨e58, ?_⟩
                      simp [go_sem, BigFrame.eval_const, BigFrame.eval_global, BigFrame.eval_func, ↓IntWalk.iteOmega, ev e58, ev e60, ev e61, hsub2, d4, dv, dvi, dw, dwi]
                      with_reducible rfl
                    apply Build.detg 63 Ext.refl (by rfl) (by rfl) rfl rfl
                    case h =>   -- 27: t63 := Op.fieldAddr 72 (tmp 62) 1
                      intro ax wx hE hR hF
                      have e58 : ax.eval (.tmp 58) = _ := hF 22 (det 58 _) (by decide) (mem4 (.head _))
                      have e62 : ax.eval (.tmp 62) = _ := hF 26 (det 62 _) (by decide) (.head _)
                      refine ⟨e58, ?_⟩
                      simp [go_sem, BigFrame.eval_const, BigFrame.eval_global, BigFrame.eval_func, ↓IntWalk.iteOmega, ev e58, ev e62, hsub2, d4, dv, dvi, dw, dwi]
                      with_reducible rfl
                    apply Build.detg 64 Ext.refl (by rfl) (by rfl) rfl rfl
                    case h =>   -- 28: t64 := Op.load 31 (tmp 63)
                      intro ax wx hE hR hF
                      have e58 : ax.eval (.tmp 58) = _ := hF 22 (det 58 _) (by decide) (mem4 (.tail _ (.head _)))
                      have e63 : ax.eval (.tmp 63) = _ := hF 27 (det 63 _) (by decide) (.head _)
                      have hX2 := HXX.out _ hR; have q0 := hX2.cell 0; have q1 := hX2.cell 1; have p1 := (HQ.out _ hR).1; have p2 := (HQ.out _ hR).2
                      refine ⟨e58, ?_⟩
                      simp [go_sem, BigFrame.eval_const, BigFrame.eval_global, BigFrame.eval_func, ↓IntWalk.iteOmega, ev e58, ev e63, hsub2, d4, dv, dvi, dw, dwi, q0, q1, p1, p2]
                      with_reducible rfl
                    apply Build.detg 65 Ext.refl (by rfl) (by rfl) rfl rfl
                    case h =>   -- 29: t65 := Op.binOp BinOp.lss 31 (tmp 64) (const (Value.int IntKind.u64 1)) 31
                      intro ax wx hE hR hF
                      have e58 : ax.eval (.tmp 58) = _ := hF 22 (det 58 _) (by decide) (mem4 (.tail _ (.tail _ (.head _))))
                      have e64 : ax.eval (.tmp 64) = _ := hF 28 (det 64 _) (by decide) (.head _)
                      refine ⟨e58, ?_⟩
                      simp [go_sem, BigFrame.eval_const, BigFrame.eval_global, BigFrame.eval_func, ↓IntWalk.iteOmega, ev e58, ev e64, hsub2, d4, dv, dvi, dw, dwi]
                      with_reducible rfl
                    apply Build.detg 66 Ext.refl (by rfl) (by rfl) rfl rfl
                    case h =>   -- 30: t66 := Op.move (tmp 65)
                      intro ax wx hE hR hF
                      have e58 : ax.eval (.tmp 58) = _ := hF 22 (det 58 _) (by decide) (mem4 (.tail _ (.tail _ (.tail _ (.head _)))))
                      have e65 : ax.eval (.tmp 65) = _ := hF 29 (det 65 _) (by decide) (.head _)
                      refine ⟨e58, ?_⟩
                      simp [go_sem, BigFrame.eval_const, BigFrame.eval_global, BigFrame.eval_func, ↓IntWalk.iteOmega, ev e58, ev e65, hsub2, d4, dv, dvi, dw, dwi]
                      with_reducible rfl
                    apply Build.detg 67 Ext.refl (by rfl) (by rfl) rfl rfl
                    case h =>   -- 31: t67 := Op.fieldAddr 60 (tmp 1) 1
                      intro ax wx hE hR hF
                      have e1 : ax.eval (.tmp 1) = .pointer (some ⟨w.heap.size, 0, none⟩) := hE.eval 1 (by rfl) rfl
                      have e66 : ax.eval (.tmp 66) = _ := hF 30 (det 66 _) (by decide) (.head _)
                      refine ⟨e66, ?_⟩
                      simp [go_sem, BigFrame.eval_const, BigFrame.eval_global, BigFrame.eval_func, ↓IntWalk.iteOmega, ev e1, ev e66, hsub2, d4, dv, dvi, dw, dwi]
                      with_reducible rfl
                    apply Build.detg 68 Ext.refl (by rfl) (by rfl) rfl rfl
                    case h =>   -- 32: t68 := Op.load 58 (tmp 67)
                      intro ax wx hE hR hF
                      have e66 : ax.eval (.tmp 66) = _ := hF 30 (det 66 _) (by decide) (.tail _ (.head _))
                      have e67 : ax.eval (.tmp 67) = _ := hF 31 (det 67 _) (by decide) (.head _)
                      have hX2 := HXX.out _ hR; have q0 := hX2.cell 0; have q1 := hX2.cell 1; have p1 := (HQ.out _ hR).1; have p2 := (HQ.out _ hR).2
                      refine ⟨e66, ?_⟩
                      simp [go_sem, BigFrame.eval_const, BigFrame.eval_global, BigFrame.eval_func, ↓IntWalk.iteOmega, ev e66, ev e67, hsub2, d4, dv, dvi, dw, dwi, q0, q1, p1, p2]
                      with_reducible rfl
                    apply Build.detg 69 Ext.refl (by rfl) (by rfl) rfl rfl
                    case h =>   -- 33: t69 := Op.move (tmp 3)
                      intro ax wx hE hR hF
                      have e3 : ax.eval (.tmp 3) = .int .i64 ((0 : Nat) : Int) := hE.eval 3 (by rfl) rfl
                      have e66 : ax.eval (.tmp 66) = _ := hF 30 (det 66 _) (by decide) (.tail _ (.tail _ (.head _)))
                      refine ⟨e66, ?_⟩
                      simp [go_sem, BigFrame.eval_const, BigFrame.eval_global, BigFrame.eval_func, ↓IntWalk.iteOmega, ev e3, ev e66, hsub2, d4, dv, dvi, dw, dwi]
                      with_reducible rfl
                    apply Build.detg 70 Ext.refl (by rfl) (by rfl) rfl rfl
                    case h =>   -- 34: t70 := Op.indexAddr 58 (tmp 68) (tmp 69)
                      intro ax wx hE hR hF
                      have e66 : ax.eval (.tmp 66) = _ := hF 30 (det 66 _) (by decide) (.tail _ (.tail _ (.tail _ (.head _))))
                      have e68 : ax.eval (.tmp 68) = _ := hF 32 (det 68 _) (by decide) (.tail _ (.head _))
                      have e69 : ax.eval (.tmp 69) = _ := hF 33 (det 69 _) (by decide) (.head _)
                      refine ⟨e66, ?_⟩
                      simp [go_sem, BigFrame.eval_const, BigFrame.eval_global, BigFrame.eval_func, ↓IntWalk.iteOmega, ev e66, ev e68, ev e69, hsub2, d4, dv, dvi, dw, dwi]
                      with_reducible rfl
                    apply Build.detg 71 Ext.refl (by rfl) (by rfl) rfl rfl
                    case h =>   -- 35: t71 := Op.fieldAddr 72 (tmp 70) 1
                      intro ax wx hE hR hF
                      have e66 : ax.eval (.tmp 66) = _ := hF 30 (det 66 _) (by decide) (mem4 (.head _))
                      have e70 : ax.eval (.tmp 70) = _ := hF 34 (det 70 _) (by decide) (.head _)
                      refine ⟨e66, ?_⟩
                      simp [go_sem, BigFrame.eval_const, BigFrame.eval_global, BigFrame.eval_func, ↓IntWalk.iteOmega, ev e66, ev e70, hsub2, d4, dv, dvi, dw, dwi]
                      with_reducible rfl
                    apply Build.detg 72 Ext.refl (by rfl) (by rfl) rfl rfl
                    case h =>   -- 36: t72 := Op.load 31 (tmp 71)
                      intro ax wx hE hR hF
                      have e66 : ax.eval (.tmp 66) = _ := hF 30 (det 66 _) (by decide) (mem4 (.tail _ (.head _)))
                      have e71 : ax.eval (.tmp 71) = _ := hF 35 (det 71 _) (by decide) (.head _)
                      have hX2 := HXX.out _ hR; have q0 := hX2.cell 0; have q1 := hX2.cell 1; have p1 := (HQ.out _ hR).1; have p2 := (HQ.out _ hR).2
                      refine ⟨e66, ?_⟩
                      simp [go_sem, BigFrame.eval_const, BigFrame.eval_global, BigFrame.eval_func, ↓IntWalk.iteOmega, ev e66, ev e71, hsub2, d4, dv, dvi, dw, dwi, q0, q1, p1, p2]
                      with_reducible rfl
                    apply Build.detg 73 Ext.refl (by rfl) (by rfl) rfl rfl
                    case h =>   -- 37: t73 := Op.binOp BinOp.gtr 31 (tmp 72) (const (Value.int IntKind.u64 511)) 31
                      intro ax wx hE hR hF
                      have e66 : ax.eval (.tmp 66) = _ := hF 30 (det 66 _) (by decide) (mem4 (.tail _ (.tail _ (.head _))))
                      have e72 : ax.eval (.tmp 72) = _ := hF 36 (det 72 _) (by decide) (.head _)
                      refine ⟨e66, ?_⟩
                      simp [go_sem, BigFrame.eval_const, BigFrame.eval_global, BigFrame.eval_func, ↓IntWalk.iteOmega, ev e66, ev e72, hsub2, d4, dv, dvi, dw, dwi]
                      with_reducible rfl
                    apply Build.detg 74 Ext.refl (by rfl) (by rfl) rfl rfl
                    case h =>   -- 38: t74 := Op.pick (tmp 66) (const (Value.bool true)) (tmp 73)
                      intro ax wx hE hR hF
                      have e58 : ax.eval (.tmp 58) = _ := hF 22 (det 58 _) (by decide) (mem4 (mem4 (mem4 (.tail _ (.tail _ (.tail _ (.head _)))))))
                      have e66 : ax.eval (.tmp 66) = _ := hF 30 (det 66 _) (by decide) (mem4 (.tail _ (.tail _ (.tail _ (.head _)))))
                      have e73 : ax.eval (.tmp 73) = _ := hF 37 (det 73 _) (by decide) (.head _)
                      refine ⟨e58, ?_⟩
                      simp [go_sem, BigFrame.eval_const, BigFrame.eval_global, BigFrame.eval_func, ↓IntWalk.iteOmega, ev e58, ev e66, ev e73, hsub2, d4, dv, dvi, dw, dwi]
                      with_reducible rfl
                    apply Build.detg 75 Ext.refl (by rfl) (by rfl) rfl rfl
                    case h =>   -- 39: t75 := Op.pick (tmp 58) (tmp 74) (const (Value.bool false))
                      intro ax wx hE hR hF
                      have e54 : ax.eval (.tmp 54) = _ := hF 18 (det 54 _) (by decide) (mem16 (mem4 (.head _)))
                      have e58 : ax.eval (.tmp 58) = _ := hF 22 (det 58 _) (by decide) (mem16 (.head _))
                      have e74 : ax.eval (.tmp 74) = _ := hF 38 (det 74 _) (by decide) (.head _)
                      refine ⟨e54, ?_⟩
                      simp [go_sem, BigFrame.eval_const, BigFrame.eval_global, BigFrame.eval_func, ↓IntWalk.iteOmega, ev e54, ev e58, ev e74, hsub2, d4, dv, dvi, dw, dwi]
                      with_reducible rfl
                    apply Build.det 76 Ext.refl (by rfl) (by rfl) rfl
                    case h =>   -- 40: t76 := Op.pick (tmp 54) (const (Value.bool true)) (tmp 75)
                      intro ax wx hE hR hF
                      have e54 : ax.eval (.tmp 54) = _ := hF 18 (det 54 _) (by decide) (mem16 (mem4 (.tail _ (.head _))))
                      have e75 : ax.eval (.tmp 75) = _ := hF 39 (det 75 _) (by decide) (.head _)
                      simp [go_sem, BigFrame.eval_const, BigFrame.eval_global, BigFrame.eval_func, ↓IntWalk.iteOmega, ev e54, ev e75, hsub2, d4, dv, dvi, dw, dwi]
                      with_reducible rfl
                    apply Build.stop
                    refine ⟨by kernel_rfl, .inl ⟨rfl, ?_⟩⟩
                    intro ax w2 hE R2 hF
                    have e36 : ax.eval (.tmp 36) = _ := hF 0 (det 36 _) (mem16 (mem16 (mem4 (mem4 (.head _)))))
                    have e37 : ax.eval (.tmp 37) = _ := hF 1 (det 37 _) (mem16 (mem16 (mem4 (.tail _ (.tail _ (.tail _ (.head _)))))))
                    have e38 : ax.eval (.tmp 38) = _ := hF 2 (det 38 _) (mem16 (mem16 (mem4 (.tail _ (.tail _ (.head _))))))
                    have e39 : ax.eval (.tmp 39) = _ := hF 3 (det 39 _) (mem16 (mem16 (mem4 (.tail _ (.head _)))))
                    have e40 : ax.eval (.tmp 40) = _ := hF 4 (det 40 _) (mem16 (mem16 (mem4 (.head _))))
                    have e41 : ax.eval (.tmp 41) = _ := hF 5 (det 41 _) (mem16 (mem16 (.tail _ (.tail _ (.tail _ (.head _))))))
                    have e42 : ax.eval (.tmp 42) = _ := hF 6 (det 42 _) (mem16 (mem16 (.tail _ (.tail _ (.head _)))))
                    have e43 : ax.eval (.tmp 43) = _ := hF 7 (det 43 _) (mem16 (mem16 (.tail _ (.head _))))
                    have e44 : ax.eval (.tmp 44) = _ := hF 8 (det 44 _) (mem16 (mem16 (.head _)))
                    have e45 : ax.eval (.tmp 45) = _ := hF 9 (det 45 _) (mem16 (mem4 (mem4 (mem4 (.tail _ (.tail _ (.tail _ (.head _))))))))
                    have e46 : ax.eval (.tmp 46) = _ := hF 10 (det 46 _) (mem16 (mem4 (mem4 (mem4 (.tail _ (.tail _ (.head _)))))))
                    have e47 : ax.eval (.tmp 47) = _ := hF 11 (det 47 _) (mem16 (mem4 (mem4 (mem4 (.tail _ (.head _))))))
                    have e48 : ax.eval (.tmp 48) = _ := hF 12 (det 48 _) (mem16 (mem4 (mem4 (mem4 (.head _)))))
                    have e49 : ax.eval (.tmp 49) = _ := hF 13 (det 49 _) (mem16 (mem4 (mem4 (.tail _ (.tail _ (.tail _ (.head _)))))))
                    have e50 : ax.eval (.tmp 50) = _ := hF 14 (det 50 _) (mem16 (mem4 (mem4 (.tail _ (.tail _ (.head _))))))
                    have e51 : ax.eval (.tmp 51) = _ := hF 15 (det 51 _) (mem16 (mem4 (mem4 (.tail _ (.head _)))))
                    have e52 : ax.eval (.tmp 52) = _ := hF 16 (det 52 _) (mem16 (mem4 (mem4 (.head _))))
                    have e53 : ax.eval (.tmp 53) = _ := hF 17 (det 53 _) (mem16 (mem4 (.tail _ (.tail _ (.tail _ (.head _))))))
                    have e54 : ax.eval (.tmp 54) = _ := hF 18 (det 54 _) (mem16 (mem4 (.tail _ (.tail _ (.head _)))))
                    have e55 : ax.eval (.tmp 55) = _ := hF 19 (det 55 _) (mem16 (mem4 (.tail _ (.head _))))
                    have e56 : ax.eval (.tmp 56) = _ := hF 20 (det 56 _) (mem16 (mem4 (.head _)))
                    have e57 : ax.eval (.tmp 57) = _ := hF 21 (det 57 _) (mem16 (.tail _ (.tail _ (.tail _ (.head _)))))
                    have e58 : ax.eval (.tmp 58) = _ := hF 22 (det 58 _) (mem16 (.tail _ (.tail _ (.head _))))
                    have e59 : ax.eval (.tmp 59) = _ := hF 23 (det 59 _) (mem16 (.tail _ (.head _)))
                    have e60 : ax.eval (.tmp 60) = _ := hF 24 (det 60 _) (mem16 (.head _))
                    have e61 : ax.eval (.tmp 61) = _ := hF 25 (det 61 _) (mem4 (mem4 (mem4 (.tail _ (.tail _ (.tail _ (.head _)))))))
                    have e62 : ax.eval (.tmp 62) = _ := hF 26 (det 62 _) (mem4 (mem4 (mem4 (.tail _ (.tail _ (.head _))))))
                    have e63 : ax.eval (.tmp 63) = _ := hF 27 (det 63 _) (mem4 (mem4 (mem4 (.tail _ (.head _)))))
                    have e64 : ax.eval (.tmp 64) = _ := hF 28 (det 64 _) (mem4 (mem4 (mem4 (.head _))))
                    have e65 : ax.eval (.tmp 65) = _ := hF 29 (det 65 _) (mem4 (mem4 (.tail _ (.tail _ (.tail _ (.head _))))))
                    have e66 : ax.eval (.tmp 66) = _ := hF 30 (det 66 _) (mem4 (mem4 (.tail _ (.tail _ (.head _)))))
                    have e67 : ax.eval (.tmp 67) = _ := hF 31 (det 67 _) (mem4 (mem4 (.tail _ (.head _))))
                    have e68 : ax.eval (.tmp 68) = _ := hF 32 (det 68 _) (mem4 (mem4 (.head _)))
                    have e69 : ax.eval (.tmp 69) = _ := hF 33 (det 69 _) (mem4 (.tail _ (.tail _ (.tail _ (.head _)))))
                    have e70 : ax.eval (.tmp 70) = _ := hF 34 (det 70 _) (mem4 (.tail _ (.tail _ (.head _))))
                    have e71 : ax.eval (.tmp 71) = _ := hF 35 (det 71 _) (mem4 (.tail _ (.head _)))
                    have e72 : ax.eval (.tmp 72) = _ := hF 36 (det 72 _) (mem4 (.head _))
                    have e73 : ax.eval (.tmp 73) = _ := hF 37 (det 73 _) (.tail _ (.tail _ (.tail _ (.head _))))
                    have e74 : ax.eval (.tmp 74) = _ := hF 38 (det 74 _) (.tail _ (.tail _ (.head _)))
                    have e75 : ax.eval (.tmp 75) = _ := hF 39 (det 75 _) (.tail _ (.head _))
                    have e76 : ax.eval (.tmp 76) = _ := hF 40 (det 76 _) (.head _)
                    rw [AllEq.frame (D := [36, 37, 38, 39, 40, 41, 42, 43, 44, 45, 46, 47, 48, 49, 50, 51, 52, 53, 54, 55, 56, 57, 58, 59, 60, 61, 62, 63, 64, 65, 66, 67, 68, 69, 70, 71, 72, 73, 74, 75, 76]) (AllEq.cons e36 (AllEq.cons e37 (AllEq.cons e38 (AllEq.cons e39 (AllEq.cons e40 (AllEq.cons e41 (AllEq.cons e42 (AllEq.cons e43 (AllEq.cons e44 (AllEq.cons e45 (AllEq.cons e46 (AllEq.cons e47 (AllEq.cons e48 (AllEq.cons e49 (AllEq.cons e50 (AllEq.cons e51 (AllEq.cons e52 (AllEq.cons e53 (AllEq.cons e54 (AllEq.cons e55 (AllEq.cons e56 (AllEq.cons e57 (AllEq.cons e58 (AllEq.cons e59 (AllEq.cons e60 (AllEq.cons e61 (AllEq.cons e62 (AllEq.cons e63 (AllEq.cons e64 (AllEq.cons e65 (AllEq.cons e66 (AllEq.cons e67 (AllEq.cons e68 (AllEq.cons e69 (AllEq.cons e70 (AllEq.cons e71 (AllEq.cons e72 (AllEq.cons e73 (AllEq.cons e74 (AllEq.cons e75 (AllEq.cons e76 (AllEq.nil)))))))))))))))))))))))))))))))))))))))))) hE rfl]
                    clear hF hE e36 e37 e38 e39 e40 e41 e42 e43 e44 e45 e46 e47 e48 e49 e50 e51 e52 e53 e54 e55 e56 e57 e58 e59 e60 e61 e62 e63 e64 e65 e66 e67 e68 e69 e70 e71 e72 e73 e74 e75 e76
                    simp only [List.foldl_cons, List.foldl_nil, Act.put, List.setIfInBounds_toArray, List.set_cons_succ, List.set_cons_zero]
                    have hEx := hEx.trans R2
                    go_wp2_with fail
                    go_roundw
                    case rel => exact ⟨_, by go_num, by omega, hEx, HS.out (⟨.inl rfl, .inr (HV.out.symm ▸ hff.out)⟩)⟩
                    case measure => simp [intOf]; omega
              | succ p =>
                have HP := Lib.hid (fun (W : World) (h : Ext wr W) => hrow1.key_at (hEx.trans h) (show p < xs.length by omega))
                obtain ⟨K0, hK0⟩ : ∃ V, keyAt xs p = V := ⟨_, rfl⟩
                obtain ⟨K1, hK1⟩ : ∃ V, keyAt xs (p + 1) = V := ⟨_, rfl⟩
                rw [hK0] at HP
                rw [hK1] at HQ
                have HK : Hid (okAt lv xs (p + 1) ↔ K0 < K1 ∧ (lv ≤ 0 ∨ farB (valAt xs (p + 1)) = false)) := by
                  show okAt lv xs (p + 1) ↔ _
                  unfold okAt
                  rw [show p + 1 - 1 = p from rfl, hK0, hK1]
                  simp
                clear hK0 hK1
                have hsub : IntKind.i64.wrap (((p + 1 : Nat) : Int) - 1) = (p : Int) := by rw [IntWalk.i64_in _ (by omega)]; omega
                have hsub2 : IntKind.i64.wrap (p : Int) = (p : Int) := IntWalk.i64_in _ (by omega)
                go_upto_region 6 with fail
                by_cases hk : K0 < K1
                · have dk : decide ((K1 : Int) ≤ (K0 : Int)) = false := by rw [decide_eq_false_iff_not]; omega
                  have dkn : decide (K1 ≤ K0) = false := by rw [decide_eq_false_iff_not]; omega
                  have hfar : farB V = (decide (V < 1) || decide (512 ≤ V)) := rfl
                  by_cases hv1 : V < 1
                  · have dv : decide (V < 1) = true := by rw [decide_eq_true_iff]; omega
                    have dvi : decide ((V : Int) < 1) = true := by rw [decide_eq_true_iff]; omega
                    have hff : Hid (¬ farB V = false) := by rw [hfar, dv]; simp [Hid]
                    clear hfar
                    refine wp_typed (R := Ext) (w0 := wr) [[], [0], [0, 1], [0, 1, 2], [0, 1, 2, 3], [0, 1, 2], [0, 1, 2, 5], [0, 1, 2, 3, 4, 5, 6], [0, 1, 2, 3, 4, 5, 6, 7], [0, 1, 2, 3, 4, 5, 6, 7, 8], [0, 1, 2], [0, 1, 2, 10], [0, 1, 2], [0, 1, 2, 10, 11, 12], [0, 1, 2, 10, 11, 12, 13], [0, 1, 2, 10, 11, 12, 13, 14], [0, 1, 2, 3, 4, 5, 6, 7, 8, 9, 10, 11, 12, 13, 14, 15], [0, 1, 2, 3, 4, 5, 6, 7, 8, 9, 10, 11, 12, 13, 14, 15, 16], [0, 1, 2, 3, 4, 5, 6, 7, 8, 9, 10, 11, 12, 13, 14, 15, 16, 17], [0, 1, 2, 3, 4, 5, 6, 7, 8, 9, 10, 11, 12, 13, 14, 15, 16, 17, 18], [0, 1, 2, 3, 4, 5, 6, 7, 8, 9, 10, 11, 12, 13, 14, 15, 16, 17, 18, 19], [0, 1, 2, 3, 4, 5, 6, 7, 8, 9, 10, 11, 12, 13, 14, 15, 16, 17, 18, 19, 20], [0, 1, 2, 3, 4, 5, 6, 7, 8, 9, 10, 11, 12, 13, 14, 15, 16, 17, 18, 19, 20, 21], [0, 1, 2, 3, 4, 5, 6, 7, 8, 9, 10, 11, 12, 13, 14, 15, 16, 17, 18, 19, 20, 21, 22], [0, 1, 2, 3, 4, 5, 6, 7, 8, 9, 10, 11, 12, 13, 14, 15, 16, 17, 18, 19, 20, 21, 22, 23], [0, 1, 2, 3, 4, 5, 6, 7, 8, 9, 10, 11, 12, 13, 14, 15, 16, 17, 18, 19, 20, 21, 22], [0, 1, 2, 3, 4, 5, 6, 7, 8, 9, 10, 11, 12, 13, 14, 15, 16, 17, 18, 19, 20, 21, 22, 23, 24, 25], [0, 1, 2, 3, 4, 5, 6, 7, 8, 9, 10, 11, 12, 13, 14, 15, 16, 17, 18, 19, 20, 21, 22, 23, 24, 25, 26], [0, 1, 2, 3, 4, 5, 6, 7, 8, 9, 10, 11, 12, 13, 14, 15, 16, 17, 18, 19, 20, 21, 22, 23, 24, 25, 26, 27], [0, 1, 2, 3, 4, 5, 6, 7, 8, 9, 10, 11, 12, 13, 14, 15, 16, 17, 18, 19, 20, 21, 22, 23, 24, 25, 26, 27, 28], [0, 1, 2, 3, 4, 5, 6, 7, 8, 9, 10, 11, 12, 13, 14, 15, 16, 17, 18, 19, 20, 21, 22, 23, 24, 25, 26, 27, 28, 29], [0, 1, 2, 3, 4, 5, 6, 7, 8, 9, 10, 11, 12, 13, 14, 15, 16, 17, 18, 19, 20, 21, 22, 23, 24, 25, 26, 27, 28, 29, 30], [0, 1, 2, 3, 4, 5, 6, 7, 8, 9, 10, 11, 12, 13, 14, 15, 16, 17, 18, 19, 20, 21, 22, 23, 24, 25, 26, 27, 28, 29, 30, 31], [0, 1, 2, 3, 4, 5, 6, 7, 8, 9, 10, 11, 12, 13, 14, 15, 16, 17, 18, 19, 20, 21, 22, 23, 24, 25, 26, 27, 28, 29, 30], [0, 1, 2, 3, 4, 5, 6, 7, 8, 9, 10, 11, 12, 13, 14, 15, 16, 17, 18, 19, 20, 21, 22, 23, 24, 25, 26, 27, 28, 29, 30, 31, 32, 33], [0, 1, 2, 3, 4, 5, 6, 7, 8, 9, 10, 11, 12, 13, 14, 15, 16, 17, 18, 19, 20, 21, 22, 23, 24, 25, 26, 27, 28, 29, 30, 31, 32, 33, 34], [0, 1, 2, 3, 4, 5, 6, 7, 8, 9, 10, 11, 12, 13, 14, 15, 16, 17, 18, 19, 20, 21, 22, 23, 24, 25, 26, 27, 28, 29, 30, 31, 32, 33, 34, 35], [0, 1, 2, 3, 4, 5, 6, 7, 8, 9, 10, 11, 12, 13, 14, 15, 16, 17, 18, 19, 20, 21, 22, 23, 24, 25, 26, 27, 28, 29, 30, 31, 32, 33, 34, 35, 36], [0, 1, 2, 3, 4, 5, 6, 7, 8, 9, 10, 11, 12, 13, 14, 15, 16, 17, 18, 19, 20, 21, 22, 23, 24, 25, 26, 27, 28, 29, 30, 31, 32, 33, 34, 35, 36, 37], [0, 1, 2, 3, 4, 5, 6, 7, 8, 9, 10, 11, 12, 13, 14, 15, 16, 17, 18, 19, 20, 21, 22, 23, 24, 25, 26, 27, 28, 29, 30, 31, 32, 33, 34, 35, 36, 37, 38], [0, 1, 2, 3, 4, 5, 6, 7, 8, 9, 10, 11, 12, 13, 14, 15, 16, 17, 18, 19, 20, 21, 22, 23, 24, 25, 26, 27, 28, 29, 30, 31, 32, 33, 34, 35, 36, 37, 38, 39]] [36, 37, 38, 39, 40, 41, 42, 43, 44, 45, 46, 47, 48, 49, 50, 51, 52, 53, 54, 55, 56, 57, 58, 59, 60, 61, 62, 63, 64, 65, 66, 67, 68, 69, 70, 71, 72, 73, 74, 75, 76] Ext.refl (fun _ _ _ => Ext.trans) (Ext.drew _) (by kernel_rfl) ?_
                    apply Build.det 36 Ext.refl (by rfl) (by rfl) rfl
                    case h =>   -- 0: t36 := Op.move (tmp 3)
                      intro ax wx hE hR hF
                      have e3 : ax.eval (.tmp 3) = .int .i64 (((p + 1 : Nat) : Int)) := hE.eval 3 (by rfl) rfl
                      simp [go_sem, BigFrame.eval_const, BigFrame.eval_global, BigFrame.eval_func, ↓IntWalk.iteOmega, ev e3, hsub, hsub2, d4, dv, dvi, dk, dkn]
                      with_reducible rfl
                    apply Build.det 37 Ext.refl (by rfl) (by rfl) rfl
                    case h =>   -- 1: t37 := Op.binOp BinOp.gtr 3 (tmp 36) (const (Value.int IntKind.i64 0)) 3
                      intro ax wx hE hR hF
                      have e36 : ax.eval (.tmp 36) = _ := hF 0 (det 36 _) (by decide) (.head _)
                      simp [go_sem, BigFrame.eval_const, BigFrame.eval_global, BigFrame.eval_func, ↓IntWalk.iteOmega, ev e36, hsub, hsub2, d4, dv, dvi, dk, dkn]
                      with_reducible rfl
                    apply Build.det 38 Ext.refl (by rfl) (by rfl) rfl
                    case h =>   -- 2: t38 := Op.move (tmp 37)
                      intro ax wx hE hR hF
                      have e37 : ax.eval (.tmp 37) = _ := hF 1 (det 37 _) (by decide) (.head _)
                      simp [go_sem, BigFrame.eval_const, BigFrame.eval_global, BigFrame.eval_func, ↓IntWalk.iteOmega, ev e37, hsub, hsub2, d4, dv, dvi, dk, dkn]
                      with_reducible rfl
                    apply Build.detg 39 Ext.refl (by rfl) (by rfl) rfl rfl
                    case h =>   -- 3: t39 := Op.fieldAddr 60 (tmp 1) 1
                      intro ax wx hE hR hF
                      have e1 : ax.eval (.tmp 1) = .pointer (some ⟨w.heap.size, 0, none⟩) := hE.eval 1 (by rfl) rfl
                      have e38 : ax.eval (.tmp 38) = _ := hF 2 (det 38 _) (by decide) (.head _)
                      refine ⟨e38, ?_⟩
                      simp [go_sem, BigFrame.eval_const, BigFrame.eval_global, BigFrame.eval_func, ↓IntWalk.iteOmega, ev e1, ev e38, hsub, hsub2, d4, dv, dvi, dk, dkn]
                      with_reducible rfl
                    apply Build.detg 40 Ext.refl (by rfl) (by rfl) rfl rfl
                    case h =>   -- 4: t40 := Op.load 58 (tmp 39)
                      intro ax wx hE hR hF
                      have e38 : ax.eval (.tmp 38) = _ := hF 2 (det 38 _) (by decide) (.tail _ (.head _))
                      have e39 : ax.eval (.tmp 39) = _ := hF 3 (det 39 _) (by decide) (.head _)
                      have hX2 := HXX.out _ hR; have q0 := hX2.cell 0; have q1 := hX2.cell 1; have p0 := HP.out _ hR; have p1 := (HQ.out _ hR).1; have p2 := (HQ.out _ hR).2
                      refine ⟨e38, ?_⟩
                      simp [go_sem, BigFrame.eval_const, BigFrame.eval_global, BigFrame.eval_func, ↓IntWalk.iteOmega, ev e38, ev e39, hsub, hsub2, d4, dv, dvi, dk, dkn, q0, q1, p0, p1, p2]
                      with_reducible rfl
                    apply Build.detg 41 Ext.refl (by rfl) (by rfl) rfl rfl
                    case h =>   -- 5: t41 := Op.move (tmp 3)
                      intro ax wx hE hR hF
                      have e3 : ax.eval (.tmp 3) = .int .i64 (((p + 1 : Nat) : Int)) := hE.eval 3 (by rfl) rfl
                      have e38 : ax.eval (.tmp 38) = _ := hF 2 (det 38 _) (by decide) (.tail _ (.tail _ (.head _)))
                      refine ⟨e38, ?_⟩
                      simp [go_sem, BigFrame.eval_const, BigFrame.eval_global, BigFrame.eval_func, ↓IntWalk.iteOmega, ev e3, ev e38, hsub, hsub2, d4, dv, dvi, dk, dkn]
                      with_reducible rfl
                    apply Build.detg 42 Ext.refl (by rfl) (by rfl) rfl rfl
                    case h =>   -- 6: t42 := Op.binOp BinOp.sub 3 (tmp 41) (const (Value.int IntKind.i64 1)) 3
                      intro ax wx hE hR hF
                      have e38 : ax.eval (.tmp 38) = _ := hF 2 (det 38 _) (by decide) (.tail _ (.tail _ (.tail _ (.head _))))
                      have e41 : ax.eval (.tmp 41) = _ := hF 5 (det 41 _) (by decide) (.head _)
                      refine ⟨e38, ?_⟩
                      simp [go_sem, BigFrame.eval_const, BigFrame.eval_global, BigFrame.eval_func, ↓IntWalk.iteOmega, ev e38, ev e41, hsub, hsub2, d4, dv, dvi, dk, dkn]
                      with_reducible rfl
                    apply Build.detg 43 Ext.refl (by rfl) (by rfl) rfl rfl
                    case h =>   -- 7: t43 := Op.indexAddr 58 (tmp 40) (tmp 42)
                      intro ax wx hE hR hF
                      have e38 : ax.eval (.tmp 38) = _ := hF 2 (det 38 _) (by decide) (mem4 (.head _))
                      have e40 : ax.eval (.tmp 40) = _ := hF 4 (det 40 _) (by decide) (.tail _ (.tail _ (.head _)))
                      have e42 : ax.eval (.tmp 42) = _ := hF 6 (det 42 _) (by decide) (.head _)
                      refine ⟨e38, ?_⟩
                      simp [go_sem, BigFrame.eval_const, BigFrame.eval_global, BigFrame.eval_func, ↓IntWalk.iteOmega, ev e38, ev e40, ev e42, hsub, hsub2, d4, dv, dvi, dk, dkn]
                      with_reducible rfl
                    apply Build.detg 44 Ext.refl (by rfl) (by rfl) rfl rfl
                    case h =>   -- 8: t44 := Op.fieldAddr 72 (tmp 43) 0
                      intro ax wx hE hR hF
                      have e38 : ax.eval (.tmp 38) = _ := hF 2 (det 38 _) (by decide) (mem4 (.tail _ (.head _)))
                      have e43 : ax.eval (.tmp 43) = _ := hF 7 (det 43 _) (by decide) (.head _)
                      refine ⟨e38, ?_⟩
                      simp [go_sem, BigFrame.eval_const, BigFrame.eval_global, BigFrame.eval_func, ↓IntWalk.iteOmega, ev e38, ev e43, hsub, hsub2, d4, dv, dvi, dk, dkn]
                      with_reducible rfl
                    apply Build.detg 45 Ext.refl (by rfl) (by rfl) rfl rfl
                    case h =>   -- 9: t45 := Op.load 31 (tmp 44)
                      intro ax wx hE hR hF
                      have e38 : ax.eval (.tmp 38) = _ := hF 2 (det 38 _) (by decide) (mem4 (.tail _ (.tail _ (.head _))))
                      have e44 : ax.eval (.tmp 44) = _ := hF 8 (det 44 _) (by decide) (.head _)
                      have hX2 := HXX.out _ hR; have q0 := hX2.cell 0; have q1 := hX2.cell 1; have p0 := HP.out _ hR; have p1 := (HQ.out _ hR).1; have p2 := (HQ.out _ hR).2
                      refine ⟨e38, ?_⟩
                      simp [go_sem, BigFrame.eval_const, BigFrame.eval_global, BigFrame.eval_func, ↓IntWalk.iteOmega, ev e38, ev e44, hsub, hsub2, d4, dv, dvi, dk, dkn, q0, q1, p0, p1, p2]
                      with_reducible rfl
                    apply Build.detg 46 Ext.refl (by rfl) (by rfl) rfl rfl
                    case h =>   -- 10: t46 := Op.fieldAddr 60 (tmp 1) 1
                      intro ax wx hE hR hF
                      have e1 : ax.eval (.tmp 1) = .pointer (some ⟨w.heap.size, 0, none⟩) := hE.eval 1 (by rfl) rfl
                      have e38 : ax.eval (.tmp 38) = _ := hF 2 (det 38 _) (by decide) (mem4 (.tail _ (.tail _ (.tail _ (.head _)))))
                      refine ⟨e38, ?_⟩
                      simp [go_sem, BigFrame.eval_const, BigFrame.eval_global, BigFrame.eval_func, ↓IntWalk.iteOmega, ev e1, ev e38, hsub, hsub2, d4, dv, dvi, dk, dkn]
                      with_reducible rfl
                    apply Build.detg 47 Ext.refl (by rfl) (by rfl) rfl rfl
                    case h =>   -- 11: t47 := Op.load 58 (tmp 46)
                      intro ax wx hE hR hF
                      have e38 : ax.eval (.tmp 38) = _ := hF 2 (det 38 _) (by decide) (mem4 (mem4 (.head _)))
                      have e46 : ax.eval (.tmp 46) = _ := hF 10 (det 46 _) (by decide) (.head _)
                      have hX2 := HXX.out _ hR; have q0 := hX2.cell 0; have q1 := hX2.cell 1; have p0 := HP.out _ hR; have p1 := (HQ.out _ hR).1; have p2 := (HQ.out _ hR).2
                      refine ⟨e38, ?_⟩
                      simp [go_sem, BigFrame.eval_const, BigFrame.eval_global, BigFrame.eval_func, ↓IntWalk.iteOmega, ev e38, ev e46, hsub, hsub2, d4, dv, dvi, dk, dkn, q0, q1, p0, p1, p2]
                      with_reducible rfl
                    apply Build.detg 48 Ext.refl (by rfl) (by rfl) rfl rfl
                    case h =>   -- 12: t48 := Op.move (tmp 3)
                      intro ax wx hE hR hF
                      have e3 : ax.eval (.tmp 3) = .int .i64 (((p + 1 : Nat) : Int)) := hE.eval 3 (by rfl) rfl
                      have e38 : ax.eval (.tmp 38) = _ := hF 2 (det 38 _) (by decide) (mem4 (mem4 (.tail _ (.head _))))
                      refine ⟨e38, ?_⟩
                      simp [go_sem, BigFrame.eval_const, BigFrame.eval_global, BigFrame.eval_func, ↓IntWalk.iteOmega, ev e3, ev e38, hsub, hsub2, d4, dv, dvi, dk, dkn]
                      with_reducible rfl
                    apply Build.detg 49 Ext.refl (by rfl) (by rfl) rfl rfl
                    case h =>   -- 13: t49 := Op.indexAddr 58 (tmp 47) (tmp 48)
                      intro ax wx hE hR hF
                      have e38 : ax.eval (.tmp 38) = _ := hF 2 (det 38 _) (by decide) (mem4 (mem4 (.tail _ (.tail _ (.head _)))))
                      have e47 : ax.eval (.tmp 47) = _ := hF 11 (det 47 _) (by decide) (.tail _ (.head _))
                      have e48 : ax.eval (.tmp 48) = _ := hF 12 (det 48 _) (by decide) (.head _)
                      refine ⟨e38, ?_⟩
                      simp [go_sem, BigFrame.eval_const, BigFrame.eval_global, BigFrame.eval_func, ↓IntWalk.iteOmega, ev e38, ev e47, ev e48, hsub, hsub2, d4, dv, dvi, dk, dkn]
                      with_reducible rfl
                    apply Build.detg 50 Ext.refl (by rfl) (by rfl) rfl rfl
                    case h =>   -- 14: t50 := Op.fieldAddr 72 (tmp 49) 0
                      intro ax wx hE hR hF
                      have e38 : ax.eval (.tmp 38) = _ := hF 2 (det 38 _) (by decide) (mem4 (mem4 (.tail _ (.tail _ (.tail _ (.head _))))))
                      have e49 : ax.eval (.tmp 49) = _ := hF 13 (det 49 _) (by decide) (.head _)
                      refine ⟨e38, ?_⟩
                      simp [go_sem, BigFrame.eval_const, BigFrame.eval_global, BigFrame.eval_func, ↓IntWalk.iteOmega, ev e38, ev e49, hsub, hsub2, d4, dv, dvi, dk, dkn]
                      with_reducible rfl
                    apply Build.detg 51 Ext.refl (by rfl) (by rfl) rfl rfl
                    case h =>   -- 15: t51 := Op.load 31 (tmp 50)
                      intro ax wx hE hR hF
                      have e38 : ax.eval (.tmp 38) = _ := hF 2 (det 38 _) (by decide) (mem4 (mem4 (mem4 (.head _))))
                      have e50 : ax.eval (.tmp 50) = _ := hF 14 (det 50 _) (by decide) (.head _)
                      have hX2 := HXX.out _ hR; have q0 := hX2.cell 0; have q1 := hX2.cell 1; have p0 := HP.out _ hR; have p1 := (HQ.out _ hR).1; have p2 := (HQ.out _ hR).2
                      refine ⟨e38, ?_⟩
                      simp [go_sem, BigFrame.eval_const, BigFrame.eval_global, BigFrame.eval_func, ↓IntWalk.iteOmega, ev e38, ev e50, hsub, hsub2, d4, dv, dvi, dk, dkn, q0, q1, p0, p1, p2]
                      with_reducible rfl
                    apply Build.detg 52 Ext.refl (by rfl) (by rfl) rfl rfl
                    case h =>   -- 16: t52 := Op.binOp BinOp.geq 31 (tmp 45) (tmp 51) 31
                      intro ax wx hE hR hF
                      have e38 : ax.eval (.tmp 38) = _ := hF 2 (det 38 _) (by decide) (mem4 (mem4 (mem4 (.tail _ (.head _)))))
                      have e45 : ax.eval (.tmp 45) = _ := hF 9 (det 45 _) (by decide) (mem4 (.tail _ (.tail _ (.head _))))
                      have e51 : ax.eval (.tmp 51) = _ := hF 15 (det 51 _) (by decide) (.head _)
                      refine ⟨e38, ?_⟩
                      simp [go_sem, BigFrame.eval_const, BigFrame.eval_global, BigFrame.eval_func, ↓IntWalk.iteOmega, ev e38, ev e45, ev e51, hsub, hsub2, d4, dv, dvi, dk, dkn]
                      with_reducible rfl
                    apply Build.det 53 Ext.refl (by rfl) (by rfl) rfl
                    case h =>   -- 17: t53 := Op.pick (tmp 38) (tmp 52) (const (Value.bool false))
                      intro ax wx hE hR hF
                      have e38 : ax.eval (.tmp 38) = _ := hF 2 (det 38 _) (by decide) (mem4 (mem4 (mem4 (.tail _ (.tail _ (.head _))))))
                      have e52 : ax.eval (.tmp 52) = _ := hF 16 (det 52 _) (by decide) (.head _)
                      simp [go_sem, BigFrame.eval_const, BigFrame.eval_global, BigFrame.eval_func, ↓IntWalk.iteOmega, ev e38, ev e52, hsub, hsub2, d4, dv, dvi, dk, dkn]
                      with_reducible rfl
                    apply Build.det 54 Ext.refl (by rfl) (by rfl) rfl
                    case h =>   -- 18: t54 := Op.move (tmp 53)
                      intro ax wx hE hR hF
                      have e53 : ax.eval (.tmp 53) = _ := hF 17 (det 53 _) (by decide) (.head _)
                      simp [go_sem, BigFrame.eval_const, BigFrame.eval_global, BigFrame.eval_func, ↓IntWalk.iteOmega, ev e53, hsub, hsub2, d4, dv, dvi, dk, dkn]
                      with_reducible rfl
                    apply Build.detg 55 Ext.refl (by rfl) (by rfl) rfl rfl
                    case h =>   -- 19: t55 := Op.fieldAddr 60 (tmp 1) 0
                      intro ax wx hE hR hF
                      have e1 : ax.eval (.tmp 1) = .pointer (some ⟨w.heap.size, 0, none⟩) := hE.eval 1 (by rfl) rfl
                      have e54 : ax.eval (.tmp 54) = _ := hF 18 (det 54 _) (by decide) (.head _)
                      refine ⟨e54, ?_⟩
                      simp [go_sem, BigFrame.eval_const, BigFrame.eval_global, BigFrame.eval_func, ↓IntWalk.iteOmega, ev e1, ev e54, hsub, hsub2, d4, dv, dvi, dk, dkn]
                      with_reducible rfl
                    apply Build.detg 56 Ext.refl (by rfl) (by rfl) rfl rfl
                    case h =>   -- 20: t56 := Op.load 3 (tmp 55)
                      intro ax wx hE hR hF
                      have e54 : ax.eval (.tmp 54) = _ := hF 18 (det 54 _) (by decide) (.tail _ (.head _))
                      have e55 : ax.eval (.tmp 55) = _ := hF 19 (det 55 _) (by decide) (.head _)
                      have hX2 := HXX.out _ hR; have q0 := hX2.cell 0; have q1 := hX2.cell 1; have p0 := HP.out _ hR; have p1 := (HQ.out _ hR).1; have p2 := (HQ.out _ hR).2
                      refine ⟨e54, ?_⟩
                      simp [go_sem, BigFrame.eval_const, BigFrame.eval_global, BigFrame.eval_func, ↓IntWalk.iteOmega, ev e54, ev e55, hsub, hsub2, d4, dv, dvi, dk, dkn, q0, q1, p0, p1, p2]
                      with_reducible rfl
                    apply Build.detg 57 Ext.refl (by rfl) (by rfl) rfl rfl
                    case h =>   -- 21: t57 := Op.binOp BinOp.gtr 3 (tmp 56) (const (Value.int IntKind.i64 0)) 3
                      intro ax wx hE hR hF
                      have e54 : ax.eval (.tmp 54) = _ := hF 18 (det 54 _) (by decide) (.tail _ (.tail _ (.head _)))
                      have e56 : ax.eval (.tmp 56) = _ := hF 20 (det 56 _) (by decide) (.head _)
                      refine ⟨e54, ?_⟩
                      simp [go_sem, BigFrame.eval_const, BigFrame.eval_global, BigFrame.eval_func, ↓IntWalk.iteOmega, ev e54, ev e56, hsub, hsub2, d4, dv, dvi, dk, dkn]
                      with_reducible rfl
                    apply Build.detg 58 Ext.refl (by rfl) (by rfl) rfl rfl
                    case h =>   -- 22: t58 := Op.move (tmp 57)
                      intro ax wx hE hR hF
                      have e54 : ax.eval (.tmp 54) = _ := hF 18 (det 54 _) (by decide) (.tail _ (.tail _ (.tail _ (.head _))))
                      have e57 : ax.eval (.tmp 57) = _ := hF 21 (det 57 _) (by decide) (.head _)
                      refine ⟨e54, ?_⟩
                      simp [go_sem, BigFrame.eval_const, BigFrame.eval_global, BigFrame.eval_func, ↓IntWalk.iteOmega, ev e54, ev e57, hsub, hsub2, d4, dv, dvi, dk, dkn]
                      with_reducible rfl
                    apply Build.detg 59 Ext.refl (by rfl) (by rfl) rfl rfl
                    case h =>   -- 23: t59 := Op.fieldAddr 60 (tmp 1) 1
                      intro ax wx hE hR hF
                      have e1 : ax.eval (.tmp 1) = .pointer (some ⟨w.heap.size, 0, none⟩) := hE.eval 1 (by rfl) rfl
                      have e58 : ax.eval (.tmp 58) = _ := hF 22 (det 58 _) (by decide) (.head _)
                      refine ⟨e58, ?_⟩
                      simp [go_sem, BigFrame.eval_const, BigFrame.eval_global, BigFrame.eval_func, ↓IntWalk.iteOmega, ev e1, ev e58, hsub, hsub2, d4, dv, dvi, dk, dkn]
                      with_reducible rfl
                    apply Build.detg 60 Ext.refl (by rfl) (by rfl) rfl rfl
                    case h =>   -- 24: t60 := Op.load 58 (tmp 59)
                      intro ax wx hE hR hF
                      have e58 : ax.eval (.tmp 58) = _ := hF 22 (det 58 _) (by decide) (.tail _ (.head _))
                      have e59 : ax.eval (.tmp 59) = _ := hF 23 (det 59 _) (by decide) (.head _)
                      have hX2 := HXX.out _ hR; have q0 := hX2.cell 0; have q1 := hX2.cell 1; have p0 := HP.out _ hR; have p1 := (HQ.out _ hR).1; have p2 := (HQ.out _ hR).2
                      refine ⟨e58, ?_⟩
                      simp [go_sem, BigFrame.eval_const, BigFrame.eval_global, BigFrame.eval_func, ↓IntWalk.iteOmega, ev e58, ev e59, hsub, hsub2, d4, dv, dvi, dk, dkn, q0, q1, p0, p1, p2]
                      with_reducible rfl
                    apply Build.detg 61 Ext.refl (by rfl) (by rfl) rfl rfl
                    case h =>   -- 25: t61 := Op.move (tmp 3)
                      intro ax wx hE hR hF
                      have e3 : ax.eval (.tmp 3) = .int .i64 (((p + 1 : Nat) : Int)) := hE.eval 3 (by rfl) rfl
                      have e58 : ax.eval (.tmp 58) = _ := hF 22 (det 58 _) (by decide) (.tail _ (.tail _ (.head _)))
                      refine ⟨e58, ?_⟩
                      simp [go_sem, BigFrame.eval_const, BigFrame.eval_global, BigFrame.eval_func, ↓IntWalk.iteOmega, ev e3, ev e58, hsub, hsub2, d4, dv, dvi, dk, dkn]
                      with_reducible rfl
                    apply Build.detg 62 Ext.refl (by rfl) (by rfl) rfl rfl
                    case h =>   -- 26: t62 := Op.indexAddr 58 (tmp 60) (tmp 61)
                      intro ax wx hE hR hF
                      have e58 : ax.eval (.tmp 58) = _ := hF 22 (det 58 _) (by decide) (.tail _ (.tail _ (.tail _ (.head _))))
                      have e60 : ax.eval (.tmp 60) = _ := hF 24 (det 60 _) (by decide) (.tail _ (.head _))
                      have e61 : ax.eval (.tmp 61) = _ := hF 25 (det 61 _) (by decide) (.head _)
                      refine ⟨e58, ?_⟩
                      simp [go_sem, BigFrame.eval_const, BigFrame.eval_global, BigFrame.eval_func, ↓IntWalk.iteOmega, ev e58, ev e60, ev e61, hsub, hsub2, d4, dv, dvi, dk, dkn]
                      with_reducible rfl
                    apply Build.detg 63 Ext.refl (by rfl) (by rfl) rfl rfl
                    case h =>   -- 27: t63 := Op.fieldAddr 72 (tmp 62) 1
                      intro ax wx hE hR hF
                      have e58 : ax.eval (.tmp 58) = _ := hF 22 (det 58 _) (by decide) (mem4 (.head _))
                      have e62 : ax.eval (.tmp 62) = _ := hF 26 (det 62 _) (by decide) (.head _)
                      refine ⟨e58, ?_⟩
                      simp [go_sem, BigFrame.eval_const, BigFrame.eval_global, BigFrame.eval_func, ↓IntWalk.iteOmega, ev e58, ev e62, hsub, hsub2, d4, dv, dvi, dk, dkn]
                      with_reducible rfl
                    apply Build.detg 64 Ext.refl (by rfl) (by rfl) rfl rfl
                    case h =>   -- 28: t64 := Op.load 31 (tmp 63)
                      intro ax wx hE hR hF
                      have e58 : ax.eval (.tmp 58) = _ := hF 22 (det 58 _) (by decide) (mem4 (.tail _ (.head _)))
                      have e63 : ax.eval (.tmp 63) = _ := hF 27 (det 63 _) (by decide) (.head _)
                      have hX2 := HXX.out _ hR; have q0 := hX2.cell 0; have q1 := hX2.cell 1; have p0 := HP.out _ hR; have p1 := (HQ.out _ hR).1; have p2 := (HQ.out _ hR).2
                      refine ⟨e58, ?_⟩
                      simp [go_sem, BigFrame.eval_const, BigFrame.eval_global, BigFrame.eval_func, ↓IntWalk.iteOmega, ev e58, ev e63, hsub, hsub2, d4, dv, dvi, dk, dkn, q0, q1, p0, p1, p2]
                      with_reducible rfl
                    apply Build.detg 65 Ext.refl (by rfl) (by rfl) rfl rfl
                    case h =>   -- 29: t65 := Op.binOp BinOp.lss 31 (tmp 64) (const (Value.int IntKind.u64 1)) 31
                      intro ax wx hE hR hF
                      have e58 : ax.eval (.tmp 58) = _ := hF 22 (det 58 _) (by decide) (mem4 (.tail _ (.tail _ (.head _))))
                      have e64 : ax.eval (.tmp 64) = _ := hF 28 (det 64 _) (by decide) (.head _)
                      refine ⟨e58, ?_⟩
                      simp [go_sem, BigFrame.eval_const, BigFrame.eval_global, BigFrame.eval_func, ↓IntWalk.iteOmega, ev e58, ev e64, hsub, hsub2, d4, dv, dvi, dk, dkn]
                      with_reducible rfl
                    apply Build.detg 66 Ext.refl (by rfl) (by rfl) rfl rfl
                    case h =>   -- 30: t66 := Op.move (tmp 65)
                      intro ax wx hE hR hF
                      have e58 : ax.eval (.tmp 58) = _ := hF 22 (det 58 _) (by decide) (mem4 (.tail _ (.tail _ (.tail _ (.head _)))))
                      have e65 : ax.eval (.tmp 65) = _ := hF 29 (det 65 _) (by decide) (.head _)
                      refine ⟨e58, ?_⟩
                      simp [go_sem, BigFrame.eval_const, BigFrame.eval_global, BigFrame.eval_func, ↓IntWalk.iteOmega, ev e58, ev e65, hsub, hsub2, d4, dv, dvi, dk, dkn]
                      with_reducible rfl
                    refine Build.skip 67 (by rfl) (by rfl) rfl rfl ?_ ?_
                    · intro ax wx hE hR hF
                      have e66 : ax.eval (.tmp 66) = _ := hF 30 (det 66 _) (by decide) (.head _)
                      exact e66
                    refine Build.skip 68 (by rfl) (by rfl) rfl rfl ?_ ?_
                    · intro ax wx hE hR hF
                      have e66 : ax.eval (.tmp 66) = _ := hF 30 (det 66 _) (by decide) (.tail _ (.head _))
                      exact e66
                    refine Build.skip 69 (by rfl) (by rfl) rfl rfl ?_ ?_
                    · intro ax wx hE hR hF
                      have e66 : ax.eval (.tmp 66) = _ := hF 30 (det 66 _) (by decide) (.tail _ (.tail _ (.head _)))
                      exact e66
                    refine Build.skip 70 (by rfl) (by rfl) rfl rfl ?_ ?_
                    · intro ax wx hE hR hF
                      have e66 : ax.eval (.tmp 66) = _ := hF 30 (det 66 _) (by decide) (.tail _ (.tail _ (.tail _ (.head _))))
                      exact e66
                    refine Build.skip 71 (by rfl) (by rfl) rfl rfl ?_ ?_
                    · intro ax wx hE hR hF
                      have e66 : ax.eval (.tmp 66) = _ := hF 30 (det 66 _) (by decide) (mem4 (.head _))
                      exact e66
                    refine Build.skip 72 (by rfl) (by rfl) rfl rfl ?_ ?_
                    · intro ax wx hE hR hF
                      have e66 : ax.eval (.tmp 66) = _ := hF 30 (det 66 _) (by decide) (mem4 (.tail _ (.head _)))
                      exact e66
                    refine Build.skip 73 (by rfl) (by rfl) rfl rfl ?_ ?_
                    · intro ax wx hE hR hF
                      have e66 : ax.eval (.tmp 66) = _ := hF 30 (det 66 _) (by decide) (mem4 (.tail _ (.tail _ (.head _))))
                      exact e66
                    apply Build.detg 74 Ext.refl (by rfl) (by rfl) rfl rfl
                    case h =>   -- 38: t74 := Op.pick (tmp 66) (const (Value.bool true)) (tmp 73)
                      intro ax wx hE hR hF
                      have e58 : ax.eval (.tmp 58) = _ := hF 22 (det 58 _) (by decide) (mem4 (mem4 (mem4 (.tail _ (.tail _ (.tail _ (.head _)))))))
                      have e66 : ax.eval (.tmp 66) = _ := hF 30 (det 66 _) (by decide) (mem4 (.tail _ (.tail _ (.tail _ (.head _)))))
                      have e73 : ax.eval (.tmp 73) = _ := hF 37 (det 73 _) (by decide) (.head _)
                      refine ⟨e58, ?_⟩
                      simp [go_sem, BigFrame.eval_const, BigFrame.eval_global, BigFrame.eval_func, ↓IntWalk.iteOmega, ev e58, ev e66, ev e73, hsub, hsub2, d4, dv, dvi, dk, dkn]
                      with_reducible rfl
                    apply Build.detg 75 Ext.refl (by rfl) (by rfl) rfl rfl
                    case h =>   -- 39: t75 := Op.pick (tmp 58) (tmp 74) (const (Value.bool false))
                      intro ax wx hE hR hF
                      have e54 : ax.eval (.tmp 54) = _ := hF 18 (det 54 _) (by decide) (mem16 (mem4 (.head _)))
                      have e58 : ax.eval (.tmp 58) = _ := hF 22 (det 58 _) (by decide) (mem16 (.head _))
                      have e74 : ax.eval (.tmp 74) = _ := hF 38 (det 74 _) (by decide) (.head _)
                      refine ⟨e54, ?_⟩
                      simp [go_sem, BigFrame.eval_const, BigFrame.eval_global, BigFrame.eval_func, ↓IntWalk.iteOmega, ev e54, ev e58, ev e74, hsub, hsub2, d4, dv, dvi, dk, dkn]
                      with_reducible rfl
                    apply Build.det 76 Ext.refl (by rfl) (by rfl) rfl
                    case h =>   -- 40: t76 := Op.pick (tmp 54) (const (Value.bool true)) (tmp 75)
                      intro ax wx hE hR hF
                      have e54 : ax.eval (.tmp 54) = _ := hF 18 (det 54 _) (by decide) (mem16 (mem4 (.tail _ (.head _))))
                      have e75 : ax.eval (.tmp 75) = _ := hF 39 (det 75 _) (by decide) (.head _)
                      simp [go_sem, BigFrame.eval_const, BigFrame.eval_global, BigFrame.eval_func, ↓IntWalk.iteOmega, ev e54, ev e75, hsub, hsub2, d4, dv, dvi, dk, dkn]
                      with_reducible rfl
                    apply Build.stop
                    refine ⟨by kernel_rfl, .inl ⟨rfl, ?_⟩⟩
                    intro ax w2 hE R2 hF
                    have e36 : ax.eval (.tmp 36) = _ := hF 0 (det 36 _) (mem16 (mem16 (mem4 (mem4 (.head _)))))
                    have e37 : ax.eval (.tmp 37) = _ := hF 1 (det 37 _) (mem16 (mem16 (mem4 (.tail _ (.tail _ (.tail _ (.head _)))))))
                    have e38 : ax.eval (.tmp 38) = _ := hF 2 (det 38 _) (mem16 (mem16 (mem4 (.tail _ (.tail _ (.head _))))))
                    have e39 : ax.eval (.tmp 39) = _ := hF 3 (det 39 _) (mem16 (mem16 (mem4 (.tail _ (.head _)))))
                    have e40 : ax.eval (.tmp 40) = _ := hF 4 (det 40 _) (mem16 (mem16 (mem4 (.head _))))
                    have e41 : ax.eval (.tmp 41) = _ := hF 5 (det 41 _) (mem16 (mem16 (.tail _ (.tail _ (.tail _ (.head _))))))
                    have e42 : ax.eval (.tmp 42) = _ := hF 6 (det 42 _) (mem16 (mem16 (.tail _ (.tail _ (.head _)))))
                    have e43 : ax.eval (.tmp 43) = _ := hF 7 (det 43 _) (mem16 (mem16 (.tail _ (.head _))))
                    have e44 : ax.eval (.tmp 44) = _ := hF 8 (det 44 _) (mem16 (mem16 (.head _)))
                    have e45 : ax.eval (.tmp 45) = _ := hF 9 (det 45 _) (mem16 (mem4 (mem4 (mem4 (.tail _ (.tail _ (.tail _ (.head _))))))))
                    have e46 : ax.eval (.tmp 46) = _ := hF 10 (det 46 _) (mem16 (mem4 (mem4 (mem4 (.tail _ (.tail _ (.head _)))))))
                    have e47 : ax.eval (.tmp 47) = _ := hF 11 (det 47 _) (mem16 (mem4 (mem4 (mem4 (.tail _ (.head _))))))
                    have e48 : ax.eval (.tmp 48) = _ := hF 12 (det 48 _) (mem16 (mem4 (mem4 (mem4 (.head _)))))
                    have e49 : ax.eval (.tmp 49) = _ := hF 13 (det 49 _) (mem16 (mem4 (mem4 (.tail _ (.tail _ (.tail _ (.head _)))))))
                    have e50 : ax.eval (.tmp 50) = _ := hF 14 (det 50 _) (mem16 (mem4 (mem4 (.tail _ (.tail _ (.head _))))))
                    have e51 : ax.eval (.tmp 51) = _ := hF 15 (det 51 _) (mem16 (mem4 (mem4 (.tail _ (.head _)))))
                    have e52 : ax.eval (.tmp 52) = _ := hF 16 (det 52 _) (mem16 (mem4 (mem4 (.head _))))
                    have e53 : ax.eval (.tmp 53) = _ := hF 17 (det 53 _) (mem16 (mem4 (.tail _ (.tail _ (.tail _ (.head _))))))
                    have e54 : ax.eval (.tmp 54) = _ := hF 18 (det 54 _) (mem16 (mem4 (.tail _ (.tail _ (.head _)))))
                    have e55 : ax.eval (.tmp 55) = _ := hF 19 (det 55 _) (mem16 (mem4 (.tail _ (.head _))))
                    have e56 : ax.eval (.tmp 56) = _ := hF 20 (det 56 _) (mem16 (mem4 (.head _)))
                    have e57 : ax.eval (.tmp 57) = _ := hF 21 (det 57 _) (mem16 (.tail _ (.tail _ (.tail _ (.head _)))))
                    have e58 : ax.eval (.tmp 58) = _ := hF 22 (det 58 _) (mem16 (.tail _ (.tail _ (.head _))))
                    have e59 : ax.eval (.tmp 59) = _ := hF 23 (det 59 _) (mem16 (.tail _ (.head _)))
                    have e60 : ax.eval (.tmp 60) = _ := hF 24 (det 60 _) (mem16 (.head _))
                    have e61 : ax.eval (.tmp 61) = _ := hF 25 (det 61 _) (mem4 (mem4 (mem4 (.tail _ (.tail _ (.tail _ (.head _)))))))
                    have e62 : ax.eval (.tmp 62) = _ := hF 26 (det 62 _) (mem4 (mem4 (mem4 (.tail _ (.tail _ (.head _))))))
                    have e63 : ax.eval (.tmp 63) = _ := hF 27 (det 63 _) (mem4 (mem4 (mem4 (.tail _ (.head _)))))
                    have e64 : ax.eval (.tmp 64) = _ := hF 28 (det 64 _) (mem4 (mem4 (mem4 (.head _))))
                    have e65 : ax.eval (.tmp 65) = _ := hF 29 (det 65 _) (mem4 (mem4 (.tail _ (.tail _ (.tail _ (.head _))))))
                    have e66 : ax.eval (.tmp 66) = _ := hF 30 (det 66 _) (mem4 (mem4 (.tail _ (.tail _ (.head _)))))
                    have e67 : ax.eval (.tmp 67) = _ := hF 31 (det 67 _) (mem4 (mem4 (.tail _ (.head _))))
                    have e68 : ax.eval (.tmp 68) = _ := hF 32 (det 68 _) (mem4 (mem4 (.head _)))
                    have e69 : ax.eval (.tmp 69) = _ := hF 33 (det 69 _) (mem4 (.tail _ (.tail _ (.tail _ (.head _)))))
                    have e70 : ax.eval (.tmp 70) = _ := hF 34 (det 70 _) (mem4 (.tail _ (.tail _ (.head _))))
                    have e71 : ax.eval (.tmp 71) = _ := hF 35 (det 71 _) (mem4 (.tail _ (.head _)))
                    have e72 : ax.eval (.tmp 72) = _ := hF 36 (det 72 _) (mem4 (.head _))
                    have e73 : ax.eval (.tmp 73) = _ := hF 37 (det 73 _) (.tail _ (.tail _ (.tail _ (.head _))))
                    have e74 : ax.eval (.tmp 74) = _ := hF 38 (det 74 _) (.tail _ (.tail _ (.head _)))
                    have e75 : ax.eval (.tmp 75) = _ := hF 39 (det 75 _) (.tail _ (.head _))
                    have e76 : ax.eval (.tmp 76) = _ := hF 40 (det 76 _) (.head _)
                    rw [AllEq.frame (D := [36, 37, 38, 39, 40, 41, 42, 43, 44, 45, 46, 47, 48, 49, 50, 51, 52, 53, 54, 55, 56, 57, 58, 59, 60, 61, 62, 63, 64, 65, 66, 67, 68, 69, 70, 71, 72, 73, 74, 75, 76]) (AllEq.cons e36 (AllEq.cons e37 (AllEq.cons e38 (AllEq.cons e39 (AllEq.cons e40 (AllEq.cons e41 (AllEq.cons e42 (AllEq.cons e43 (AllEq.cons e44 (AllEq.cons e45 (AllEq.cons e46 (AllEq.cons e47 (AllEq.cons e48 (AllEq.cons e49 (AllEq.cons e50 (AllEq.cons e51 (AllEq.cons e52 (AllEq.cons e53 (AllEq.cons e54 (AllEq.cons e55 (AllEq.cons e56 (AllEq.cons e57 (AllEq.cons e58 (AllEq.cons e59 (AllEq.cons e60 (AllEq.cons e61 (AllEq.cons e62 (AllEq.cons e63 (AllEq.cons e64 (AllEq.cons e65 (AllEq.cons e66 (AllEq.cons e67 (AllEq.cons e68 (AllEq.cons e69 (AllEq.cons e70 (AllEq.cons e71 (AllEq.cons e72 (AllEq.cons e73 (AllEq.cons e74 (AllEq.cons e75 (AllEq.cons e76 (AllEq.nil)))))))))))))))))))))))))))))))))))))))))) hE rfl]
                    clear hF hE e36 e37 e38 e39 e40 e41 e42 e43 e44 e45 e46 e47 e48 e49 e50 e51 e52 e53 e54 e55 e56 e57 e58 e59 e60 e61 e62 e63 e64 e65 e66 e67 e68 e69 e70 e71 e72 e73 e74 e75 e76
                    simp only [List.foldl_cons, List.foldl_nil, Act.put, List.setIfInBounds_toArray, List.set_cons_succ, List.set_cons_zero]
                    have hEx := hEx.trans R2
                    have hG : Hid (GB = false) := HB.out (fun h => (HK.out.1 h).2.elim (fun h => by omega) (fun h => hff.out (HV.out ▸ h)))
                    go_wp2_with fail
                    go_ret
                    exact ⟨by rw [hG.out] <;> rfl, HE.out.trans hEx⟩
                  · have dv : decide (V < 1) = false := by rw [decide_eq_false_iff_not]; omega
                    have dvi : decide ((V : Int) < 1) = false := by rw [decide_eq_false_iff_not]; omega
                    by_cases hv2 : 511 < V
                    · have dw : decide (511 < V) = true := by rw [decide_eq_true_iff]; omega
                      have dwi : decide ((511 : Int) < (V : Int)) = true := by rw [decide_eq_true_iff]; omega
                      have dw2 : decide (512 ≤ V) = true := by rw [decide_eq_true_iff]; omega
                      have hff : Hid (¬ farB V = false) := by rw [hfar, dw2]; simp [Hid]
                      clear hfar dw2
                      refine wp_typed (R := Ext) (w0 := wr) [[], [0], [0, 1], [0, 1, 2], [0, 1, 2, 3], [0, 1, 2], [0, 1, 2, 5], [0, 1, 2, 3, 4, 5, 6], [0, 1, 2, 3, 4, 5, 6, 7], [0, 1, 2, 3, 4, 5, 6, 7, 8], [0, 1, 2], [0, 1, 2, 10], [0, 1, 2], [0, 1, 2, 10, 11, 12], [0, 1, 2, 10, 11, 12, 13], [0, 1, 2, 10, 11, 12, 13, 14], [0, 1, 2, 3, 4, 5, 6, 7, 8, 9, 10, 11, 12, 13, 14, 15], [0, 1, 2, 3, 4, 5, 6, 7, 8, 9, 10, 11, 12, 13, 14, 15, 16], [0, 1, 2, 3, 4, 5, 6, 7, 8, 9, 10, 11, 12, 13, 14, 15, 16, 17], [0, 1, 2, 3, 4, 5, 6, 7, 8, 9, 10, 11, 12, 13, 14, 15, 16, 17, 18], [0, 1, 2, 3, 4, 5, 6, 7, 8, 9, 10, 11, 12, 13, 14, 15, 16, 17, 18, 19], [0, 1, 2, 3, 4, 5, 6, 7, 8, 9, 10, 11, 12, 13, 14, 15, 16, 17, 18, 19, 20], [0, 1, 2, 3, 4, 5, 6, 7, 8, 9, 10, 11, 12, 13, 14, 15, 16, 17, 18, 19, 20, 21], [0, 1, 2, 3, 4, 5, 6, 7, 8, 9, 10, 11, 12, 13, 14, 15, 16, 17, 18, 19, 20, 21, 22], [0, 1, 2, 3, 4, 5, 6, 7, 8, 9, 10, 11, 12, 13, 14, 15, 16, 17, 18, 19, 20, 21, 22, 23], [0, 1, 2, 3, 4, 5, 6, 7, 8, 9, 10, 11, 12, 13, 14, 15, 16, 17, 18, 19, 20, 21, 22], [0, 1, 2, 3, 4, 5, 6, 7, 8, 9, 10, 11, 12, 13, 14, 15, 16, 17, 18, 19, 20, 21, 22, 23, 24, 25], [0, 1, 2, 3, 4, 5, 6, 7, 8, 9, 10, 11, 12, 13, 14, 15, 16, 17, 18, 19, 20, 21, 22, 23, 24, 25, 26], [0, 1, 2, 3, 4, 5, 6, 7, 8, 9, 10, 11, 12, 13, 14, 15, 16, 17, 18, 19, 20, 21, 22, 23, 24, 25, 26, 27], [0, 1, 2, 3, 4, 5, 6, 7, 8, 9, 10, 11, 12, 13, 14, 15, 16, 17, 18, 19, 20, 21, 22, 23, 24, 25, 26, 27, 28], [0, 1, 2, 3, 4, 5, 6, 7, 8, 9, 10, 11, 12, 13, 14, 15, 16, 17, 18, 19, 20, 21, 22, 23, 24, 25, 26, 27, 28, 29], [0, 1, 2, 3, 4, 5, 6, 7, 8, 9, 10, 11, 12, 13, 14, 15, 16, 17, 18, 19, 20, 21, 22, 23, 24, 25, 26, 27, 28, 29, 30], [0, 1, 2, 3, 4, 5, 6, 7, 8, 9, 10, 11, 12, 13, 14, 15, 16, 17, 18, 19, 20, 21, 22, 23, 24, 25, 26, 27, 28, 29, 30, 31], [0, 1, 2, 3, 4, 5, 6, 7, 8, 9, 10, 11, 12, 13, 14, 15, 16, 17, 18, 19, 20, 21, 22, 23, 24, 25, 26, 27, 28, 29, 30], [0, 1, 2, 3, 4, 5, 6, 7, 8, 9, 10, 11, 12, 13, 14, 15, 16, 17, 18, 19, 20, 21, 22, 23, 24, 25, 26, 27, 28, 29, 30, 31, 32, 33], [0, 1, 2, 3, 4, 5, 6, 7, 8, 9, 10, 11, 12, 13, 14, 15, 16, 17, 18, 19, 20, 21, 22, 23, 24, 25, 26, 27, 28, 29, 30, 31, 32, 33, 34], [0, 1, 2, 3, 4, 5, 6, 7, 8, 9, 10, 11, 12, 13, 14, 15, 16, 17, 18, 19, 20, 21, 22, 23, 24, 25, 26, 27, 28, 29, 30, 31, 32, 33, 34, 35], [0, 1, 2, 3, 4, 5, 6, 7, 8, 9, 10, 11, 12, 13, 14, 15, 16, 17, 18, 19, 20, 21, 22, 23, 24, 25, 26, 27, 28, 29, 30, 31, 32, 33, 34, 35, 36], [0, 1, 2, 3, 4, 5, 6, 7, 8, 9, 10, 11, 12, 13, 14, 15, 16, 17, 18, 19, 20, 21, 22, 23, 24, 25, 26, 27, 28, 29, 30, 31, 32, 33, 34, 35, 36, 37], [0, 1, 2, 3, 4, 5, 6, 7, 8, 9, 10, 11, 12, 13, 14, 15, 16, 17, 18, 19, 20, 21, 22, 23, 24, 25, 26, 27, 28, 29, 30, 31, 32, 33, 34, 35, 36, 37, 38], [0, 1, 2, 3, 4, 5, 6, 7, 8, 9, 10, 11, 12, 13, 14, 15, 16, 17, 18, 19, 20, 21, 22, 23, 24, 25, 26, 27, 28, 29, 30, 31, 32, 33, 34, 35, 36, 37, 38, 39]] [36, 37, 38, 39, 40, 41, 42, 43, 44, 45, 46, 47, 48, 49, 50, 51, 52, 53, 54, 55, 56, 57, 58, 59, 60, 61, 62, 63, 64, 65, 66, 67, 68, 69, 70, 71, 72, 73, 74, 75, 76] Ext.refl (fun _ _ _ => Ext.trans) (Ext.drew _) (by kernel_rfl) ?_
                      apply Build.det 36 Ext.refl (by rfl) (by rfl) rfl
                      case h =>   -- 0: t36 := Op.move (tmp 3)
                        intro ax wx hE hR hF
                        have e3 : ax.eval (.tmp 3) = .int .i64 (((p + 1 : Nat) : Int)) := hE.eval 3 (by rfl) rfl
                        simp [go_sem, BigFrame.eval_const, BigFrame.eval_global, BigFrame.eval_func, ↓IntWalk.iteOmega, ev e3, hsub, hsub2, d4, dv, dvi, dw, dwi, dk, dkn]
                        with_reducible rfl
                      apply Build.det 37 Ext.refl (by rfl) (by rfl) rfl
                      case h =>   -- 1: t37 := Op.binOp BinOp.gtr 3 (tmp 36) (const (Value.int IntKind.i64 0)) 3
                        intro ax wx hE hR hF
                        have e36 : ax.eval (.tmp 36) = _ := hF 0 (det 36 _) (by decide) (.head _)
                        simp [go_sem, BigFrame.eval_const, BigFrame.eval_global, BigFrame.eval_func, ↓IntWalk.iteOmega, ev e36, hsub, hsub2, d4, dv, dvi, dw, dwi, dk, dkn]
                        with_reducible rfl
                      apply Build.det 38 Ext.refl (by rfl) (by rfl) rfl
                      case h =>   -- 2: t38 := Op.move (tmp 37)
                        intro ax wx hE hR hF
                        have e37 : ax.eval (.tmp 37) = _ := hF 1 (det 37 _) (by decide) (.head _)
                        simp [go_sem, BigFrame.eval_const, BigFrame.eval_global, BigFrame.eval_func, ↓IntWalk.iteOmega, ev e37, hsub, hsub2, d4, dv, dvi, dw, dwi, dk, dkn]
                        with_reducible rfl
                      apply Build.detg 39 Ext.refl (by rfl) (by rfl) rfl rfl
                      case h =>   -- 3: t39 := Op.fieldAddr 60 (tmp 1) 1
                        intro ax wx hE hR hF
                        have e1 : ax.eval (.tmp 1) = .pointer (some ⟨w.heap.size, 0, none⟩) := hE.eval 1 (by rfl) rfl
                        have e38 : ax.eval (.tmp 38) = _ := hF 2 (det 38 _) (by decide) (.head _)
                        refine ⟨e38, ?_⟩
                        simp [go_sem, BigFrame.eval_const, BigFrame.eval_global, BigFrame.eval_func, ↓IntWalk.iteOmega, ev e1, ev e38, hsub, hsub2, d4, dv, dvi, dw, dwi, dk, dkn]
                        with_reducible rfl
                      apply Build.detg 40 Ext.refl (by rfl) (by rfl) rfl rfl
                      case h =>   -- 4: t40 := Op.load 58 (tmp 39)
                        intro ax wx hE hR hF
                        have e38 : ax.eval (.tmp 38) = _ := hF 2 (det 38 _) (by decide) (.tail _ (.head _))
                        have e39 : ax.eval (.tmp 39) = _ := hF 3 (det 39 _) (by decide) (.head _)
                        have hX2 := HXX.out _ hR; have q0 := hX2.cell 0; have q1 := hX2.cell 1; have p0 := HP.out _ hR; have p1 := (HQ.out _ hR).1; have p2 := (HQ.out _ hR).2
                        refine ⟨e38, ?_⟩
                        simp [go_sem, BigFrame.eval_const, BigFrame.eval_global, BigFrame.eval_func, ↓IntWalk.iteOmega, ev e38, ev e39, hsub, hsub2, d4, dv, dvi, dw, dwi, dk, dkn, q0, q1, p0, p1, p2]
                        with_reducible rfl
                      apply Build.detg 41 Ext.refl (by rfl) (by rfl) rfl rfl
                      case h =>   -- 5: t41 := Op.move (tmp 3)
                        intro ax wx hE hR hF
                        have e3 : ax.eval (.tmp 3) = .int .i64 (((p + 1 : Nat) : Int)) := hE.eval 3 (by rfl) rfl
                        have e38 : ax.eval (.tmp 38) = _ := hF 2 (det 38 _) (by decide) (.tail _ (.tail _ (.head _)))
                        refine ⟨e38, ?_⟩
                        simp [go_sem, BigFrame.eval_const, BigFrame.eval_global, BigFrame.eval_func, ↓IntWalk.iteOmega, ev e3, ev e38, hsub, hsub2, d4, dv, dvi, dw, dwi, dk, dkn]
                        with_reducible rfl
                      apply Build.detg 42 Ext.refl (by rfl) (by rfl) rfl rfl
                      case h =>   -- 6: t42 := Op.binOp BinOp.sub 3 (tmp 41) (const (Value.int IntKind.i64 1)) 3
                        intro ax wx hE hR hF
                        have e38 : ax.eval (.tmp 38) = _ := hF 2 (det 38 _) (by decide) (.tail _ (.tail _ (.tail _ (.head _))))
                        have e41 : ax.eval (.tmp 41) = _ := hF 5 (det 41 _) (by decide) (.head _)
                        refine ⟨e38, ?_⟩
                        simp [go_sem, BigFrame.eval_const, BigFrame.eval_global, BigFrame.eval_func, ↓IntWalk.iteOmega, ev e38, ev e41, hsub, hsub2, d4, dv, dvi, dw, dwi, dk, dkn]
                        with_reducible rfl
                      apply Build.detg 43 Ext.refl (by rfl) (by rfl) rfl rfl
                      case h =>   -- 7: t43 := Op.indexAddr 58 (tmp 40) (tmp 42)
                        intro ax wx hE hR hF
                        have e38 : ax.eval (.tmp 38) = _ := hF 2 (det 38 _) (by decide) (mem4 (.head _))
                        have e40 : ax.eval (.tmp 40) = _ := hF 4 (det 40 _) (by decide) (.tail _ (.tail _ (.head _)))
                        have e42 : ax.eval (.tmp 42) = _ := hF 6 (det 42 _) (by decide) (.head _)
                        refine ⟨e38, ?_⟩
                        simp [go_sem, BigFrame.eval_const, BigFrame.eval_global, BigFrame.eval_func, ↓IntWalk.iteOmega, ev e38, ev e40, ev e42, hsub, hsub2, d4, dv, dvi, dw, dwi, dk, dkn]
                        with_reducible rfl
                      apply Build.detg 44 Ext.refl (by rfl) (by rfl) rfl rfl
                      case h =>   -- 8: t44 := Op.fieldAddr 72 (tmp 43) 0
                        intro ax wx hE hR hF
                        have e38 : ax.eval (.tmp 38) = _ := hF 2 (det 38 _) (by decide) (mem4 (.tail _ (.head _)))
                        have e43 : ax.eval (.tmp 43) = _ := hF 7 (det 43 _) (by decide) (.head _)
                        refine ⟨e38, ?_⟩
                        simp [go_sem, BigFrame.eval_const, BigFrame.eval_global, BigFrame.eval_func, ↓IntWalk.iteOmega, ev e38, ev e43, hsub, hsub2, d4, dv, dvi, dw, dwi, dk, dkn]
                        with_reducible rfl
                      apply Build.detg 45 Ext.refl (by rfl) (by rfl) rfl rfl
                      case h =>   -- 9: t45 := Op.load 31 (tmp 44)
                        intro ax wx hE hR hF
                        have e38 : ax.eval (.tmp 38) = _ := hF 2 (det 38 _) (by decide) (mem4 (.tail _ (.tail _ (.head _))))
                        have e44 : ax.eval (.tmp 44) = _ := hF 8 (det 44 _) (by decide) (.head _)
                        have hX2 := HXX.out _ hR; have q0 := hX2.cell 0; have q1 := hX2.cell 1; have p0 := HP.out _ hR; have p1 := (HQ.out _ hR).1; have p2 := (HQ.out _ hR).2
                        refine ⟨e38, ?_⟩
                        simp [go_sem, BigFrame.eval_const, BigFrame.eval_global, BigFrame.eval_func, ↓IntWalk.iteOmega, ev e38, ev e44, hsub, hsub2, d4, dv, dvi, dw, dwi, dk, dkn, q0, q1, p0, p1, p2]
                        with_reducible rfl
                      apply Build.detg 46 Ext.refl (by rfl) (by rfl) rfl rfl
                      case h =>   -- 10: t46 := Op.fieldAddr 60 (tmp 1) 1
                        intro ax wx hE hR hF
                        have e1 : ax.eval (.tmp 1) = .pointer (some ⟨w.heap.size, 0, none⟩) := hE.eval 1 (by rfl) rfl
                        have e38 : ax.eval (.tmp 38) = _ := hF 2 (det 38 _) (by decide) (mem4 (.tail _ (.tail _ (.tail _ (.head _)))))
                        refine ⟨e38, ?_⟩
                        simp [go_sem, BigFrame.eval_const, BigFrame.eval_global, BigFrame.eval_func, ↓IntWalk.iteOmega, ev e1, ev e38, hsub, hsub2, d4, dv, dvi, dw, dwi, dk, dkn]
                        with_reducible rfl
                      apply Build.detg 47 Ext.refl (by rfl) (by rfl) rfl rfl
                      case h =>   -- 11: t47 := Op.load 58 (tmp 46)
                        intro ax wx hE hR hF
                        have e38 : ax.eval (.tmp 38) = _ := hF 2 (det 38 _) (by decide) (mem4 (mem4 (.head _)))
                        have e46 : ax.eval (.tmp 46) = _ := hF 10 (det 46 _) (by decide) (.head _)
                        have hX2 := HXX.out _ hR; have q0 := hX2.cell 0; have q1 := hX2.cell 1; have p0 := HP.out _ hR; have p1 := (HQ.out _ hR).1; have p2 := (HQ.out _ hR).2
                        refine ⟨e38, ?_⟩
                        simp [go_sem, BigFrame.eval_const, BigFrame.eval_global, BigFrame.eval_func, ↓IntWalk.iteOmega, ev e38, ev e46, hsub, hsub2, d4, dv, dvi, dw, dwi, dk, dkn, q0, q1, p0, p1, p2]
                        with_reducible rfl
                      apply Build.detg 48 Ext.refl (by rfl) (by rfl) rfl rfl
                      case h =>   -- 12: t48 := Op.move (tmp 3)
                        intro ax wx hE hR hF
                        have e3 : ax.eval (.tmp 3) = .int .i64 (((p + 1 : Nat) : Int)) := hE.eval 3 (by rfl) rfl
                        have e38 : ax.eval (.tmp 38) = _ := hF 2 (det 38 _) (by decide) (mem4 (mem4 (.tail _ (.head _))))
                        refine ⟨e38, ?_⟩
                        simp [go_sem, BigFrame.eval_const, BigFrame.eval_global, BigFrame.eval_func, ↓IntWalk.iteOmega, ev e3, ev e38, hsub, hsub2, d4, dv, dvi, dw, dwi, dk, dkn]
                        with_reducible rfl
                      apply Build.detg 49 Ext.refl (by rfl) (by rfl) rfl rfl
                      case h =>   -- 13: t49 := Op.indexAddr 58 (tmp 47) (tmp 48)
                        intro ax wx hE hR hF
                        have e38 : ax.eval (.tmp 38) = _ := hF 2 (det 38 _) (by decide) (mem4 (mem4 (.tail _ (.tail _ (.head _)))))
                        have e47 : ax.eval (.tmp 47) = _ := hF 11 (det 47 _) (by decide) (.tail _ (.head _))
                        have e48 : ax.eval (.tmp 48) = _ := hF 12 (det 48 _) (by decide) (.head _)
                        refine ⟨e38, ?_⟩
                        simp [go_sem, BigFrame.eval_const, BigFrame.eval_global, BigFrame.eval_func, ↓IntWalk.iteOmega, ev e38, ev e47, ev e48, hsub, hsub2, d4, dv, dvi, dw, dwi, dk, dkn]
                        with_reducible rfl
                      apply Build.detg 50 Ext.refl (by rfl) (by rfl) rfl rfl
                      case h =>   -- 14: t50 := Op.fieldAddr 72 (tmp 49) 0
                        intro ax wx hE hR hF
                        have e38 : ax.eval (.tmp 38) = _ := hF 2 (det 38 _) (by decide) (mem4 (mem4 (.tail _ (.tail _ (.tail _ (.head _))))))
                        have e49 : ax.eval (.tmp 49) = _ := hF 13 (det 49 _) (by decide) (.head _)
                        refine ⟨e38, ?_⟩
                        simp [go_sem, BigFrame.eval_const, BigFrame.eval_global, BigFrame.eval_func, ↓IntWalk.iteOmega, ev e38, ev e49, hsub, hsub2, d4, dv, dvi, dw, dwi, dk, dkn]
                        with_reducible rfl
                      apply Build.detg 51 Ext.refl (by rfl) (by rfl) rfl rfl
                      case h =>   -- 15: t51 := Op.load 31 (tmp 50)
                        intro ax wx hE hR hF
                        have e38 : ax.eval (.tmp 38) = _ := hF 2 (det 38 _) (by decide) (mem4 (mem4 (mem4 (.head _))))
                        have e50 : ax.eval (.tmp 50) = _ := hF 14 (det 50 _) (by decide) (.head _)
                        have hX2 := HXX.out _ hR; have q0 := hX2.cell 0; have q1 := hX2.cell 1; have p0 := HP.out _ hR; have p1 := (HQ.out _ hR).1; have p2 := (HQ.out _ hR).2
                        refine ⟨e38, ?_⟩
                        simp [go_sem, BigFrame.eval_const, BigFrame.eval_global, BigFrame.eval_func, ↓IntWalk.iteOmega, ev e38, ev e50, hsub, hsub2, d4, dv, dvi, dw, dwi, dk, dkn, q0, q1, p0, p1, p2]
                        with_reducible rfl
                      apply Build.detg 52 Ext.refl (by rfl) (by rfl) rfl rfl
                      case h =>   -- 16: t52 := Op.binOp BinOp.geq 31 (tmp 45) (tmp 51) 31
                        intro ax wx hE hR hF
                        have e38 : ax.eval (.tmp 38) = _ := hF 2 (det 38 _) (by decide) (mem4 (mem4 (mem4 (.tail _ (.head _)))))
                        have e45 : ax.eval (.tmp 45) = _ := hF 9 (det 45 _) (by decide) (mem4 (.tail _ (.tail _ (.head _))))
                        have e51 : ax.eval (.tmp 51) = _ := hF 15 (det 51 _) (by decide) (.head _)
                        refine ⟨e38, ?_⟩
                        simp [go_sem, BigFrame.eval_const, BigFrame.eval_global, BigFrame.eval_func, ↓IntWalk.iteOmega, ev e38, ev e45, ev e51, hsub, hsub2, d4, dv, dvi, dw, dwi, dk, dkn]
                        with_reducible rfl
                      apply Build.det 53 Ext.refl (by rfl) (by rfl) rfl
                      case h =>   -- 17: t53 := Op.pick (tmp 38) (tmp 52) (const (Value.bool false))
                        intro ax wx hE hR hF
                        have e38 : ax.eval (.tmp 38) = _ := hF 2 (det 38 _) (by decide) (mem4 (mem4 (mem4 (.tail _ (.tail _ (.head _))))))
                        have e52 : ax.eval (.tmp 52) = _ := hF 16 (det 52 _) (by decide) (.head _)
                        simp [go_sem, BigFrame.eval_const, BigFrame.eval_global, BigFrame.eval_func, ↓IntWalk.iteOmega, ev e38, ev e52, hsub, hsub2, d4, dv, dvi, dw, dwi, dk, dkn]
                        with_reducible rfl
                      apply Build.det 54 Ext.refl (by rfl) (by rfl) rfl
                      case h =>   -- 18: t54 := Op.move (tmp 53)
                        intro ax wx hE hR hF
                        have e53 : ax.eval (.tmp 53) = _ := hF 17 (det 53 _) (by decide) (.head _)
                        simp [go_sem, BigFrame.eval_const, BigFrame.eval_global, BigFrame.eval_func, ↓IntWalk.iteOmega, ev e53, hsub, hsub2, d4, dv, dvi, dw, dwi, dk, dkn]
                        with_reducible rfl
                      apply Build.detg 55 Ext.refl (by rfl) (by rfl) rfl rfl
                      case h =>   -- 19: t55 := Op.fieldAddr 60 (tmp 1) 0
                        intro ax wx hE hR hF
                        have e1 : ax.eval (.tmp 1) = .pointer (some ⟨w.heap.size, 0, none⟩) := hE.eval 1 (by rfl) rfl
                        have e54 : ax.eval (.tmp 54) = _ := hF 18 (det 54 _) (by decide) (.head _)
                        refine ⟨e54, ?_⟩
                        simp [go_sem, BigFrame.eval_const, BigFrame.eval_global, BigFrame.eval_func, ↓IntWalk.iteOmega, ev e1, ev e54, hsub, hsub2, d4, dv, dvi, dw, dwi, dk, dkn]
                        with_reducible rfl
                      apply Build.detg 56 Ext.refl (by rfl) (by rfl) rfl rfl
                      case h =>   -- 20: t56 := Op.load 3 (tmp 55)
                        intro ax wx hE hR hF
                        have e54 : ax.eval (.tmp 54) = _ := hF 18 (det 54 _) (by decide) (.tail _ (.head _))
                        have e55 : ax.eval (.tmp 55) = _ := hF 19 (det 55 _) (by decide) (.head _)
                        have hX2 := HXX.out _ hR; have q0 := hX2.cell 0; have q1 := hX2.cell 1; have p0 := HP.out _ hR; have p1 := (HQ.out _ hR).1; have p2 := (HQ.out _ hR).2
                        refine ⟨e54, ?_⟩
                        simp [go_sem, BigFrame.eval_const, BigFrame.eval_global, BigFrame.eval_func, ↓IntWalk.iteOmega, ev e54, ev e55, hsub, hsub2, d4, dv, dvi, dw, dwi, dk, dkn, q0, q1, p0, p1, p2]
                        with_reducible rfl
                      apply Build.detg 57 Ext.refl (by rfl) (by rfl) rfl rfl
                      case h =>   -- 21: t57 := Op.binOp BinOp.gtr 3 (tmp 56) (const (Value.int IntKind.i64 0)) 3
                        intro ax wx hE hR hF
                        have e54 : ax.eval (.tmp 54) = _ := hF 18 (det 54 _) (by decide) (.tail _ (.tail _ (.head _)))
                        have e56 : ax.eval (.tmp 56) = _ := hF 20 (det 56 _) (by decide) (.head _)
                        refine ⟨e54, ?_⟩
                        simp [go_sem, BigFrame.eval_const, BigFrame.eval_global, BigFrame.eval_func, ↓IntWalk.iteOmega, ev e54, ev e56, hsub, hsub2, d4, dv, dvi, dw, dwi, dk, dkn]
                        with_reducible rfl
                      apply Build.detg 58 Ext.refl (by rfl) (by rfl) rfl rfl
                      case h =>   -- 22: t58 := Op.move (tmp 57)
                        intro ax wx hE hR hF
                        have e54 : ax.eval (.tmp 54) = _ := hF 18 (det 54 _) (by decide) (.tail _ (.tail _ (.tail _ (.head _))))
                        have e57 : ax.eval (.tmp 57) = _ := hF 21 (det 57 _) (by decide) (.head _)
                        refine ⟨e54, ?_⟩
                        simp [go_sem, BigFrame.eval_const, BigFrame.eval_global, BigFrame.eval_func, ↓IntWalk.iteOmega, ev e54, ev e57, hsub, hsub2, d4, dv, dvi, dw, dwi, dk, dkn]
                        with_reducible rfl
                      apply Build.detg 59 Ext.refl (by rfl) (by rfl) rfl rfl
                      case h =>   -- 23: t59 := Op.fieldAddr 60 (tmp 1) 1
                        intro ax wx hE hR hF
                        have e1 : ax.eval (.tmp 1) = .pointer (some ⟨w.heap.size, 0, none⟩) := hE.eval 1 (by rfl) rfl
                        have e58 : ax.eval (.tmp 58) = _ := hF 22 (det 58 _) (by decide) (.head _)
                        refine ⟨e58, ?_⟩
                        simp [go_sem, BigFrame.eval_const, BigFrame.eval_global, BigFrame.eval_func, ↓IntWalk.iteOmega, ev e1, ev e58, hsub, hsub2, d4, dv, dvi, dw, dwi, dk, dkn]
                        with_reducible rfl
                      apply Build.detg 60 Ext.refl (by rfl) (by rfl) rfl rfl
                      case h =>   -- 24: t60 := Op.load 58 (tmp 59)
                        intro ax wx hE hR hF
                        have e58 : ax.eval (.tmp 58) = _ := hF 22 (det 58 _) (by decide) (.tail _ (.head _))
                        have e59 : ax.eval (.tmp 59) = _ := hF 23 (det 59 _) (by decide) (.head _)
                        have hX2 := HXX.out _ hR; have q0 := hX2.cell 0; have q1 := hX2.cell 1; have p0 := HP.out _ hR; have p1 := (HQ.out _ hR).1; have p2 := (HQ.out _ hR).2
                        refine ⟨e58, ?_⟩
                        simp [go_sem, BigFrame.eval_const, BigFrame.eval_global, BigFrame.eval_func, ↓IntWalk.iteOmega, ev e58, ev e59, hsub, hsub2, d4, dv, dvi, dw, dwi, dk, dkn, q0, q1, p0, p1, p2]
                        with_reducible rfl
                      apply Build.detg 61 Ext.refl (by rfl) (by rfl) rfl rfl
                      case h =>   -- 25: t61 := Op.move (tmp 3)
                        intro ax wx hE hR hF
                        have e3 : ax.eval (.tmp 3) = .int .i64 (((p + 1 : Nat) : Int)) := hE.eval 3 (by rfl) rfl
                        have e58 : ax.eval (.tmp 58) = _ := hF 22 (det 58 _) (by decide) (.tail _ (.tail _ (.head _)))
                        refine ⟨e58, ?_⟩
                        simp [go_sem, BigFrame.eval_const, BigFrame.eval_global, BigFrame.eval_func, ↓IntWalk.iteOmega, ev e3, ev e58, hsub, hsub2, d4, dv, dvi, dw, dwi, dk, dkn]
                        with_reducible rfl
                      apply Build.detg 62 Ext.refl (by rfl) (by rfl) rfl rfl
                      case h =>   -- 26: t62 := Op.indexAddr 58 (tmp 60) (tmp 61)
                        intro ax wx hE hR hF
                        have e58 : ax.eval (.tmp 58) = _ := hF 22 (det 58 _) (by decide) (.tail _ (.tail _ (.tail _ (.head _))))
                        have e60 : ax.eval (.tmp 60) = _ := hF 24 (det 60 _) (by decide) (.tail _ (.head _))
                        have e61 : ax.eval (.tmp 61) = _ := hF 25 (det 61 _) (by decide) (.head _)
                        refine ⟨e58, ?_⟩
                        simp [go_sem, BigFrame.eval_const, BigFrame.eval_global, BigFrame.eval_func, ↓IntWalk.iteOmega, ev e58, ev e60, ev e61, hsub, hsub2, d4, dv, dvi, dw, dwi, dk, dkn]
                        with_reducible rfl
                      apply Build.detg 63 Ext.refl (by rfl) (by rfl) rfl rfl
                      case h =>   -- 27: t63 := Op.fieldAddr 72 (tmp 62) 1
                        intro ax wx hE hR hF
                        have e58 : ax.eval (.tmp 58) = _ := hF 22 (det 58 _) (by decide) (mem4 (.head _))
                        have e62 : ax.eval (.tmp 62) = _ := hF 26 (det 62 _) (by decide) (.head _)
                        refine ⟨e58, ?_⟩
                        simp [go_sem, BigFrame.eval_const, BigFrame.eval_global, BigFrame.eval_func, ↓IntWalk.iteOmega, ev e58, ev e62, hsub, hsub2, d4, dv, dvi, dw, dwi, dk, dkn]
                        with_reducible rfl
                      apply Build.detg 64 Ext.refl (by rfl) (by rfl) rfl rfl
                      case h =>   -- 28: t64 := Op.load 31 (tmp 63)
                        intro ax wx hE hR hF
                        have e58 : ax.eval (.tmp 58) = _ := hF 22 (det 58 _) (by decide) (mem4 (.tail _ (.head _)))
                        have e63 : ax.eval (.tmp 63) = _ := hF 27 (det 63 _) (by decide) (.head _)
                        have hX2 := HXX.out _ hR; have q0 := hX2.cell 0; have q1 := hX2.cell 1; have p0 := HP.out _ hR; have p1 := (HQ.out _ hR).1; have p2 := (HQ.out _ hR).2
                        refine ⟨e58, ?_⟩
                        simp [go_sem, BigFrame.eval_const, BigFrame.eval_global, BigFrame.eval_func, ↓IntWalk.iteOmega, ev e58, ev e63, hsub, hsub2, d4, dv, dvi, dw, dwi, dk, dkn, q0, q1, p0, p1, p2]
                        with_reducible rfl
                      apply Build.detg 65 Ext.refl (by rfl) (by rfl) rfl rfl
                      case h =>   -- 29: t65 := Op.binOp BinOp.lss 31 (tmp 64) (const (Value.int IntKind.u64 1)) 31
                        intro ax wx hE hR hF
                        have e58 : ax.eval (.tmp 58) = _ := hF 22 (det 58 _) (by decide) (mem4 (.tail _ (.tail _ (.head _))))
                        have e64 : ax.eval (.tmp 64) = _ := hF 28 (det 64 _) (by decide) (.head _)
                        refine ⟨e58, ?_⟩
                        simp [go_sem, BigFrame.eval_const, BigFrame.eval_global, BigFrame.eval_func, ↓IntWalk.iteOmega, ev e58, ev e64, hsub, hsub2, d4, dv, dvi, dw, dwi, dk, dkn]
                        with_reducible rfl
                      apply Build.detg 66 Ext.refl (by rfl) (by rfl) rfl rfl
                      case h =>   -- 30: t66 := Op.move (tmp 65)
                        intro ax wx hE hR hF
                        have e58 : ax.eval (.tmp 58) = _ := hF 22 (det 58 _) (by decide) (mem4 (.tail _ (.tail _ (.tail _ (.head _)))))
                        have e65 : ax.eval (.tmp 65) = _ := hF 29 (det 65 _) (by decide) (.head _)
                        refine ⟨e58, ?_⟩
                        simp [go_sem, BigFrame.eval_const, BigFrame.eval_global, BigFrame.eval_func, ↓IntWalk.iteOmega, ev e58, ev e65, hsub, hsub2, d4, dv, dvi, dw, dwi, dk, dkn]
                        with_reducible rfl
                      apply Build.detg 67 Ext.refl (by rfl) (by rfl) rfl rfl
                      case h =>   -- 31: t67 := Op.fieldAddr 60 (tmp 1) 1
                        intro ax wx hE hR hF
                        have e1 : ax.eval (.tmp 1) = .pointer (some ⟨w.heap.size, 0, none⟩) := hE.eval 1 (by rfl) rfl
                        have e66 : ax.eval (.tmp 66) = _ := hF 30 (det 66 _) (by decide) (.head _)
                        refine ⟨e66, ?_⟩
                        simp [go_sem, BigFrame.eval_const, BigFrame.eval_global, BigFrame.eval_func, ↓IntWalk.iteOmega, ev e1, ev e66, hsub, hsub2, d4, dv, dvi, dw, dwi, dk, dkn]
                        with_reducible rfl
                      apply Build.detg 68 Ext.refl (by rfl) (by rfl) rfl rfl
                      case h =>   -- 32: t68 := Op.load 58 (tmp 67)
                        intro ax wx hE hR hF
                        have e66 : ax.eval (.tmp 66) = _ := hF 30 (det 66 _) (by decide) (.tail _ (.head _))
                        have e67 : ax.eval (.tmp 67) = _ := hF 31 (det 67 _) (by decide) (.head _)
                        have hX2 := HXX.out _ hR; have q0 := hX2.cell 0; have q1 := hX2.cell 1; have p0 := HP.out _ hR; have p1 := (HQ.out _ hR).1; have p2 := (HQ.out _ hR).2
                        refine ⟨e66, ?_⟩
                        simp [go_sem, BigFrame.eval_const, BigFrame.eval_global, BigFrame.eval_func, ↓IntWalk.iteOmega, ev e66, ev e67, hsub, hsub2, d4, dv, dvi, dw, dwi, dk, dkn, q0, q1, p0, p1, p2]
                        with_reducible rfl
                      apply Build.detg 69 Ext.refl (by rfl) (by rfl) rfl rfl
                      case h =>   -- 33: t69 := Op.move (tmp 3)
                        intro ax wx hE hR hF
                        have e3 : ax.eval (.tmp 3) = .int .i64 (((p + 1 : Nat) : Int)) := hE.eval 3 (by rfl) rfl
                        have e66 : ax.eval (.tmp 66) = _ := hF 30 (det 66 _) (by decide) (.tail _ (.tail _ (.head _)))
                        refine ⟨e66, ?_⟩
                        simp [go_sem, BigFrame.eval_const, BigFrame.eval_global, BigFrame.eval_func, ↓IntWalk.iteOmega, ev e3, ev e66, hsub, hsub2, d4, dv, dvi, dw, dwi, dk, dkn]
                        with_reducible rfl
                      apply Build.detg 70 Ext.refl (by rfl) (by rfl) rfl rfl
                      case h =>   -- 34: t70 := Op.indexAddr 58 (tmp 68) (tmp 69)
                        intro ax wx hE hR hF
                        have e66 : ax.eval (.tmp 66) = _ := hF 30 (det 66 _) (by decide) (.tail _ (.tail _ (.tail _ (.head _))))
                        have e68 : ax.eval (.tmp 68) = _ := hF 32 (det 68 _) (by decide) (.tail _ (.head _))
                        have e69 : ax.eval (.tmp 69) = _ := hF 33 (det 69 _) (by decide) (.head _)
                        refine ⟨e66, ?_⟩
                        simp [go_sem, BigFrame.eval_const, BigFrame.eval_global, BigFrame.eval_func, ↓IntWalk.iteOmega, ev e66, ev e68, ev e69, hsub, hsub2, d4, dv, dvi, dw, dwi, dk, dkn]
                        with_reducible rfl
                      apply Build.detg 71 Ext.refl (by rfl) (by rfl) rfl rfl
                      case h =>   -- 35: t71 := Op.fieldAddr 72 (tmp 70) 1
                        intro ax wx hE hR hF
                        have e66 : ax.eval (.tmp 66) = _ := hF 30 (det 66 _) (by decide) (mem4 (.head _))
                        have e70 : ax.eval (.tmp 70) = _ := hF 34 (det 70 _) (by decide) (.head _)
                        refine ⟨e66, ?_⟩
                        simp [go_sem, BigFrame.eval_const, BigFrame.eval_global, BigFrame.eval_func, ↓IntWalk.iteOmega, ev e66, ev e70, hsub, hsub2, d4, dv, dvi, dw, dwi, dk, dkn]
                        with_reducible rfl
                      apply Build.detg 72 Ext.refl (by rfl) (by rfl) rfl rfl
                      case h =>   -- 36: t72 := Op.load 31 (tmp 71)
                        intro ax wx hE hR hF
                        have e66 : ax.eval (.tmp 66) = _ := hF 30 (det 66 _) (by decide) (mem4 (.tail _ (.head _)))
                        have e71 : ax.eval (.tmp 71) = _ := hF 35 (det 71 _) (by decide) (.head _)
                        have hX2 := HXX.out _ hR; have q0 := hX2.cell 0; have q1 := hX2.cell 1; have p0 := HP.out _ hR; have p1 := (HQ.out _ hR).1; have p2 := (HQ.out _ hR).2
                        refine ⟨e66, ?_⟩
                        simp [go_sem, BigFrame.eval_const, BigFrame.eval_global, BigFrame.eval_func, ↓IntWalk.iteOmega, ev e66, ev e71, hsub, hsub2, d4, dv, dvi, dw, dwi, dk, dkn, q0, q1, p0, p1, p2]
                        with_reducible rfl
                      apply Build.detg 73 Ext.refl (by rfl) (by rfl) rfl rfl
                      case h =>   -- 37: t73 := Op.binOp BinOp.gtr 31 (tmp 72) (const (Value.int IntKind.u64 511)) 31
                        intro ax wx hE hR hF
                        have e66 : ax.eval (.tmp 66) = _ := hF 30 (det 66 _) (by decide) (mem4 (.tail _ (.tail _ (.head _))))
                        have e72 : ax.eval (.tmp 72) = _ := hF 36 (det 72 _) (by decide) (.head _)
                        refine ⟨e66, ?_⟩
                        simp [go_sem, BigFrame.eval_const, BigFrame.eval_global, BigFrame.eval_func, ↓IntWalk.iteOmega, ev e66, ev e72, hsub, hsub2, d4, dv, dvi, dw, dwi, dk, dkn]
                        with_reducible rfl
                      apply Build.detg 74 Ext.refl (by rfl) (by rfl) rfl rfl
                      case h =>   -- 38: t74 := Op.pick (tmp 66) (const (Value.bool true)) (tmp 73)
                        intro ax wx hE hR hF
                        have e58 : ax.eval (.tmp 58) = _ := hF 22 (det 58 _) (by decide) (mem4 (mem4 (mem4 (.tail _ (.tail _ (.tail _ (.head _)))))))
                        have e66 : ax.eval (.tmp 66) = _ := hF 30 (det 66 _) (by decide) (mem4 (.tail _ (.tail _ (.tail _ (.head _)))))
                        have e73 : ax.eval (.tmp 73) = _ := hF 37 (det 73 _) (by decide) (.head _)
                        refine ⟨e58, ?_⟩
                        simp [go_sem, BigFrame.eval_const, BigFrame.eval_global, BigFrame.eval_func, ↓IntWalk.iteOmega, ev e58, ev e66, ev e73, hsub, hsub2, d4, dv, dvi, dw, dwi, dk, dkn]
                        with_reducible rfl
                      apply Build.detg 75 Ext.refl (by rfl) (by rfl) rfl rfl
                      case h =>   -- 39: t75 := Op.pick (tmp 58) (tmp 74) (const (Value.bool false))
                        intro ax wx hE hR hF
                        have e54 : ax.eval (.tmp 54) = _ := hF 18 (det 54 _) (by decide) (mem16 (mem4 (.head _)))
                        have e58 : ax.eval (.tmp 58) = _ := hF 22 (det 58 _) (by decide) (mem16 (.head _))
                        have e74 : ax.eval (.tmp 74) = _ := hF 38 (det 74 _) (by decide) (.head _)
                        refine ⟨e54, ?_⟩
                        simp [go_sem, BigFrame.eval_const, BigFrame.eval_global, BigFrame.eval_func, ↓IntWalk.iteOmega, ev e54, ev e58, ev e74, hsub, hsub2, d4, dv, dvi, dw, dwi, dk, dkn]
                        with_reducible rfl
                      apply Build.det 76 Ext.refl (by rfl) (by rfl) rfl
                      case h =>   -- 40: t76 := Op.pick (tmp 54) (const (Value.bool true)) (tmp 75)
                        intro ax wx hE hR hF
                        have e54 : ax.eval (.tmp 54) = _ := hF 18 (det 54 _) (by decide) (mem16 (mem4 (.tail _ (.head _))))
                        have e75 : ax.eval (.tmp 75) = _ := hF 39 (det 75 _) (by decide) (.head _)
                        simp [go_sem, BigFrame.eval_const, BigFrame.eval_global, BigFrame.eval_func, ↓IntWalk.iteOmega, ev e54, ev e75, hsub, hsub2, d4, dv, dvi, dw, dwi, dk, dkn]
                        with_reducible rfl
                      apply Build.stop
                      refine ⟨by kernel_rfl, .inl ⟨rfl, ?_⟩⟩
                      intro ax w2 hE R2 hF
                      have e36 : ax.eval (.tmp 36) = _ := hF 0 (det 36 _) (mem16 (mem16 (mem4 (mem4 (.head _)))))
                      have e37 : ax.eval (.tmp 37) = _ := hF 1 (det 37 _) (mem16 (mem16 (mem4 (.tail _ (.tail _ (.tail _ (.head _)))))))
                      have e38 : ax.eval (.tmp 38) = _ := hF 2 (det 38 _) (mem16 (mem16 (mem4 (.tail _ (.tail _ (.head _))))))
                      have e39 : ax.eval (.tmp 39) = _ := hF 3 (det 39 _) (mem16 (mem16 (mem4 (.tail _ (.head _)))))
                      have e40 : ax.eval (.tmp 40) = _ := hF 4 (det 40 _) (mem16 (mem16 (mem4 (.head _))))
                      have e41 : ax.eval (.tmp 41) = _ := hF 5 (det 41 _) (mem16 (mem16 (.tail _ (.tail _ (.tail _ (.head _))))))
                      have e42 : ax.eval (.tmp 42) = _ := hF 6 (det 42 _) (mem16 (mem16 (.tail _ (.tail _ (.head _)))))
                      have e43 : ax.eval (.tmp 43) = _ := hF 7 (det 43 _) (mem16 (mem16 (.tail _ (.head _))))
                      have e44 : ax.eval (.tmp 44) = _ := hF 8 (det 44 _) (mem16 (mem16 (.head _)))
                      have e45 : ax.eval (.tmp 45) = _ := hF 9 (det 45 _) (mem16 (mem4 (mem4 (mem4 (.tail _ (.tail _ (.tail _ (.head _))))))))
                      have e46 : ax.eval (.tmp 46) = _ := hF 10 (det 46 _) (mem16 (mem4 (mem4 (mem4 (.tail _ (.tail _ (.head _)))))))
                      have e47 : ax.eval (.tmp 47) = _ := hF 11 (det 47 _) (mem16 (mem4 (mem4 (mem4 (.tail _ (.head _))))))
                      have e48 : ax.eval (.tmp 48) = _ := hF 12 (det 48 _) (mem16 (mem4 (mem4 (mem4 (.head _)))))
                      have e49 : ax.eval (.tmp 49) = _ := hF 13 (det 49 _) (mem16 (mem4 (mem4 (.tail _ (.tail _ (.tail _ (.head _)))))))
                      have e50 : ax.eval (.tmp 50) = _ := hF 14 (det 50 _) (mem16 (mem4 (mem4 (.tail _ (.tail _ (.head _))))))
                      have e51 : ax.eval (.tmp 51) = _ := hF 15 (det 51 _) (mem16 (mem4 (mem4 (.tail _ (.head _)))))
                      have e52 : ax.eval (.tmp 52) = _ := hF 16 (det 52 _) (mem16 (mem4 (mem4 (.head _))))
                      have e53 : ax.eval (.tmp 53) = _ := hF 17 (det 53 _) (mem16 (mem4 (.tail _ (.tail _ (.tail _ (.head _))))))
                      have e54 : ax.eval (.tmp 54) = _ := hF 18 (det 54 _) (mem16 (mem4 (.tail _ (.tail _ (.head _)))))
                      have e55 : ax.eval (.tmp 55) = _ := hF 19 (det 55 _) (mem16 (mem4 (.tail _ (.head _))))
                      have e56 : ax.eval (.tmp 56) = _ := hF 20 (det 56 _) (mem16 (mem4 (.head _)))
                      have e57 : ax.eval (.tmp 57) = _ := hF 21 (det 57 _) (mem16 (.tail _ (.tail _ (.tail _ (.head _)))))
                      have e58 : ax.eval (.tmp 58) = _ := hF 22 (det 58 _) (mem16 (.tail _ (.tail _ (.head _))))
                      have e59 : ax.eval (.tmp 59) = _ := hF 23 (det 59 _) (mem16 (.tail _ (.head _)))
                      have e60 : ax.eval (.tmp 60) = _ := hF 24 (det 60 _) (mem16 (.head _))
                      have e61 : ax.eval (.tmp 61) = _ := hF 25 (det 61 _) (mem4 (mem4 (mem4 (.tail _ (.tail _ (.tail _ (.head _)))))))
                      have e62 : ax.eval (.tmp 62) = _ := hF 26 (det 62 _) (mem4 (mem4 (mem4 (.tail _ (.tail _ (.head _))))))
                      have e63 : ax.eval (.tmp 63) = _ := hF 27 (det 63 _) (mem4 (mem4 (mem4 (.tail _ (.head _)))))
                      have e64 : ax.eval (.tmp 64) = _ := hF 28 (det 64 _) (mem4 (mem4 (mem4 (.head _))))
                      have e65 : ax.eval (.tmp 65) = _ := hF 29 (det 65 _) (mem4 (mem4 (.tail _ (.tail _ (.tail _ (.head _))))))
                      have e66 : ax.eval (.tmp 66) = _ := hF 30 (det 66 _) (mem4 (mem4 (.tail _ (.tail _ (.head _)))))
                      have e67 : ax.eval (.tmp 67) = _ := hF 31 (det 67 _) (mem4 (mem4 (.tail _ (.head _))))
                      have e68 : ax.eval (.tmp 68) = _ := hF 32 (det 68 _) (mem4 (mem4 (.head _)))
                      have e69 : ax.eval (.tmp 69) = _ := hF 33 (det 69 _) (mem4 (.tail _ (.tail _ (.tail _ (.head _)))))
                      have e70 : ax.eval (.tmp 70) = _ := hF 34 (det 70 _) (mem4 (.tail _ (.tail _ (.head _))))
                      have e71 : ax.eval (.tmp 71) = _ := hF 35 (det 71 _) (mem4 (.tail _ (.head _)))
                      have e72 : ax.eval (.tmp 72) = _ := hF 36 (det 72 _) (mem4 (.head _))
                      have e73 : ax.eval (.tmp 73) = _ := hF 37 (det 73 _) (.tail _ (.tail _ (.tail _ (.head _))))
                      have e74 : ax.eval (.tmp 74) = _ := hF 38 (det 74 _) (.tail _ (.tail _ (.head _)))
                      have e75 : ax.eval (.tmp 75) = _ := hF 39 (det 75 _) (.tail _ (.head _))
                      have e76 : ax.eval (.tmp 76) = _ := hF 40 (det 76 _) (.head _)
                      rw [AllEq.frame (D := [36, 37, 38, 39, 40, 41, 42, 43, 44, 45, 46, 47, 48, 49, 50, 51, 52, 53, 54, 55, 56, 57, 58, 59, 60, 61, 62, 63, 64, 65, 66, 67, 68, 69, 70, 71, 72, 73, 74, 75, 76]) (AllEq.cons e36 (AllEq.cons e37 (AllEq.cons e38 (AllEq.cons e39 (AllEq.cons e40 (AllEq.cons e41 (AllEq.cons e42 (AllEq.cons e43 (AllEq.cons e44 (AllEq.cons e45 (AllEq.cons e46 (AllEq.cons e47 (AllEq.cons e48 (AllEq.cons e49 (AllEq.cons e50 (AllEq.cons e51 (AllEq.cons e52 (AllEq.cons e53 (AllEq.cons e54 (AllEq.cons e55 (AllEq.cons e56 (AllEq.cons e57 (AllEq.cons e58 (AllEq.cons e59 (AllEq.cons e60 (AllEq.cons e61 (AllEq.cons e62 (AllEq.cons e63 (AllEq.cons e64 (AllEq.cons e65 (AllEq.cons e66 (AllEq.cons e67 (AllEq.cons e68 (AllEq.cons e69 (AllEq.cons e70 (AllEq.cons e71 (AllEq.cons e72 (AllEq.cons e73 (AllEq.cons e74 (AllEq.cons e75 (AllEq.cons e76 (AllEq.nil)))))))))))))))))))))))))))))))))))))))))) hE rfl]
                      clear hF hE e36 e37 e38 e39 e40 e41 e42 e43 e44 e45 e46 e47 e48 e49 e50 e51 e52 e53 e54 e55 e56 e57 e58 e59 e60 e61 e62 e63 e64 e65 e66 e67 e68 e69 e70 e71 e72 e73 e74 e75 e76
                      simp only [List.foldl_cons, List.foldl_nil, Act.put, List.setIfInBounds_toArray, List.set_cons_succ, List.set_cons_zero]
                      have hEx := hEx.trans R2
                      have hG : Hid (GB = false) := HB.out (fun h => (HK.out.1 h).2.elim (fun h => by omega) (fun h => hff.out (HV.out ▸ h)))
                      go_wp2_with fail
                      go_ret
                      exact ⟨by rw [hG.out] <;> rfl, HE.out.trans hEx⟩
                    · have dw : decide (511 < V) = false := by rw [decide_eq_false_iff_not]; omega
                      have dwi : decide ((511 : Int) < (V : Int)) = false := by rw [decide_eq_false_iff_not]; omega
                      have dw2 : decide (512 ≤ V) = false := by rw [decide_eq_false_iff_not]; omega
                      have hff : Hid (farB V = false) := by rw [hfar, dw2, dv]; rfl
                      clear hfar dw2
                      refine wp_typed (R := Ext) (w0 := wr) [[], [0], [0, 1], [0, 1, 2], [0, 1, 2, 3], [0, 1, 2], [0, 1, 2, 5], [0, 1, 2, 3, 4, 5, 6], [0, 1, 2, 3, 4, 5, 6, 7], [0, 1, 2, 3, 4, 5, 6, 7, 8], [0, 1, 2], [0, 1, 2, 10], [0, 1, 2], [0, 1, 2, 10, 11, 12], [0, 1, 2, 10, 11, 12, 13], [0, 1, 2, 10, 11, 12, 13, 14], [0, 1, 2, 3, 4, 5, 6, 7, 8, 9, 10, 11, 12, 13, 14, 15], [0, 1, 2, 3, 4, 5, 6, 7, 8, 9, 10, 11, 12, 13, 14, 15, 16], [0, 1, 2, 3, 4, 5, 6, 7, 8, 9, 10, 11, 12, 13, 14, 15, 16, 17], [0, 1, 2, 3, 4, 5, 6, 7, 8, 9, 10, 11, 12, 13, 14, 15, 16, 17, 18], [0, 1, 2, 3, 4, 5, 6, 7, 8, 9, 10, 11, 12, 13, 14, 15, 16, 17, 18, 19], [0, 1, 2, 3, 4, 5, 6, 7, 8, 9, 10, 11, 12, 13, 14, 15, 16, 17, 18, 19, 20], [0, 1, 2, 3, 4, 5, 6, 7, 8, 9, 10, 11, 12, 13, 14, 15, 16, 17, 18, 19, 20, 21], [0, 1, 2, 3, 4, 5, 6, 7, 8, 9, 10, 11, 12, 13, 14, 15, 16, 17, 18, 19, 20, 21, 22], [0, 1, 2, 3, 4, 5, 6, 7, 8, 9, 10, 11, 12, 13, 14, 15, 16, 17, 18, 19, 20, 21, 22, 23], [0, 1, 2, 3, 4, 5, 6, 7, 8, 9, 10, 11, 12, 13, 14, 15, 16, 17, 18, 19, 20, 21, 22], [0, 1, 2, 3, 4, 5, 6, 7, 8, 9, 10, 11, 12, 13, 14, 15, 16, 17, 18, 19, 20, 21, 22, 23, 24, 25], [0, 1, 2, 3, 4, 5, 6, 7, 8, 9, 10, 11, 12, 13, 14, 15, 16, 17, 18, 19, 20, 21, 22, 23, 24, 25, 26], [0, 1, 2, 3, 4, 5, 6, 7, 8, 9, 10, 11, 12, 13, 14, 15, 16, 17, 18, 19, 20, 21, 22, 23, 24, 25, 26, 27], [0, 1, 2, 3, 4, 5, 6, 7, 8, 9, 10, 11, 12, 13, 14, 15, 16, 17, 18, 19, 20, 21, 22, 23, 24, 25, 26, 27, 28], [0, 1, 2, 3, 4, 5, 6, 7, 8, 9, 10, 11, 12, 13, 14, 15, 16, 17, 18, 19, 20, 21, 22, 23, 24, 25, 26, 27, 28, 29], [0, 1, 2, 3, 4, 5, 6, 7, 8, 9, 10, 11, 12, 13, 14, 15, 16, 17, 18, 19, 20, 21, 22, 23, 24, 25, 26, 27, 28, 29, 30], [0, 1, 2, 3, 4, 5, 6, 7, 8, 9, 10, 11, 12, 13, 14, 15, 16, 17, 18, 19, 20, 21, 22, 23, 24, 25, 26, 27, 28, 29, 30, 31], [0, 1, 2, 3, 4, 5, 6, 7, 8, 9, 10, 11, 12, 13, 14, 15, 16, 17, 18, 19, 20, 21, 22, 23, 24, 25, 26, 27, 28, 29, 30], [0, 1, 2, 3, 4, 5, 6, 7, 8, 9, 10, 11, 12, 13, 14, 15, 16, 17, 18, 19, 20, 21, 22, 23, 24, 25, 26, 27, 28, 29, 30, 31, 32, 33], [0, 1, 2, 3, 4, 5, 6, 7, 8, 9, 10, 11, 12, 13, 14, 15, 16, 17, 18, 19, 20, 21, 22, 23, 24, 25, 26, 27, 28, 29, 30, 31, 32, 33, 34], [0, 1, 2, 3, 4, 5, 6, 7, 8, 9, 10, 11, 12, 13, 14, 15, 16, 17, 18, 19, 20, 21, 22, 23, 24, 25, 26, 27, 28, 29, 30, 31, 32, 33, 34, 35], [0, 1, 2, 3, 4, 5, 6, 7, 8, 9, 10, 11, 12, 13, 14, 15, 16, 17, 18, 19, 20, 21, 22, 23, 24, 25, 26, 27, 28, 29, 30, 31, 32, 33, 34, 35, 36], [0, 1, 2, 3, 4, 5, 6, 7, 8, 9, 10, 11, 12, 13, 14, 15, 16, 17, 18, 19, 20, 21, 22, 23, 24, 25, 26, 27, 28, 29, 30, 31, 32, 33, 34, 35, 36, 37], [0, 1, 2, 3, 4, 5, 6, 7, 8, 9, 10, 11, 12, 13, 14, 15, 16, 17, 18, 19, 20, 21, 22, 23, 24, 25, 26, 27, 28, 29, 30, 31, 32, 33, 34, 35, 36, 37, 38], [0, 1, 2, 3, 4, 5, 6, 7, 8, 9, 10, 11, 12, 13, 14, 15, 16, 17, 18, 19, 20, 21, 22, 23, 24, 25, 26, 27, 28, 29, 30, 31, 32, 33, 34, 35, 36, 37, 38, 39]] [36, 37, 38, 39, 40, 41, 42, 43, 44, 45, 46, 47, 48, 49, 50, 51, 52, 53, 54, 55, 56, 57, 58, 59, 60, 61, 62, 63, 64, 65, 66, 67, 68, 69, 70, 71, 72, 73, 74, 75, 76] Ext.refl (fun _ _ _ => Ext.trans) (Ext.drew _) (by kernel_rfl) ?_
                      apply Build.det 36 Ext.refl (by rfl) (by rfl) rfl
                      case h =>   -- 0: t36 := Op.move (tmp 3)
                        intro ax wx hE hR hF
                        have e3 : ax.eval (.tmp 3) = .int .i64 (((p + 1 : Nat) : Int)) := hE.eval 3 (by rfl) rfl
                        simp [go_sem, BigFrame.eval_const, BigFrame.eval_global, BigFrame.eval_func, ↓IntWalk.iteOmega, ev e3, hsub, hsub2, d4, dv, dvi, dw, dwi, dk, dkn]
                        with_reducible rfl
                      apply Build.det 37 Ext.refl (by rfl) (by rfl) rfl
                      case h =>   -- 1: t37 := Op.binOp BinOp.gtr 3 (tmp 36) (const (Value.int IntKind.i64 0)) 3
                        intro ax wx hE hR hF
                        have e36 : ax.eval (.tmp 36) = _ := hF 0 (det 36 _) (by decide) (.head _)
                        simp [go_sem, BigFrame.eval_const, BigFrame.eval_global, BigFrame.eval_func, ↓IntWalk.iteOmega, ev e36, hsub, hsub2, d4, dv, dvi, dw, dwi, dk, dkn]
                        with_reducible rfl
                      apply Build.det 38 Ext.refl (by rfl) (by rfl) rfl
                      case h =>   -- 2: t38 := Op.move (tmp 37)
                        intro ax wx hE hR hF
                        have e37 : ax.eval (.tmp 37) = _ := hF 1 (det 37 _) (by decide) (.head _)
                        simp [go_sem, BigFrame.eval_const, BigFrame.eval_global, BigFrame.eval_func, ↓IntWalk.iteOmega, ev e37, hsub, hsub2, d4, dv, dvi, dw, dwi, dk, dkn]
                        with_reducible rfl
                      apply Build.detg 39 Ext.refl (by rfl) (by rfl) rfl rfl
                      case h =>   -- 3: t39 := Op.fieldAddr 60 (tmp 1) 1
                        intro ax wx hE hR hF
                        have e1 : ax.eval (.tmp 1) = .pointer (some ⟨w.heap.size, 0, none⟩) := hE.eval 1 (by rfl) rfl
                        have e38 : ax.eval (.tmp 38) = _ := hF 2 (det 38 _) (by decide) (.head _)
                        refine ⟨e38, ?_⟩
                        simp [go_sem, BigFrame.eval_const, BigFrame.eval_global, BigFrame.eval_func, ↓IntWalk.iteOmega, ev e1, ev e38, hsub, hsub2, d4, dv, dvi, dw, dwi, dk, dkn]
                        with_reducible rfl
                      apply Build.detg 40 Ext.refl (by rfl) (by rfl) rfl rfl
                      case h =>   -- 4: t40 := Op.load 58 (tmp 39)
                        intro ax wx hE hR hF
                        have e38 : ax.eval (.tmp 38) = _ := hF 2 (det 38 _) (by decide) (.tail _ (.head _))
                        have e39 : ax.eval (.tmp 39) = _ := hF 3 (det 39 _) (by decide) (.head _)
                        have hX2 := HXX.out _ hR; have q0 := hX2.cell 0; have q1 := hX2.cell 1; have p0 := HP.out _ hR; have p1 := (HQ.out _ hR).1; have p2 := (HQ.out _ hR).2
                        refine ⟨e38, ?_⟩
                        simp [go_sem, BigFrame.eval_const, BigFrame.eval_global, BigFrame.eval_func, ↓IntWalk.iteOmega, ev e38, ev e39, hsub, hsub2, d4, dv, dvi, dw, dwi, dk, dkn, q0, q1, p0, p1, p2]
                        with_reducible rfl
                      apply Build.detg 41 Ext.refl (by rfl) (by rfl) rfl rfl
                      case h =>   -- 5: t41 := Op.move (tmp 3)
                        intro ax wx hE hR hF
                        have e3 : ax.eval (.tmp 3) = .int .i64 (((p + 1 : Nat) : Int)) := hE.eval 3 (by rfl) rfl
                        have e38 : ax.eval (.tmp 38) = _ := hF 2 (det 38 _) (by decide) (.tail _ (.tail _ (.head _)))
                        refine ⟨e38, ?_⟩
                        simp [go_sem, BigFrame.eval_const, BigFrame.eval_global, BigFrame.eval_func, ↓IntWalk.iteOmega, ev e3, ev e38, hsub, hsub2, d4, dv, dvi, dw, dwi, dk, dkn]
                        with_reducible rfl
                      apply Build.detg 42 Ext.refl (by rfl) (by rfl) rfl rfl
                      case h =>   -- 6: t42 := Op.binOp BinOp.sub 3 (tmp 41) (const (Value.int IntKind.i64 1)) 3
                        intro ax wx hE hR hF
                        have e38 : ax.eval (.tmp 38) = _ := hF 2 (det 38 _) (by decide) (.tail _ (.tail _ (.tail _ (.head _))))
                        have e41 : ax.eval (.tmp 41) = _ := hF 5 (det 41 _) (by decide) (.head _)
                        refine ⟨e38, ?_⟩
                        simp [go_sem, BigFrame.eval_const, BigFrame.eval_global, BigFrame.eval_func, ↓IntWalk.iteOmega, ev e38, ev e41, hsub, hsub2, d4, dv, dvi, dw, dwi, dk, dkn]
                        with_reducible rfl
                      apply Build.detg 43 Ext.refl (by rfl) (by rfl) rfl rfl
                      case h =>   -- 7: t43 := Op.indexAddr 58 (tmp 40) (tmp 42)
                        intro ax wx hE hR hF
                        have e38 : ax.eval (.tmp 38) = _ := hF 2 (det 38 _) (by decide) (mem4 (.head _))
                        have e40 : ax.eval (.tmp 40) = _ := hF 4 (det 40 _) (by decide) (.tail _ (.tail _ (.head _)))
                        have e42 : ax.eval (.tmp 42) = _ := hF 6 (det 42 _) (by decide) (.head _)
                        refine ⟨e38, ?_⟩
                        simp [go_sem, BigFrame.eval_const, BigFrame.eval_global, BigFrame.eval_func, ↓IntWalk.iteOmega, ev e38, ev e40, ev e42, hsub, hsub2, d4, dv, dvi, dw, dwi, dk, dkn]
                        with_reducible rfl
                      apply Build.detg 44 Ext.refl (by rfl) (by rfl) rfl rfl
                      case h =>   -- 8: t44 := Op.fieldAddr 72 (tmp 43) 0
                        intro ax wx hE hR hF
                        have e38 : ax.eval (.tmp 38) = _ := hF 2 (det 38 _) (by decide) (mem4 (.tail _ (.head _)))
                        have e43 : ax.eval (.tmp 43) = _ := hF 7 (det 43 _) (by decide) (.head _)
                        refine ⟨e38, ?_⟩
                        simp [go_sem, BigFrame.eval_const, BigFrame.eval_global, BigFrame.eval_func, ↓IntWalk.iteOmega, ev e38, ev e43, hsub, hsub2, d4, dv, dvi, dw, dwi, dk, dkn]
                        with_reducible rfl
                      apply Build.detg 45 Ext.refl (by rfl) (by rfl) rfl rfl
                      case h =>   -- 9: t45 := Op.load 31 (tmp 44)
                        intro ax wx hE hR hF
                        have e38 : ax.eval (.tmp 38) = _ := hF 2 (det 38 _) (by decide) (mem4 (.tail _ (.tail _ (.head _))))
                        have e44 : ax.eval (.tmp 44) = _ := hF 8 (det 44 _) (by decide) (.head _)
                        have hX2 := HXX.out _ hR; have q0 := hX2.cell 0; have q1 := hX2.cell 1; have p0 := HP.out _ hR; have p1 := (HQ.out _ hR).1; have p2 := (HQ.out _ hR).2
                        refine ⟨e38, ?_⟩
                        simp [go_sem, BigFrame.eval_const, BigFrame.eval_global, BigFrame.eval_func, ↓IntWalk.iteOmega, ev e38, ev e44, hsub, hsub2, d4, dv, dvi, dw, dwi, dk, dkn, q0, q1, p0, p1, p2]
                        with_reducible rfl
                      apply Build.detg 46 Ext.refl (by rfl) (by rfl) rfl rfl
                      case h =>   -- 10: t46 := Op.fieldAddr 60 (tmp 1) 1
                        intro ax wx hE hR hF
                        have e1 : ax.eval (.tmp 1) = .pointer (some ⟨w.heap.size, 0, none⟩) := hE.eval 1 (by rfl) rfl
                        have e38 : ax.eval (.tmp 38) = _ := hF 2 (det 38 _) (by decide) (mem4 (.tail _ (.tail _ (.tail _ (.head _)))))
                        refine ⟨e38, ?_⟩
                        simp [go_sem, BigFrame.eval_const, BigFrame.eval_global, BigFrame.eval_func, ↓IntWalk.iteOmega, ev e1, ev e38, hsub, hsub2, d4, dv, dvi, dw, dwi, dk, dkn]
                        with_reducible rfl
                      apply Build.detg 47 Ext.refl (by rfl) (by rfl) rfl rfl
                      case h =>   -- 11: t47 := Op.load 58 (tmp 46)
                        intro ax wx hE hR hF
                        have e38 : ax.eval (.tmp 38) = _ := hF 2 (det 38 _) (by decide) (mem4 (mem4 (.head _)))
                        have e46 : ax.eval (.tmp 46) = _ := hF 10 (det 46 _) (by decide) (.head _)
                        have hX2 := HXX.out _ hR; have q0 := hX2.cell 0; have q1 := hX2.cell 1; have p0 := HP.out _ hR; have p1 := (HQ.out _ hR).1; have p2 := (HQ.out _ hR).2
                        refine ⟨e38, ?_⟩
                        simp [go_sem, BigFrame.eval_const, BigFrame.eval_global, BigFrame.eval_func, ↓IntWalk.iteOmega, ev e38, ev e46, hsub, hsub2, d4, dv, dvi, dw, dwi, dk, dkn, q0, q1, p0, p1, p2]
                        with_reducible rfl
                      apply Build.detg 48 Ext.refl (by rfl) (by rfl) rfl rfl
                      case h =>   -- 12: t48 := Op.move (tmp 3)
                        intro ax wx hE hR hF
                        have e3 : ax.eval (.tmp 3) = .int .i64 (((p + 1 : Nat) : Int)) := hE.eval 3 (by rfl) rfl
                        have e38 : ax.eval (.tmp 38) = _ := hF 2 (det 38 _) (by decide) (mem4 (mem4 (.tail _ (.head _))))
                        refine ⟨e38, ?_⟩
                        simp [go_sem, BigFrame.eval_const, BigFrame.eval_global, BigFrame.eval_func, ↓IntWalk.iteOmega, ev e3, ev e38, hsub, hsub2, d4, dv, dvi, dw, dwi, dk, dkn]
                        with_reducible rfl
                      apply Build.detg 49 Ext.refl (by rfl) (by rfl) rfl rfl
                      case h =>   -- 13: t49 := Op.indexAddr 58 (tmp 47) (tmp 48)
                        intro ax wx hE hR hF
                        have e38 : ax.eval (.tmp 38) = _ := hF 2 (det 38 _) (by decide) (mem4 (mem4 (.tail _ (.tail _ (.head _)))))
                        have e47 : ax.eval (.tmp 47) = _ := hF 11 (det 47 _) (by decide) (.tail _ (.head _))
                        have e48 : ax.eval (.tmp 48) = _ := hF 12 (det 48 _) (by decide) (.head _)
                        refine ⟨e38, ?_⟩
                        simp [go_sem, BigFrame.eval_const, BigFrame.eval_global, BigFrame.eval_func, ↓IntWalk.iteOmega, ev e38, ev e47, ev e48, hsub, hsub2, d4, dv, dvi, dw, dwi, dk, dkn]
                        with_reducible rfl
                      apply Build.detg 50 Ext.refl (by rfl) (by rfl) rfl rfl
                      case h =>   -- 14: t50 := Op.fieldAddr 72 (tmp 49) 0
                        intro ax wx hE hR hF
                        have e38 : ax.eval (.tmp 38) = _ := hF 2 (det 38 _) (by decide) (mem4 (mem4 (.tail _ (.tail _ (.tail _ (.head _))))))
                        have e49 : ax.eval (.tmp 49) = _ := hF 13 (det 49 _) (by decide) (.head _)
                        refine ⟨e38, ?_⟩
                        simp [go_sem, BigFrame.eval_const, BigFrame.eval_global, BigFrame.eval_func, ↓IntWalk.iteOmega, ev e38, ev e49, hsub, hsub2, d4, dv, dvi, dw, dwi, dk, dkn]
                        with_reducible rfl
                      apply Build.detg 51 Ext.refl (by rfl) (by rfl) rfl rfl
                      case h =>   -- 15: t51 := Op.load 31 (tmp 50)
                        intro ax wx hE hR hF
                        have e38 : ax.eval (.tmp 38) = _ := hF 2 (det 38 _) (by decide) (mem4 (mem4 (mem4 (.head _))))
                        have e50 : ax.eval (.tmp 50) = _ := hF 14 (det 50 _) (by decide) (.head _)
                        have hX2 := HXX.out _ hR; have q0 := hX2.cell 0; have q1 := hX2.cell 1; have p0 := HP.out _ hR; have p1 := (HQ.out _ hR).1; have p2 := (HQ.out _ hR).2
                        refine ⟨e38, ?_⟩
                        simp [go_sem, BigFrame.eval_const, BigFrame.eval_global, BigFrame.eval_func, ↓IntWalk.iteOmega, ev e38, ev e50, hsub, hsub2, d4, dv, dvi, dw, dwi, dk, dkn, q0, q1, p0, p1, p2]
                        with_reducible rfl
                      apply Build.detg 52 Ext.refl (by rfl) (by rfl) rfl rfl
                      case h =>   -- 16: t52 := Op.binOp BinOp.geq 31 (tmp 45) (tmp 51) 31
                        intro ax wx hE hR hF
                        have e38 : ax.eval (.tmp 38) = _ := hF 2 (det 38 _) (by decide) (mem4 (mem4 (mem4 (.tail _ (.head _)))))
                        have e45 : ax.eval (.tmp 45) = _ := hF 9 (det 45 _) (by decide) (mem4 (.tail _ (.tail _ (.head _))))
                        have e51 : ax.eval (.tmp 51) = _ := hF 15 (det 51 _) (by decide) (.head _)
                        refine ⟨e38, ?_⟩
                        simp [go_sem, BigFrame.eval_const, BigFrame.eval_global, BigFrame.eval_func, ↓IntWalk.iteOmega, ev e38, ev e45, ev e51, hsub, hsub2, d4, dv, dvi, dw, dwi, dk, dkn]
                        with_reducible rfl
                      apply Build.det 53 Ext.refl (by rfl) (by rfl) rfl
                      case h =>   -- 17: t53 := Op.pick (tmp 38) (tmp 52) (const (Value.bool false))
                        intro ax wx hE hR hF
                        have e38 : ax.eval (.tmp 38) = _ := hF 2 (det 38 _) (by decide) (mem4 (mem4 (mem4 (.tail _ (.tail _ (.head _))))))
                        have e52 : ax.eval (.tmp 52) = _ := hF 16 (det 52 _) (by decide) (.head _)
                        simp [go_sem, BigFrame.eval_const, BigFrame.eval_global, BigFrame.eval_func, ↓IntWalk.iteOmega, ev e38, ev e52, hsub, hsub2, d4, dv, dvi, dw, dwi, dk, dkn]
                        with_reducible rfl
                      apply Build.det 54 Ext.refl (by rfl) (by rfl) rfl
                      case h =>   -- 18: t54 := Op.move (tmp 53)
                        intro ax wx hE hR hF
                        have e53 : ax.eval (.tmp 53) = _ := hF 17 (det 53 _) (by decide) (.head _)
                        simp [go_sem, BigFrame.eval_const, BigFrame.eval_global, BigFrame.eval_func, ↓IntWalk.iteOmega, ev e53, hsub, hsub2, d4, dv, dvi, dw, dwi, dk, dkn]
                        with_reducible rfl
                      apply Build.detg 55 Ext.refl (by rfl) (by rfl) rfl rfl
                      case h =>   -- 19: t55 := Op.fieldAddr 60 (tmp 1) 0
                        intro ax wx hE hR hF
                        have e1 : ax.eval (.tmp 1) = .pointer (some ⟨w.heap.size, 0, none⟩) := hE.eval 1 (by rfl) rfl
                        have e54 : ax.eval (.tmp 54) = _ := hF 18 (det 54 _) (by decide) (.head _)
                        refine ⟨e54, ?_⟩
                        simp [go_sem, BigFrame.eval_const, BigFrame.eval_global, BigFrame.eval_func, ↓IntWalk.iteOmega, ev e1, ev e54, hsub, hsub2, d4, dv, dvi, dw, dwi, dk, dkn]
                        with_reducible rfl
                      apply Build.detg 56 Ext.refl (by rfl) (by rfl) rfl rfl
                      case h =>   -- 20: t56 := Op.load 3 (tmp 55)
                        intro ax wx hE hR hF
                        have e54 : ax.eval (.tmp 54) = _ := hF 18 (det 54 _) (by decide) (.tail _ (.head _))
                        have e55 : ax.eval (.tmp 55) = _ := hF 19 (det 55 _) (by decide) (.head _)
                        have hX2 := HXX.out _ hR; have q0 := hX2.cell 0; have q1 := hX2.cell 1; have p0 := HP.out _ hR; have p1 := (HQ.out _ hR).1; have p2 := (HQ.out _ hR).2
                        refine ⟨e54, ?_⟩
                        simp [go_sem, BigFrame.eval_const, BigFrame.eval_global, BigFrame.eval_func, ↓IntWalk.iteOmega, ev e54, ev e55, hsub, hsub2, d4, dv, dvi, dw, dwi, dk, dkn, q0, q1, p0, p1, p2]
                        with_reducible rfl
                      apply Build.detg 57 Ext.refl (by rfl) (by rfl) rfl rfl
                      case h =>   -- 21: t57 := Op.binOp BinOp.gtr 3 (tmp 56) (const (Value.int IntKind.i64 0)) 3
                        intro ax wx hE hR hF
                        have e54 : ax.eval (.tmp 54) = _ := hF 18 (det 54 _) (by decide) (.tail _ (.tail _ (.head _)))
                        have e56 : ax.eval (.tmp 56) = _ := hF 20 (det 56 _) (by decide) (.head _)
                        refine ⟨e54, ?_⟩
                        simp [go_sem, BigFrame.eval_const, BigFrame.eval_global, BigFrame.eval_func, ↓IntWalk.iteOmega, ev e54, ev e56, hsub, hsub2, d4, dv, dvi, dw, dwi, dk, dkn]
                        with_reducible rfl
                      apply Build.detg 58 Ext.refl (by rfl) (by rfl) rfl rfl
                      case h =>   -- 22: t58 := Op.move (tmp 57)
                        intro ax wx hE hR hF
                        have e54 : ax.eval (.tmp 54) = _ := hF 18 (det 54 _) (by decide) (.tail _ (.tail _ (.tail _ (.head _))))
                        have e57 : ax.eval (.tmp 57) = _ := hF 21 (det 57 _) (by decide) (.head _)
                        refine ⟨e54, ?_⟩
                        simp [go_sem, BigFrame.eval_const, BigFrame.eval_global, BigFrame.eval_func, ↓IntWalk.iteOmega, ev e54, ev e57, hsub, hsub2, d4, dv, dvi, dw, dwi, dk, dkn]
                        with_reducible rfl
                      apply Build.detg 59 Ext.refl (by rfl) (by rfl) rfl rfl
                      case h =>   -- 23: t59 := Op.fieldAddr 60 (tmp 1) 1
                        intro ax wx hE hR hF
                        have e1 : ax.eval (.tmp 1) = .pointer (some ⟨w.heap.size, 0, none⟩) := hE.eval 1 (by rfl) rfl
                        have e58 : ax.eval (.tmp 58) = _ := hF 22 (det 58 _) (by decide) (.head _)
                        refine ⟨e58, ?_⟩
                        simp [go_sem, BigFrame.eval_const, BigFrame.eval_global, BigFrame.eval_func, ↓IntWalk.iteOmega, ev e1, ev e58, hsub, hsub2, d4, dv, dvi, dw, dwi, dk, dkn]
                        with_reducible rfl
                      apply Build.detg 60 Ext.refl (by rfl) (by rfl) rfl rfl
                      case h =>   -- 24: t60 := Op.load 58 (tmp 59)
                        intro ax wx hE hR hF
                        have e58 : ax.eval (.tmp 58) = _ := hF 22 (det 58 _) (by decide) (.tail _ (.head _))
                        have e59 : ax.eval (.tmp 59) = _ := hF 23 (det 59 _) (by decide) (.head _)
                        have hX2 := HXX.out _ hR; have q0 := hX2.cell 0; have q1 := hX2.cell 1; have p0 := HP.out _ hR; have p1 := (HQ.out _ hR).1; have p2 := (HQ.out _ hR).2
                        refine ⟨e58, ?_⟩
                        simp [go_sem, BigFrame.eval_const, BigFrame.eval_global, BigFrame.eval_func, ↓IntWalk.iteOmega, ev e58, ev e59, hsub, hsub2, d4, dv, dvi, dw, dwi, dk, dkn, q0, q1, p0, p1, p2]
                        with_reducible rfl
                      apply Build.detg 61 Ext.refl (by rfl) (by rfl) rfl rfl
                      case h =>   -- 25: t61 := Op.move (tmp 3)
                        intro ax wx hE hR hF
                        have e3 : ax.eval (.tmp 3) = .int .i64 (((p + 1 : Nat) : Int)) := hE.eval 3 (by rfl) rfl
                        have e58 : ax.eval (.tmp 58) = _ := hF 22 (det 58 _) (by decide) (.tail _ (.tail _ (.head _)))
                        refine ⟨e58, ?_⟩
                        simp [go_sem, BigFrame.eval_const, BigFrame.eval_global, BigFrame.eval_func, ↓IntWalk.iteOmega, ev e3, ev e58, hsub, hsub2, d4, dv, dvi, dw, dwi, dk, dkn]
                        with_reducible rfl
                      apply Build.detg 62 Ext.refl (by rfl) (by rfl) rfl rfl
                      case h =>   -- 26: t62 := Op.indexAddr 58 (tmp 60) (tmp 61)
                        intro ax wx hE hR hF
                        have e58 : ax.eval (.tmp 58) = _ := hF 22 (det 58 _) (by decide) (.tail _ (.tail _ (.tail _ (.head _))))
                        have e60 : ax.eval (.tmp 60) = _ := hF 24 (det 60 _) (by decide) (.tail _ (.head _))
                        have e61 : ax.eval (.tmp 61) = _ := hF 25 (det 61 _) (by decide) (.head _)
                        refine ⟨e58, ?_⟩
                        simp [go_sem, BigFrame.eval_const, BigFrame.eval_global, BigFrame.eval_func, ↓IntWalk.iteOmega, ev e58, ev e60, ev e61, hsub, hsub2, d4, dv, dvi, dw, dwi, dk, dkn]
                        with_reducible rfl
                      apply Build.detg 63 Ext.refl (by rfl) (by rfl) rfl rfl
                      case h =>   -- 27: t63 := Op.fieldAddr 72 (tmp 62) 1
                        intro ax wx hE hR hF
                        have e58 : ax.eval (.tmp 58) = _ := hF 22 (det 58 _) (by decide) (mem4 (.head _))
                        have e62 : ax.eval (.tmp 62) = _ := hF 26 (det 62 _) (by decide) (.head _)
                        refine ⟨e58, ?_⟩
                        simp [go_sem, BigFrame.eval_const, BigFrame.eval_global, BigFrame.eval_func, ↓IntWalk.iteOmega, ev e58, ev e62, hsub, hsub2, d4, dv, dvi, dw, dwi, dk, dkn]
                        with_reducible rfl
                      apply Build.detg 64 Ext.refl (by rfl) (by rfl) rfl rfl
                      case h =>   -- 28: t64 := Op.load 31 (tmp 63)
                        intro ax wx hE hR hF
                        have e58 : ax.eval (.tmp 58) = _ := hF 22 (det 58 _) (by decide) (mem4 (.tail _ (.head _)))
                        have e63 : ax.eval (.tmp 63) = _ := hF 27 (det 63 _) (by decide) (.head _)
                        have hX2 := HXX.out _ hR; have q0 := hX2.cell 0; have q1 := hX2.cell 1; have p0 := HP.out _ hR; have p1 := (HQ.out _ hR).1; have p2 := (HQ.out _ hR).2
                        refine ⟨e58, ?_⟩
                        simp [go_sem, BigFrame.eval_const, BigFrame.eval_global, BigFrame.eval_func, ↓IntWalk.iteOmega, ev e58, ev e63, hsub, hsub2, d4, dv, dvi, dw, dwi, dk, dkn, q0, q1, p0, p1, p2]
                        with_reducible rfl
                      apply Build.detg 65 Ext.refl (by rfl) (by rfl) rfl rfl
                      case h =>   -- 29: t65 := Op.binOp BinOp.lss 31 (tmp 64) (const (Value.int IntKind.u64 1)) 31
                        intro ax wx hE hR hF
                        have e58 : ax.eval (.tmp 58) = _ := hF 22 (det 58 _) (by decide) (mem4 (.tail _ (.tail _ (.head _))))
                        have e64 : ax.eval (.tmp 64) = _ := hF 28 (det 64 _) (by decide) (.head _)
                        refine ⟨e58, ?_⟩
                        simp [go_sem, BigFrame.eval_const, BigFrame.eval_global, BigFrame.eval_func, ↓IntWalk.iteOmega, ev e58, ev e64, hsub, hsub2, d4, dv, dvi, dw, dwi, dk, dkn]
                        with_reducible rfl
                      apply Build.detg 66 Ext.refl (by rfl) (by rfl) rfl rfl
                      case h =>   -- 30: t66 := Op.move (tmp 65)
                        intro ax wx hE hR hF
                        have e58 : ax.eval (.tmp 58) = _ := hF 22 (det 58 _) (by decide) (mem4 (.tail _ (.tail _ (.tail _ (.head _)))))
                        have e65 : ax.eval (.tmp 65) = _ := hF 29 (det 65 _) (by decide) (.head _)
                        refine ⟨e58, ?_⟩
                        simp [go_sem, BigFrame.eval_const, BigFrame.eval_global, BigFrame.eval_func, ↓IntWalk.iteOmega, ev e58, ev e65, hsub, hsub2, d4, dv, dvi, dw, dwi, dk, dkn]
                        with_reducible rfl
                      apply Build.detg 67 Ext.refl (by rfl) (by rfl) rfl rfl
                      case h =>   -- 31: t67 := Op.fieldAddr 60 (tmp 1) 1
                        intro ax wx hE hR hF
                        have e1 : ax.eval (.tmp 1) = .pointer (some ⟨w.heap.size, 0, none⟩) := hE.eval 1 (by rfl) rfl
                        have e66 : ax.eval (.tmp 66) = _ := hF 30 (det 66 _) (by decide) (.head _)
                        refine ⟨e66, ?_⟩
                        simp [go_sem, BigFrame.eval_const, BigFrame.eval_global, BigFrame.eval_func, ↓IntWalk.iteOmega, ev e1, ev e66, hsub, hsub2, d4, dv, dvi, dw, dwi, dk, dkn]
                        with_reducible rfl
                      apply Build.detg 68 Ext.refl (by rfl) (by rfl) rfl rfl
                      case h =>   -- 32: t68 := Op.load 58 (tmp 67)
                        intro ax wx hE hR hF
                        have e66 : ax.eval (.tmp 66) = _ := hF 30 (det 66 _) (by decide) (.tail _ (.head _))
                        have e67 : ax.eval (.tmp 67) = _ := hF 31 (det 67 _) (by decide) (.head _)
                        have hX2 := HXX.out _ hR; have q0 := hX2.cell 0; have q1 := hX2.cell 1; have p0 := HP.out _ hR; have p1 := (HQ.out _ hR).1; have p2 := (HQ.out _ hR).2
                        refine ⟨e66, ?_⟩
                        simp [go_sem, BigFrame.eval_const, BigFrame.eval_global, BigFrame.eval_func, ↓IntWalk.iteOmega, ev e66, ev e67, hsub, hsub2, d4, dv, dvi, dw, dwi, dk, dkn, q0, q1, p0, p1, p2]
                        with_reducible rfl
                      apply Build.detg 69 Ext.refl (by rfl) (by rfl) rfl rfl
                      case h =>   -- 33: t69 := Op.move (tmp 3)
                        intro ax wx hE hR hF
                        have e3 : ax.eval (.tmp 3) = .int .i64 (((p + 1 : Nat) : Int)) := hE.eval 3 (by rfl) rfl
                        have e66 : ax.eval (.tmp 66) = _ := hF 30 (det 66 _) (by decide) (.tail _ (.tail _ (.head _)))
                        refine ⟨e66, ?_⟩
                        simp [go_sem, BigFrame.eval_const, BigFrame.eval_global, BigFrame.eval_func, ↓IntWalk.iteOmega, ev e3, ev e66, hsub, hsub2, d4, dv, dvi, dw, dwi, dk, dkn]
                        with_reducible rfl
                      apply Build.detg 70 Ext.refl (by rfl) (by rfl) rfl rfl
                      case h =>   -- 34: t70 := Op.indexAddr 58 (tmp 68) (tmp 69)
                        intro ax wx hE hR hF
                        have e66 : ax.eval (.tmp 66) = _ := hF 30 (det 66 _) (by decide) (.tail _ (.tail _ (.tail _ (.head _))))
                        have e68 : ax.eval (.tmp 68) = _ := hF 32 (det 68 _) (by decide) (.tail _ (.head _))
                        have e69 : ax.eval (.tmp 69) = _ := hF 33 (det 69 _) (by decide) (.head _)
                        refine ⟨e66, ?_⟩
                        simp [go_sem, BigFrame.eval_const, BigFrame.eval_global, BigFrame.eval_func, ↓IntWalk.iteOmega, ev e66, ev e68, ev e69, hsub, hsub2, d4, dv, dvi, dw, dwi, dk, dkn]
                        with_reducible rfl
                      apply Build.detg 71 Ext.refl (by rfl) (by rfl) rfl rfl
                      case h =>   -- 35: t71 := Op.fieldAddr 72 (tmp 70) 1
                        intro ax wx hE hR hF
                        have e66 : ax.eval (.tmp 66) = _ := hF 30 (det 66 _) (by decide) (mem4 (.head _))
                        have e70 : ax.eval (.tmp 70) = _ := hF 34 (det 70 _) (by decide) (.head _)
                        refine ⟨e66, ?_⟩
                        simp [go_sem, BigFrame.eval_const, BigFrame.eval_global, BigFrame.eval_func, ↓IntWalk.iteOmega, ev e66, ev e70, hsub, hsub2, d4, dv, dvi, dw, dwi, dk, dkn]
                        with_reducible rfl
                      apply Build.detg 72 Ext.refl (by rfl) (by rfl) rfl rfl
                      case h =>   -- 36: t72 := Op.load 31 (tmp 71)
                        intro ax wx hE hR hF
                        have e66 : ax.eval (.tmp 66) = _ := hF 30 (det 66 _) (by decide) (mem4 (.tail _ (.head _)))
                        have e71 : ax.eval (.tmp 71) = _ := hF 35 (det 71 _) (by decide) (.head _)
                        have hX2 := HXX.out _ hR; have q0 := hX2.cell 0; have q1 := hX2.cell 1; have p0 := HP.out _ hR; have p1 := (HQ.out _ hR).1; have p2 := (HQ.out _ hR).2
                        refine ⟨e66, ?_⟩
                        simp [go_sem, BigFrame.eval_const, BigFrame.eval_global, BigFrame.eval_func, ↓IntWalk.iteOmega, ev e66, ev e71, hsub, hsub2, d4, dv, dvi, dw, dwi, dk, dkn, q0, q1, p0, p1, p2]
                        with_reducible rfl
                      apply Build.detg 73 Ext.refl (by rfl) (by rfl) rfl rfl
                      case h =>   -- 37: t73 := Op.binOp BinOp.gtr 31 (tmp 72) (const (Value.int IntKind.u64 511)) 31
                        intro ax wx hE hR hF
                        have e66 : ax.eval (.tmp 66) = _ := hF 30 (det 66 _) (by decide) (mem4 (.tail _ (.tail _ (.head _))))
                        have e72 : ax.eval (.tmp 72) = _ := hF 36 (det 72 _) (by decide) (.head _)
                        refine ⟨e66, ?_⟩
                        simp [go_sem, BigFrame.eval_const, BigFrame.eval_global, BigFrame.eval_func, ↓IntWalk.iteOmega, ev e66, ev e72, hsub, hsub2, d4, dv, dvi, dw, dwi, dk, dkn]
                        with_reducible rfl
                      apply Build.detg 74 Ext.refl (by rfl) (by rfl) rfl rfl
                      case h =>   -- 38: t74 := Op.pick (tmp 66) (const (Value.bool true)) (tmp 73)
                        intro ax wx hE hR hF
                        have e58 : ax.eval (.tmp 58) = _ := hF 22 (det 58 _) (by decide) (mem4 (mem4 (mem4 (.tail _ (.tail _ (.tail _ (.head _)))))))
                        have e66 : ax.eval (.tmp 66) = _ := hF 30 (det 66 _) (by decide) (mem4 (.tail _ (.tail _ (.tail _ (.head _)))))
                        have e73 : ax.eval (.tmp 73) = _ := hF 37 (det 73 _) (by decide) (.head _)
                        refine ⟨e58, ?_⟩
                        simp [go_sem, BigFrame.eval_const, BigFrame.eval_global, BigFrame.eval_func, ↓IntWalk.iteOmega, ev e58, ev e66, ev e73, hsub, hsub2, d4, dv, dvi, dw, dwi, dk, dkn]
                        with_reducible rfl
                      apply Build.detg 75 Ext.refl (by rfl) (by rfl) rfl rfl
                      case h =>   -- 39: t75 := Op.pick (tmp 58) (tmp 74) (const (Value.bool false))
                        intro ax wx hE hR hF
                        have e54 : ax.eval (.tmp 54) = _ := hF 18 (det 54 _) (by decide) (mem16 (mem4 (.head _)))
                        have e58 : ax.eval (.tmp 58) = _ := hF 22 (det 58 _) (by decide) (mem16 (.head _))
                        have e74 : ax.eval (.tmp 74) = _ := hF 38 (det 74 _) (by decide) (.head _)
                        refine ⟨e54, ?_⟩
                        simp [go_sem, BigFrame.eval_const, BigFrame.eval_global, BigFrame.eval_func, ↓IntWalk.iteOmega, ev e54, ev e58, ev e74, hsub, hsub2, d4, dv, dvi, dw, dwi, dk, dkn]
                        with_reducible rfl
                      apply Build.det 76 Ext.refl (by rfl) (by rfl) rfl
                      case h =>   -- 40: t76 := Op.pick (tmp 54) (const (Value.bool true)) (tmp 75)
                        intro ax wx hE hR hF
                        have e54 : ax.eval (.tmp 54) = _ := hF 18 (det 54 _) (by decide) (mem16 (mem4 (.tail _ (.head _))))
                        have e75 : ax.eval (.tmp 75) = _ := hF 39 (det 75 _) (by decide) (.head _)
                        simp [go_sem, BigFrame.eval_const, BigFrame.eval_global, BigFrame.eval_func, ↓IntWalk.iteOmega, ev e54, ev e75, hsub, hsub2, d4, dv, dvi, dw, dwi, dk, dkn]
                        with_reducible rfl
                      apply Build.stop
                      refine ⟨by kernel_rfl, .inl ⟨rfl, ?_⟩⟩
                      intro ax w2 hE R2 hF
                      have e36 : ax.eval (.tmp 36) = _ := hF 0 (det 36 _) (mem16 (mem16 (mem4 (mem4 (.head _)))))
                      have e37 : ax.eval (.tmp 37) = _ := hF 1 (det 37 _) (mem16 (mem16 (mem4 (.tail _ (.tail _ (.tail _ (.head _)))))))
                      have e38 : ax.eval (.tmp 38) = _ := hF 2 (det 38 _) (mem16 (mem16 (mem4 (.tail _ (.tail _ (.head _))))))
                      have e39 : ax.eval (.tmp 39) = _ := hF 3 (det 39 _) (mem16 (mem16 (mem4 (.tail _ (.head _)))))
                      have e40 : ax.eval (.tmp 40) = _ := hF 4 (det 40 _) (mem16 (mem16 (mem4 (.head _))))
                      have e41 : ax.eval (.tmp 41) = _ := hF 5 (det 41 _) (mem16 (mem16 (.tail _ (.tail _ (.tail _ (.head _))))))
                      have e42 : ax.eval (.tmp 42) = _ := hF 6 (det 42 _) (mem16 (mem16 (.tail _ (.tail _ (.head _)))))
                      have e43 : ax.eval (.tmp 43) = _ := hF 7 (det 43 _) (mem16 (mem16 (.tail _ (.head _))))
                      have e44 : ax.eval (.tmp 44) = _ := hF 8 (det 44 _) (mem16 (mem16 (.head _)))
                      have e45 : ax.eval (.tmp 45) = _ := hF 9 (det 45 _) (mem16 (mem4 (mem4 (mem4 (.tail _ (.tail _ (.tail _ (.head _))))))))
                      have e46 : ax.eval (.tmp 46) = _ := hF 10 (det 46 _) (mem16 (mem4 (mem4 (mem4 (.tail _ (.tail _ (.head _)))))))
                      have e47 : ax.eval (.tmp 47) = _ := hF 11 (det 47 _) (mem16 (mem4 (mem4 (mem4 (.tail _ (.head _))))))
                      have e48 : ax.eval (.tmp 48) = _ := hF 12 (det 48 _) (mem16 (mem4 (mem4 (mem4 (.head _)))))
                      have e49 : ax.eval (.tmp 49) = _ := hF 13 (det 49 _) (mem16 (mem4 (mem4 (.tail _ (.tail _ (.tail _ (.head _)))))))
                      have e50 : ax.eval (.tmp 50) = _ := hF 14 (det 50 _) (mem16 (mem4 (mem4 (.tail _ (.tail _ (.head _))))))
                      have e51 : ax.eval (.tmp 51) = _ := hF 15 (det 51 _) (mem16 (mem4 (mem4 (.tail _ (.head _)))))
                      have e52 : ax.eval (.tmp 52) = _ := hF 16 (det 52 _) (mem16 (mem4 (mem4 (.head _))))
                      have e53 : ax.eval (.tmp 53) = _ := hF 17 (det 53 _) (mem16 (mem4 (.tail _ (.tail _ (.tail _ (.head _))))))
                      have e54 : ax.eval (.tmp 54) = _ := hF 18 (det 54 _) (mem16 (mem4 (.tail _ (.tail _ (.head _)))))
                      have e55 : ax.eval (.tmp 55) = _ := hF 19 (det 55 _) (mem16 (mem4 (.tail _ (.head _))))
                      have e56 : ax.eval (.tmp 56) = _ := hF 20 (det 56 _) (mem16 (mem4 (.head _)))
                      have e57 : ax.eval (.tmp 57) = _ := hF 21 (det 57 _) (mem16 (.tail _ (.tail _ (.tail _ (.head _)))))
                      have e58 : ax.eval (.tmp 58) = _ := hF 22 (det 58 _) (mem16 (.tail _ (.tail _ (.head _))))
                      have e59 : ax.eval (.tmp 59) = _ := hF 23 (det 59 _) (mem16 (.tail _ (.head _)))
                      have e60 : ax.eval (.tmp 60) = _ := hF 24 (det 60 _) (mem16 (.head _))
                      have e61 : ax.eval (.tmp 61) = _ := hF 25 (det 61 _) (mem4 (mem4 (mem4 (.tail _ (.tail _ (.tail _ (.head _)))))))
                      have e62 : ax.eval (.tmp 62) = _ := hF 26 (det 62 _) (mem4 (mem4 (mem4 (.tail _ (.tail _ (.head _))))))
                      have e63 : ax.eval (.tmp 63) = _ := hF 27 (det 63 _) (mem4 (mem4 (mem4 (.tail _ (.head _)))))
                      have e64 : ax.eval (.tmp 64) = _ := hF 28 (det 64 _) (mem4 (mem4 (mem4 (.head _))))
                      have e65 : ax.eval (.tmp 65) = _ := hF 29 (det 65 _) (mem4 (mem4 (.tail _ (.tail _ (.tail _ (.head _))))))
                      have e66 : ax.eval (.tmp 66) = _ := hF 30 (det 66 _) (mem4 (mem4 (.tail _ (.tail _ (.head _)))))
                      have e67 : ax.eval (.tmp 67) = _ := hF 31 (det 67 _) (mem4 (mem4 (.tail _ (.head _))))
                      have e68 : ax.eval (.tmp 68) = _ := hF 32 (det 68 _) (mem4 (mem4 (.head _)))
                      have e69 : ax.eval (.tmp 69) = _ := hF 33 (det 69 _) (mem4 (.tail _ (.tail _ (.tail _ (.head _)))))
                      have e70 : ax.eval (.tmp 70) = _ := hF 34 (det 70 _) (mem4 (.tail _ (.tail _ (.head _))))
                      have e71 : ax.eval (.tmp 71) = _ := hF 35 (det 71 _) (mem4 (.tail _ (.head _)))
                      have e72 : ax.eval (.tmp 72) = _ := hF 36 (det 72 _) (mem4 (.head _))
                      have e73 : ax.eval (.tmp 73) = _ := hF 37 (det 73 _) (.tail _ (.tail _ (.tail _ (.head _))))
                      have e74 : ax.eval (.tmp 74) = _ := hF 38 (det 74 _) (.tail _ (.tail _ (.head _)))
                      have e75 : ax.eval (.tmp 75) = _ := hF 39 (det 75 _) (.tail _ (.head _))
                      have e76 : ax.eval (.tmp 76) = _ := hF 40 (det 76 _) (.head _)
                      rw [AllEq.frame (D := [36, 37, 38, 39, 40, 41, 42, 43, 44, 45, 46, 47, 48, 49, 50, 51, 52, 53, 54, 55, 56, 57, 58, 59, 60, 61, 62, 63, 64, 65, 66, 67, 68, 69, 70, 71, 72, 73, 74, 75, 76]) (AllEq.cons e36 (AllEq.cons e37 (AllEq.cons e38 (AllEq.cons e39 (AllEq.cons e40 (AllEq.cons e41 (AllEq.cons e42 (AllEq.cons e43 (AllEq.cons e44 (AllEq.cons e45 (AllEq.cons e46 (AllEq.cons e47 (AllEq.cons e48 (AllEq.cons e49 (AllEq.cons e50 (AllEq.cons e51 (AllEq.cons e52 (AllEq.cons e53 (AllEq.cons e54 (AllEq.cons e55 (AllEq.cons e56 (AllEq.cons e57 (AllEq.cons e58 (AllEq.cons e59 (AllEq.cons e60 (AllEq.cons e61 (AllEq.cons e62 (AllEq.cons e63 (AllEq.cons e64 (AllEq.cons e65 (AllEq.cons e66 (AllEq.cons e67 (AllEq.cons e68 (AllEq.cons e69 (AllEq.cons e70 (AllEq.cons e71 (AllEq.cons e72 (AllEq.cons e73 (AllEq.cons e74 (AllEq.cons e75 (AllEq.cons e76 (AllEq.nil)))))))))))))))))))))))))))))))))))))))))) hE rfl]
                      clear hF hE e36 e37 e38 e39 e40 e41 e42 e43 e44 e45 e46 e47 e48 e49 e50 e51 e52 e53 e54 e55 e56 e57 e58 e59 e60 e61 e62 e63 e64 e65 e66 e67 e68 e69 e70 e71 e72 e73 e74 e75 e76
                      simp only [List.foldl_cons, List.foldl_nil, Act.put, List.setIfInBounds_toArray, List.set_cons_succ, List.set_cons_zero]
                      have hEx := hEx.trans R2
                      go_wp2_with fail
                      go_roundw
                      case rel => exact ⟨_, by go_num, by omega, hEx, HS.out (HK.out.2 ⟨hk, .inr (HV.out.symm ▸ hff.out)⟩)⟩
                      case measure => simp [intOf]; omega
                · have dk : decide ((K1 : Int) ≤ (K0 : Int)) = true := by rw [decide_eq_true_iff]; omega
                  have dkn : decide (K1 ≤ K0) = true := by rw [decide_eq_true_iff]; omega
                  refine wp_typed (R := Ext) (w0 := wr) [[], [0], [0, 1], [0, 1, 2], [0, 1, 2, 3], [0, 1, 2], [0, 1, 2, 5], [0, 1, 2, 3, 4, 5, 6], [0, 1, 2, 3, 4, 5, 6, 7], [0, 1, 2, 3, 4, 5, 6, 7, 8], [0, 1, 2], [0, 1, 2, 10], [0, 1, 2], [0, 1, 2, 10, 11, 12], [0, 1, 2, 10, 11, 12, 13], [0, 1, 2, 10, 11, 12, 13, 14], [0, 1, 2, 3, 4, 5, 6, 7, 8, 9, 10, 11, 12, 13, 14, 15], [0, 1, 2, 3, 4, 5, 6, 7, 8, 9, 10, 11, 12, 13, 14, 15, 16], [0, 1, 2, 3, 4, 5, 6, 7, 8, 9, 10, 11, 12, 13, 14, 15, 16, 17], [0, 1, 2, 3, 4, 5, 6, 7, 8, 9, 10, 11, 12, 13, 14, 15, 16, 17, 18], [0, 1, 2, 3, 4, 5, 6, 7, 8, 9, 10, 11, 12, 13, 14, 15, 16, 17, 18, 19], [0, 1, 2, 3, 4, 5, 6, 7, 8, 9, 10, 11, 12, 13, 14, 15, 16, 17, 18, 19, 20], [0, 1, 2, 3, 4, 5, 6, 7, 8, 9, 10, 11, 12, 13, 14, 15, 16, 17, 18, 19, 20, 21], [0, 1, 2, 3, 4, 5, 6, 7, 8, 9, 10, 11, 12, 13, 14, 15, 16, 17, 18, 19, 20, 21, 22], [0, 1, 2, 3, 4, 5, 6, 7, 8, 9, 10, 11, 12, 13, 14, 15, 16, 17, 18, 19, 20, 21, 22, 23], [0, 1, 2, 3, 4, 5, 6, 7, 8, 9, 10, 11, 12, 13, 14, 15, 16, 17, 18, 19, 20, 21, 22], [0, 1, 2, 3, 4, 5, 6, 7, 8, 9, 10, 11, 12, 13, 14, 15, 16, 17, 18, 19, 20, 21, 22, 23, 24, 25], [0, 1, 2, 3, 4, 5, 6, 7, 8, 9, 10, 11, 12, 13, 14, 15, 16, 17, 18, 19, 20, 21, 22, 23, 24, 25, 26], [0, 1, 2, 3, 4, 5, 6, 7, 8, 9, 10, 11, 12, 13, 14, 15, 16, 17, 18, 19, 20, 21, 22, 23, 24, 25, 26, 27], [0, 1, 2, 3, 4, 5, 6, 7, 8, 9, 10, 11, 12, 13, 14, 15, 16, 17, 18, 19, 20, 21, 22, 23, 24, 25, 26, 27, 28], [0, 1, 2, 3, 4, 5, 6, 7, 8, 9, 10, 11, 12, 13, 14, 15, 16, 17, 18, 19, 20, 21, 22, 23, 24, 25, 26, 27, 28, 29], [0, 1, 2, 3, 4, 5, 6, 7, 8, 9, 10, 11, 12, 13, 14, 15, 16, 17, 18, 19, 20, 21, 22, 23, 24, 25, 26, 27, 28, 29, 30], [0, 1, 2, 3, 4, 5, 6, 7, 8, 9, 10, 11, 12, 13, 14, 15, 16, 17, 18, 19, 20, 21, 22, 23, 24, 25, 26, 27, 28, 29, 30, 31], [0, 1, 2, 3, 4, 5, 6, 7, 8, 9, 10, 11, 12, 13, 14, 15, 16, 17, 18, 19, 20, 21, 22, 23, 24, 25, 26, 27, 28, 29, 30], [0, 1, 2, 3, 4, 5, 6, 7, 8, 9, 10, 11, 12, 13, 14, 15, 16, 17, 18, 19, 20, 21, 22, 23, 24, 25, 26, 27, 28, 29, 30, 31, 32, 33], [0, 1, 2, 3, 4, 5, 6, 7, 8, 9, 10, 11, 12, 13, 14, 15, 16, 17, 18, 19, 20, 21, 22, 23, 24, 25, 26, 27, 28, 29, 30, 31, 32, 33, 34], [0, 1, 2, 3, 4, 5, 6, 7, 8, 9, 10, 11, 12, 13, 14, 15, 16, 17, 18, 19, 20, 21, 22, 23, 24, 25, 26, 27, 28, 29, 30, 31, 32, 33, 34, 35], [0, 1, 2, 3, 4, 5, 6, 7, 8, 9, 10, 11, 12, 13, 14, 15, 16, 17, 18, 19, 20, 21, 22, 23, 24, 25, 26, 27, 28, 29, 30, 31, 32, 33, 34, 35, 36], [0, 1, 2, 3, 4, 5, 6, 7, 8, 9, 10, 11, 12, 13, 14, 15, 16, 17, 18, 19, 20, 21, 22, 23, 24, 25, 26, 27, 28, 29, 30, 31, 32, 33, 34, 35, 36, 37], [0, 1, 2, 3, 4, 5, 6, 7, 8, 9, 10, 11, 12, 13, 14, 15, 16, 17, 18, 19, 20, 21, 22, 23, 24, 25, 26, 27, 28, 29, 30, 31, 32, 33, 34, 35, 36, 37, 38], [0, 1, 2, 3, 4, 5, 6, 7, 8, 9, 10, 11, 12, 13, 14, 15, 16, 17, 18, 19, 20, 21, 22, 23, 24, 25, 26, 27, 28, 29, 30, 31, 32, 33, 34, 35, 36, 37, 38, 39]] [36, 37, 38, 39, 40, 41, 42, 43, 44, 45, 46, 47, 48, 49, 50, 51, 52, 53, 54, 55, 56, 57, 58, 59, 60, 61, 62, 63, 64, 65, 66, 67, 68, 69, 70, 71, 72, 73, 74, 75, 76] Ext.refl (fun _ _ _ => Ext.trans) (Ext.drew _) (by kernel_rfl) ?_
                  apply Build.det 36 Ext.refl (by rfl) (by rfl) rfl
                  case h =>   -- 0: t36 := Op.move (tmp 3)
                    intro ax wx hE hR hF
                    have e3 : ax.eval (.tmp 3) = .int .i64 (((p + 1 : Nat) : Int)) := hE.eval 3 (by rfl) rfl
                    simp [go_sem, BigFrame.eval_const, BigFrame.eval_global, BigFrame.eval_func, ↓IntWalk.iteOmega, ev e3, hsub, hsub2, dk, dkn]
                    with_reducible rfl
                  apply Build.det 37 Ext.refl (by rfl) (by rfl) rfl
                  case h =>   -- 1: t37 := Op.binOp BinOp.gtr 3 (tmp 36) (const (Value.int IntKind.i64 0)) 3
                    intro ax wx hE hR hF
                    have e36 : ax.eval (.tmp 36) = _ := hF 0 (det 36 _) (by decide) (.head _)
                    simp [go_sem, BigFrame.eval_const, BigFrame.eval_global, BigFrame.eval_func, ↓IntWalk.iteOmega, ev e36, hsub, hsub2, dk, dkn]
                    with_reducible rfl
                  apply Build.det 38 Ext.refl (by rfl) (by rfl) rfl
                  case h =>   -- 2: t38 := Op.move (tmp 37)
                    intro ax wx hE hR hF
                    have e37 : ax.eval (.tmp 37) = _ := hF 1 (det 37 _) (by decide) (.head _)
                    simp [go_sem, BigFrame.eval_const, BigFrame.eval_global, BigFrame.eval_func, ↓IntWalk.iteOmega, ev e37, hsub, hsub2, dk, dkn]
                    with_reducible rfl
                  apply Build.detg 39 Ext.refl (by rfl) (by rfl) rfl rfl
                  case h =>   -- 3: t39 := Op.fieldAddr 60 (tmp 1) 1
                    intro ax wx hE hR hF
                    have e1 : ax.eval (.tmp 1) = .pointer (some ⟨w.heap.size, 0, none⟩) := hE.eval 1 (by rfl) rfl
                    have e38 : ax.eval (.tmp 38) = _ := hF 2 (det 38 _) (by decide) (.head _)
                    refine ⟨e38, ?_⟩
                    simp [go_sem, BigFrame.eval_const, BigFrame.eval_global, BigFrame.eval_func, ↓IntWalk.iteOmega, ev e1, ev e38, hsub, hsub2, dk, dkn]
                    with_reducible rfl
                  apply Build.detg 40 Ext.refl (by rfl) (by rfl) rfl rfl
                  case h =>   -- 4: t40 := Op.load 58 (tmp 39)
                    intro ax wx hE hR hF
                    have e38 : ax.eval (.tmp 38) = _ := hF 2 (det 38 _) (by decide) (.tail _ (.head _))
                    have e39 : ax.eval (.tmp 39) = _ := hF 3 (det 39 _) (by decide) (.head _)
                    have hX2 := HXX.out _ hR; have q0 := hX2.cell 0; have q1 := hX2.cell 1; have p0 := HP.out _ hR; have p1 := (HQ.out _ hR).1; have p2 := (HQ.out _ hR).2
                    refine ⟨e38, ?_⟩
                    simp [go_sem, BigFrame.eval_const, BigFrame.eval_global, BigFrame.eval_func, ↓IntWalk.iteOmega, ev e38, ev e39, hsub, hsub2, dk, dkn, q0, q1, p0, p1, p2]
                    with_reducible rfl
                  apply Build.detg 41 Ext.refl (by rfl) (by rfl) rfl rfl
                  case h =>   -- 5: t41 := Op.move (tmp 3)
                    intro ax wx hE hR hF
                    have e3 : ax.eval (.tmp 3) = .int .i64 (((p + 1 : Nat) : Int)) := hE.eval 3 (by rfl) rfl
                    have e38 : ax.eval (.tmp 38) = _ := hF 2 (det 38 _) (by decide) (.tail _ (.tail _ (.head _)))
                    refine ⟨e38, ?_⟩
                    simp [go_sem, BigFrame.eval_const, BigFrame.eval_global, BigFrame.eval_func, ↓IntWalk.iteOmega, ev e3, ev e38, hsub, hsub2, dk, dkn]
                    with_reducible rfl
                  apply Build.detg 42 Ext.refl (by rfl) (by rfl) rfl rfl
                  case h =>   -- 6: t42 := Op.binOp BinOp.sub 3 (tmp 41) (const (Value.int IntKind.i64 1)) 3
                    intro ax wx hE hR hF
                    have e38 : ax.eval (.tmp 38) = _ := hF 2 (det 38 _) (by decide) (.tail _ (.tail _ (.tail _ (.head _))))
                    have e41 : ax.eval (.tmp 41) = _ := hF 5 (det 41 _) (by decide) (.head _)
                    refine ⟨e38, ?_⟩
                    simp [go_sem, BigFrame.eval_const, BigFrame.eval_global, BigFrame.eval_func, ↓IntWalk.iteOmega, ev e38, ev e41, hsub, hsub2, dk, dkn]
                    with_reducible rfl
                  apply Build.detg 43 Ext.refl (by rfl) (by rfl) rfl rfl
                  case h =>   -- 7: t43 := Op.indexAddr 58 (tmp 40) (tmp 42)
                    intro ax wx hE hR hF
                    have e38 : ax.eval (.tmp 38) = _ := hF 2 (det 38 _) (by decide) (mem4 (.head _))
                    have e40 : ax.eval (.tmp 40) = _ := hF 4 (det 40 _) (by decide) (.tail _ (.tail _ (.head _)))
                    have e42 : ax.eval (.tmp 42) = _ := hF 6 (det 42 _) (by decide) (.head _)
                    refine ⟨e38, ?_⟩
                    simp [go_sem, BigFrame.eval_const, BigFrame.eval_global, BigFrame.eval_func, ↓IntWalk.iteOmega, ev e38, ev e40, ev e42, hsub, hsub2, dk, dkn]
                    with_reducible rfl
                  apply Build.detg 44 Ext.refl (by rfl) (by rfl) rfl rfl
                  case h =>   -- 8: t44 := Op.fieldAddr 72 (tmp 43) 0
                    intro ax wx hE hR hF
                    have e38 : ax.eval (.tmp 38) = _ := hF 2 (det 38 _) (by decide) (mem4 (.tail _ (.head _)))
                    have e43 : ax.eval (.tmp 43) = _ := hF 7 (det 43 _) (by decide) (.head _)
                    refine ⟨e38, ?_⟩
                    simp [go_sem, BigFrame.eval_const, BigFrame.eval_global, BigFrame.eval_func, ↓IntWalk.iteOmega, ev e38, ev e43, hsub, hsub2, dk, dkn]
                    with_reducible rfl
                  apply Build.detg 45 Ext.refl (by rfl) (by rfl) rfl rfl
                  case h =>   -- 9: t45 := Op.load 31 (tmp 44)
                    intro ax wx hE hR hF
                    have e38 : ax.eval (.tmp 38) = _ := hF 2 (det 38 _) (by decide) (mem4 (.tail _ (.tail _ (.head _))))
                    have e44 : ax.eval (.tmp 44) = _ := hF 8 (det 44 _) (by decide) (.head _)
                    have hX2 := HXX.out _ hR; have q0 := hX2.cell 0; have q1 := hX2.cell 1; have p0 := HP.out _ hR; have p1 := (HQ.out _ hR).1; have p2 := (HQ.out _ hR).2
                    refine ⟨e38, ?_⟩
                    simp [go_sem, BigFrame.eval_const, BigFrame.eval_global, BigFrame.eval_func, ↓IntWalk.iteOmega, ev e38, ev e44, hsub, hsub2, dk, dkn, q0, q1, p0, p1, p2]
                    with_reducible rfl
                  apply Build.detg 46 Ext.refl (by rfl) (by rfl) rfl rfl
                  case h =>   -- 10: t46 := Op.fieldAddr 60 (tmp 1) 1
                    intro ax wx hE hR hF
                    have e1 : ax.eval (.tmp 1) = .pointer (some ⟨w.heap.size, 0, none⟩) := hE.eval 1 (by rfl) rfl
                    have e38 : ax.eval (.tmp 38) = _ := hF 2 (det 38 _) (by decide) (mem4 (.tail _ (.tail _ (.tail _ (.head _)))))
                    refine ⟨e38, ?_⟩
                    simp [go_sem, BigFrame.eval_const, BigFrame.eval_global, BigFrame.eval_func, ↓IntWalk.iteOmega, ev e1, ev e38, hsub, hsub2, dk, dkn]
                    with_reducible rfl
                  apply Build.detg 47 Ext.refl (by rfl) (by rfl) rfl rfl
                  case h =>   -- 11: t47 := Op.load 58 (tmp 46)
                    intro ax wx hE hR hF
                    have e38 : ax.eval (.tmp 38) = _ := hF 2 (det 38 _) (by decide) (mem4 (mem4 (.head _)))
                    have e46 : ax.eval (.tmp 46) = _ := hF 10 (det 46 _) (by decide) (.head _)
                    have hX2 := HXX.out _ hR; have q0 := hX2.cell 0; have q1 := hX2.cell 1; have p0 := HP.out _ hR; have p1 := (HQ.out _ hR).1; have p2 := (HQ.out _ hR).2
                    refine ⟨e38, ?_⟩
                    simp [go_sem, BigFrame.eval_const, BigFrame.eval_global, BigFrame.eval_func, ↓IntWalk.iteOmega, ev e38, ev e46, hsub, hsub2, dk, dkn, q0, q1, p0, p1, p2]
                    with_reducible rfl
                  apply Build.detg 48 Ext.refl (by rfl) (by rfl) rfl rfl
                  case h =>   -- 12: t48 := Op.move (tmp 3)
                    intro ax wx hE hR hF
                    have e3 : ax.eval (.tmp 3) = .int .i64 (((p + 1 : Nat) : Int)) := hE.eval 3 (by rfl) rfl
                    have e38 : ax.eval (.tmp 38) = _ := hF 2 (det 38 _) (by decide) (mem4 (mem4 (.tail _ (.head _))))
                    refine ⟨e38, ?_⟩
                    simp [go_sem, BigFrame.eval_const, BigFrame.eval_global, BigFrame.eval_func, ↓IntWalk.iteOmega, ev e3, ev e38, hsub, hsub2, dk, dkn]
                    with_reducible rfl
                  apply Build.detg 49 Ext.refl (by rfl) (by rfl) rfl rfl
                  case h =>   -- 13: t49 := Op.indexAddr 58 (tmp 47) (tmp 48)
                    intro ax wx hE hR hF
                    have e38 : ax.eval (.tmp 38) = _ := hF 2 (det 38 _) (by decide) (mem4 (mem4 (.tail _ (.tail _ (.head _)))))
                    have e47 : ax.eval (.tmp 47) = _ := hF 11 (det 47 _) (by decide) (.tail _ (.head _))
                    have e48 : ax.eval (.tmp 48) = _ := hF 12 (det 48 _) (by decide) (.head _)
                    refine ⟨e38, ?_⟩
                    simp [go_sem, BigFrame.eval_const, BigFrame.eval_global, BigFrame.eval_func, ↓IntWalk.iteOmega, ev e38, ev e47, ev e48, hsub, hsub2, dk, dkn]
                    with_reducible rfl
                  apply Build.detg 50 Ext.refl (by rfl) (by rfl) rfl rfl
                  case h =>   -- 14: t50 := Op.fieldAddr 72 (tmp 49) 0
                    intro ax wx hE hR hF
                    have e38 : ax.eval (.tmp 38) = _ := hF 2 (det 38 _) (by decide) (mem4 (mem4 (.tail _ (.tail _ (.tail _ (.head _))))))
                    have e49 : ax.eval (.tmp 49) = _ := hF 13 (det 49 _) (by decide) (.head _)
                    refine ⟨e38, ?_⟩
                    simp [go_sem, BigFrame.eval_const, BigFrame.eval_global, BigFrame.eval_func, ↓IntWalk.iteOmega, ev e38, ev e49, hsub, hsub2, dk, dkn]
                    with_reducible rfl
                  apply Build.detg 51 Ext.refl (by rfl) (by rfl) rfl rfl
                  case h =>   -- 15: t51 := Op.load 31 (tmp 50)
                    intro ax wx hE hR hF
                    have e38 : ax.eval (.tmp 38) = _ := hF 2 (det 38 _) (by decide) (mem4 (mem4 (mem4 (.head _))))
                    have e50 : ax.eval (.tmp 50) = _ := hF 14 (det 50 _) (by decide) (.head _)
                    have hX2 := HXX.out _ hR; have q0 := hX2.cell 0; have q1 := hX2.cell 1; have p0 := HP.out _ hR; have p1 := (HQ.out _ hR).1; have p2 := (HQ.out _ hR).2
                    refine ⟨e38, ?_⟩
                    simp [go_sem, BigFrame.eval_const, BigFrame.eval_global, BigFrame.eval_func, ↓IntWalk.iteOmega, ev e38, ev e50, hsub, hsub2, dk, dkn, q0, q1, p0, p1, p2]
                    with_reducible rfl
                  apply Build.detg 52 Ext.refl (by rfl) (by rfl) rfl rfl
                  case h =>   -- 16: t52 := Op.binOp BinOp.geq 31 (tmp 45) (tmp 51) 31
                    intro ax wx hE hR hF
                    have e38 : ax.eval (.tmp 38) = _ := hF 2 (det 38 _) (by decide) (mem4 (mem4 (mem4 (.tail _ (.head _)))))
                    have e45 : ax.eval (.tmp 45) = _ := hF 9 (det 45 _) (by decide) (mem4 (.tail _ (.tail _ (.head _))))
                    have e51 : ax.eval (.tmp 51) = _ := hF 15 (det 51 _) (by decide) (.head _)
                    refine ⟨e38, ?_⟩
                    simp [go_sem, BigFrame.eval_const, BigFrame.eval_global, BigFrame.eval_func, ↓IntWalk.iteOmega, ev e38, ev e45, ev e51, hsub, hsub2, dk, dkn]
                    with_reducible rfl
                  apply Build.det 53 Ext.refl (by rfl) (by rfl) rfl
                  case h =>   -- 17: t53 := Op.pick (tmp 38) (tmp 52) (const (Value.bool false))
                    intro ax wx hE hR hF
                    have e38 : ax.eval (.tmp 38) = _ := hF 2 (det 38 _) (by decide) (mem4 (mem4 (mem4 (.tail _ (.tail _ (.head _))))))
                    have e52 : ax.eval (.tmp 52) = _ := hF 16 (det 52 _) (by decide) (.head _)
                    simp [go_sem, BigFrame.eval_const, BigFrame.eval_global, BigFrame.eval_func, ↓IntWalk.iteOmega, ev e38, ev e52, hsub, hsub2, dk, dkn]
                    with_reducible rfl
                  apply Build.det 54 Ext.refl (by rfl) (by rfl) rfl
                  case h =>   -- 18: t54 := Op.move (tmp 53)
                    intro ax wx hE hR hF
                    have e53 : ax.eval (.tmp 53) = _ := hF 17 (det 53 _) (by decide) (.head _)
                    simp [go_sem, BigFrame.eval_const, BigFrame.eval_global, BigFrame.eval_func, ↓IntWalk.iteOmega, ev e53, hsub, hsub2, dk, dkn]
                    with_reducible rfl
                  refine Build.skip 55 (by rfl) (by rfl) rfl rfl ?_ ?_
                  · intro ax wx hE hR hF
                    have e54 : ax.eval (.tmp 54) = _ := hF 18 (det 54 _) (by decide) (.head _)
                    exact e54
                  refine Build.skip 56 (by rfl) (by rfl) rfl rfl ?_ ?_
                  · intro ax wx hE hR hF
                    have e54 : ax.eval (.tmp 54) = _ := hF 18 (det 54 _) (by decide) (.tail _ (.head _))
                    exact e54
                  refine Build.skip 57 (by rfl) (by rfl) rfl rfl ?_ ?_
                  · intro ax wx hE hR hF
                    have e54 : ax.eval (.tmp 54) = _ := hF 18 (det 54 _) (by decide) (.tail _ (.tail _ (.head _)))
                    exact e54
                  refine Build.skip 58 (by rfl) (by rfl) rfl rfl ?_ ?_
                  · intro ax wx hE hR hF
                    have e54 : ax.eval (.tmp 54) = _ := hF 18 (det 54 _) (by decide) (.tail _ (.tail _ (.tail _ (.head _))))
                    exact e54
                  refine Build.skipu 59 (by rfl) (by rfl) rfl rfl ?_ ?_
                  · intro ax wx hE hR hF
                    have e58 : ax.eval (.tmp 58) = _ := hF 22 (det 58 _) (by decide) (.head _)
                    exact e58
                  refine Build.skipu 60 (by rfl) (by rfl) rfl rfl ?_ ?_
                  · intro ax wx hE hR hF
                    have e58 : ax.eval (.tmp 58) = _ := hF 22 (det 58 _) (by decide) (.tail _ (.head _))
                    exact e58
                  refine Build.skipu 61 (by rfl) (by rfl) rfl rfl ?_ ?_
                  · intro ax wx hE hR hF
                    have e58 : ax.eval (.tmp 58) = _ := hF 22 (det 58 _) (by decide) (.tail _ (.tail _ (.head _)))
                    exact e58
                  refine Build.skipu 62 (by rfl) (by rfl) rfl rfl ?_ ?_
                  · intro ax wx hE hR hF
                    have e58 : ax.eval (.tmp 58) = _ := hF 22 (det 58 _) (by decide) (.tail _ (.tail _ (.tail _ (.head _))))
                    exact e58
                  refine Build.skipu 63 (by rfl) (by rfl) rfl rfl ?_ ?_
                  · intro ax wx hE hR hF
                    have e58 : ax.eval (.tmp 58) = _ := hF 22 (det 58 _) (by decide) (mem4 (.head _))
                    exact e58
                  refine Build.skipu 64 (by rfl) (by rfl) rfl rfl ?_ ?_
                  · intro ax wx hE hR hF
                    have e58 : ax.eval (.tmp 58) = _ := hF 22 (det 58 _) (by decide) (mem4 (.tail _ (.head _)))
                    exact e58
                  refine Build.skipu 65 (by rfl) (by rfl) rfl rfl ?_ ?_
                  · intro ax wx hE hR hF
                    have e58 : ax.eval (.tmp 58) = _ := hF 22 (det 58 _) (by decide) (mem4 (.tail _ (.tail _ (.head _))))
                    exact e58
                  refine Build.skipu 66 (by rfl) (by rfl) rfl rfl ?_ ?_
                  · intro ax wx hE hR hF
                    have e58 : ax.eval (.tmp 58) = _ := hF 22 (det 58 _) (by decide) (mem4 (.tail _ (.tail _ (.tail _ (.head _)))))
                    exact e58
                  refine Build.skipu 67 (by rfl) (by rfl) rfl rfl ?_ ?_
                  · intro ax wx hE hR hF
                    have e66 : ax.eval (.tmp 66) = _ := hF 30 (det 66 _) (by decide) (.head _)
                    exact e66
                  refine Build.skipu 68 (by rfl) (by rfl) rfl rfl ?_ ?_
                  · intro ax wx hE hR hF
                    have e66 : ax.eval (.tmp 66) = _ := hF 30 (det 66 _) (by decide) (.tail _ (.head _))
                    exact e66
                  refine Build.skipu 69 (by rfl) (by rfl) rfl rfl ?_ ?_
                  · intro ax wx hE hR hF
                    have e66 : ax.eval (.tmp 66) = _ := hF 30 (det 66 _) (by decide) (.tail _ (.tail _ (.head _)))
                    exact e66
                  refine Build.skipu 70 (by rfl) (by rfl) rfl rfl ?_ ?_
                  · intro ax wx hE hR hF
                    have e66 : ax.eval (.tmp 66) = _ := hF 30 (det 66 _) (by decide) (.tail _ (.tail _ (.tail _ (.head _))))
                    exact e66
                  refine Build.skipu 71 (by rfl) (by rfl) rfl rfl ?_ ?_
                  · intro ax wx hE hR hF
                    have e66 : ax.eval (.tmp 66) = _ := hF 30 (det 66 _) (by decide) (mem4 (.head _))
                    exact e66
                  refine Build.skipu 72 (by rfl) (by rfl) rfl rfl ?_ ?_
                  · intro ax wx hE hR hF
                    have e66 : ax.eval (.tmp 66) = _ := hF 30 (det 66 _) (by decide) (mem4 (.tail _ (.head _)))
                    exact e66
                  refine Build.skipu 73 (by rfl) (by rfl) rfl rfl ?_ ?_
                  · intro ax wx hE hR hF
                    have e66 : ax.eval (.tmp 66) = _ := hF 30 (det 66 _) (by decide) (mem4 (.tail _ (.tail _ (.head _))))
                    exact e66
                  refine Build.skipu 74 (by rfl) (by rfl) rfl rfl ?_ ?_
                  · intro ax wx hE hR hF
                    have e58 : ax.eval (.tmp 58) = _ := hF 22 (det 58 _) (by decide) (mem4 (mem4 (mem4 (.tail _ (.tail _ (.tail _ (.head _)))))))
                    exact e58
                  refine Build.skip 75 (by rfl) (by rfl) rfl rfl ?_ ?_
                  · intro ax wx hE hR hF
                    have e54 : ax.eval (.tmp 54) = _ := hF 18 (det 54 _) (by decide) (mem16 (mem4 (.head _)))
                    exact e54
                  apply Build.det 76 Ext.refl (by rfl) (by rfl) rfl
                  case h =>   -- 40: t76 := Op.pick (tmp 54) (const (Value.bool true)) (tmp 75)
                    intro ax wx hE hR hF
                    have e54 : ax.eval (.tmp 54) = _ := hF 18 (det 54 _) (by decide) (mem16 (mem4 (.tail _ (.head _))))
                    have e75 : ax.eval (.tmp 75) = _ := hF 39 (det 75 _) (by decide) (.head _)
                    simp [go_sem, BigFrame.eval_const, BigFrame.eval_global, BigFrame.eval_func, ↓IntWalk.iteOmega, ev e54, ev e75, hsub, hsub2, dk, dkn]
                    with_reducible rfl
                  apply Build.stop
                  refine ⟨by kernel_rfl, .inl ⟨rfl, ?_⟩⟩
                  intro ax w2 hE R2 hF
                  have e36 : ax.eval (.tmp 36) = _ := hF 0 (det 36 _) (mem16 (mem16 (mem4 (mem4 (.head _)))))
                  have e37 : ax.eval (.tmp 37) = _ := hF 1 (det 37 _) (mem16 (mem16 (mem4 (.tail _ (.tail _ (.tail _ (.head _)))))))
                  have e38 : ax.eval (.tmp 38) = _ := hF 2 (det 38 _) (mem16 (mem16 (mem4 (.tail _ (.tail _ (.head _))))))
                  have e39 : ax.eval (.tmp 39) = _ := hF 3 (det 39 _) (mem16 (mem16 (mem4 (.tail _ (.head _)))))
                  have e40 : ax.eval (.tmp 40) = _ := hF 4 (det 40 _) (mem16 (mem16 (mem4 (.head _))))
                  have e41 : ax.eval (.tmp 41) = _ := hF 5 (det 41 _) (mem16 (mem16 (.tail _ (.tail _ (.tail _ (.head _))))))
                  have e42 : ax.eval (.tmp 42) = _ := hF 6 (det 42 _) (mem16 (mem16 (.tail _ (.tail _ (.head _)))))
                  have e43 : ax.eval (.tmp 43) = _ := hF 7 (det 43 _) (mem16 (mem16 (.tail _ (.head _))))
                  have e44 : ax.eval (.tmp 44) = _ := hF 8 (det 44 _) (mem16 (mem16 (.head _)))
                  have e45 : ax.eval (.tmp 45) = _ := hF 9 (det 45 _) (mem16 (mem4 (mem4 (mem4 (.tail _ (.tail _ (.tail _ (.head _))))))))
                  have e46 : ax.eval (.tmp 46) = _ := hF 10 (det 46 _) (mem16 (mem4 (mem4 (mem4 (.tail _ (.tail _ (.head _)))))))
                  have e47 : ax.eval (.tmp 47) = _ := hF 11 (det 47 _) (mem16 (mem4 (mem4 (mem4 (.tail _ (.head _))))))
                  have e48 : ax.eval (.tmp 48) = _ := hF 12 (det 48 _) (mem16 (mem4 (mem4 (mem4 (.head _)))))
                  have e49 : ax.eval (.tmp 49) = _ := hF 13 (det 49 _) (mem16 (mem4 (mem4 (.tail _ (.tail _ (.tail _ (.head _)))))))
                  have e50 : ax.eval (.tmp 50) = _ := hF 14 (det 50 _) (mem16 (mem4 (mem4 (.tail _ (.tail _ (.head _))))))
                  have e51 : ax.eval (.tmp 51) = _ := hF 15 (det 51 _) (mem16 (mem4 (mem4 (.tail _ (.head _)))))
                  have e52 : ax.eval (.tmp 52) = _ := hF 16 (det 52 _) (mem16 (mem4 (mem4 (.head _))))
                  have e53 : ax.eval (.tmp 53) = _ := hF 17 (det 53 _) (mem16 (mem4 (.tail _ (.tail _ (.tail _ (.head _))))))
                  have e54 : ax.eval (.tmp 54) = _ := hF 18 (det 54 _) (mem16 (mem4 (.tail _ (.tail _ (.head _)))))
                  have e55 : ax.eval (.tmp 55) = _ := hF 19 (det 55 _) (mem16 (mem4 (.tail _ (.head _))))
                  have e56 : ax.eval (.tmp 56) = _ := hF 20 (det 56 _) (mem16 (mem4 (.head _)))
                  have e57 : ax.eval (.tmp 57) = _ := hF 21 (det 57 _) (mem16 (.tail _ (.tail _ (.tail _ (.head _)))))
                  have e58 : ax.eval (.tmp 58) = _ := hF 22 (det 58 _) (mem16 (.tail _ (.tail _ (.head _))))
                  have e59 : ax.eval (.tmp 59) = _ := hF 23 (det 59 _) (mem16 (.tail _ (.head _)))
                  have e60 : ax.eval (.tmp 60) = _ := hF 24 (det 60 _) (mem16 (.head _))
                  have e61 : ax.eval (.tmp 61) = _ := hF 25 (det 61 _) (mem4 (mem4 (mem4 (.tail _ (.tail _ (.tail _ (.head _)))))))
                  have e62 : ax.eval (.tmp 62) = _ := hF 26 (det 62 _) (mem4 (mem4 (mem4 (.tail _ (.tail _ (.head _))))))
                  have e63 : ax.eval (.tmp 63) = _ := hF 27 (det 63 _) (mem4 (mem4 (mem4 (.tail _ (.head _)))))
                  have e64 : ax.eval (.tmp 64) = _ := hF 28 (det 64 _) (mem4 (mem4 (mem4 (.head _))))
                  have e65 : ax.eval (.tmp 65) = _ := hF 29 (det 65 _) (mem4 (mem4 (.tail _ (.tail _ (.tail _ (.head _))))))
                  have e66 : ax.eval (.tmp 66) = _ := hF 30 (det 66 _) (mem4 (mem4 (.tail _ (.tail _ (.head _)))))
                  have e67 : ax.eval (.tmp 67) = _ := hF 31 (det 67 _) (mem4 (mem4 (.tail _ (.head _))))
                  have e68 : ax.eval (.tmp 68) = _ := hF 32 (det 68 _) (mem4 (mem4 (.head _)))
                  have e69 : ax.eval (.tmp 69) = _ := hF 33 (det 69 _) (mem4 (.tail _ (.tail _ (.tail _ (.head _)))))
                  have e70 : ax.eval (.tmp 70) = _ := hF 34 (det 70 _) (mem4 (.tail _ (.tail _ (.head _))))
                  have e71 : ax.eval (.tmp 71) = _ := hF 35 (det 71 _) (mem4 (.tail _ (.head _)))
                  have e72 : ax.eval (.tmp 72) = _ := hF 36 (det 72 _) (mem4 (.head _))
                  have e73 : ax.eval (.tmp 73) = _ := hF 37 (det 73 _) (.tail _ (.tail _ (.tail _ (.head _))))
                  have e74 : ax.eval (.tmp 74) = _ := hF 38 (det 74 _) (.tail _ (.tail _ (.head _)))
                  have e75 : ax.eval (.tmp 75) = _ := hF 39 (det 75 _) (.tail _ (.head _))
                  have e76 : ax.eval (.tmp 76) = _ := hF 40 (det 76 _) (.head _)
                  rw [AllEq.frame (D := [36, 37, 38, 39, 40, 41, 42, 43, 44, 45, 46, 47, 48, 49, 50, 51, 52, 53, 54, 55, 56, 57, 58, 59, 60, 61, 62, 63, 64, 65, 66, 67, 68, 69, 70, 71, 72, 73, 74, 75, 76]) (AllEq.cons e36 (AllEq.cons e37 (AllEq.cons e38 (AllEq.cons e39 (AllEq.cons e40 (AllEq.cons e41 (AllEq.cons e42 (AllEq.cons e43 (AllEq.cons e44 (AllEq.cons e45 (AllEq.cons e46 (AllEq.cons e47 (AllEq.cons e48 (AllEq.cons e49 (AllEq.cons e50 (AllEq.cons e51 (AllEq.cons e52 (AllEq.cons e53 (AllEq.cons e54 (AllEq.cons e55 (AllEq.cons e56 (AllEq.cons e57 (AllEq.cons e58 (AllEq.cons e59 (AllEq.cons e60 (AllEq.cons e61 (AllEq.cons e62 (AllEq.cons e63 (AllEq.cons e64 (AllEq.cons e65 (AllEq.cons e66 (AllEq.cons e67 (AllEq.cons e68 (AllEq.cons e69 (AllEq.cons e70 (AllEq.cons e71 (AllEq.cons e72 (AllEq.cons e73 (AllEq.cons e74 (AllEq.cons e75 (AllEq.cons e76 (AllEq.nil)))))))))))))))))))))))))))))))))))))))))) hE rfl]
                  clear hF hE e36 e37 e38 e39 e40 e41 e42 e43 e44 e45 e46 e47 e48 e49 e50 e51 e52 e53 e54 e55 e56 e57 e58 e59 e60 e61 e62 e63 e64 e65 e66 e67 e68 e69 e70 e71 e72 e73 e74 e75 e76
                  simp only [List.foldl_cons, List.foldl_nil, Act.put, List.setIfInBounds_toArray, List.set_cons_succ, List.set_cons_zero]
                  have hEx := hEx.trans R2
                  have hG : Hid (GB = false) := HB.out (fun h => hk (HK.out.1 h).1)
                  go_wp2_with fail
                  go_ret
                  exact ⟨by rw [hG.out] <;> rfl, HE.out.trans hEx⟩
            · obtain rfl : j = len := by omega
              have hG : Hid (GB = true) := HG.out.2 ⟨by omega, by omega, HJ.out⟩
              go_wp2_with fail
              go_ret
              exact ⟨by rw [hG.out] <;> rfl, HE.out.trans hEx⟩
theorem rgood_any (lv : Int) (A : Option Addr) (len cap : Nat) (xs : List (Nat × Nat)) (w : World) (hlen : xs.length = len) (hm : len ≤ 1000000) (hrow : Row w A 2 pairC xs) (hx : ∀ x ∈ xs, x.1 < 18446744073709551616) :
    Calls Tryd.prog 28 #[.agg #[.int .i64 lv, .slice A len cap]] w fun e w' => e = .returned (.bool (goodB lv xs)) ∧ Ext w w' := by
  by_cases h : 0 < lv
  · exact rgood_p lv h A len cap xs w hlen hm hrow hx
  · exact rgood_n lv h A len cap xs w hlen hm hrow hx
end Go.Proofs.YtencbdcfcpohaaaDoor
