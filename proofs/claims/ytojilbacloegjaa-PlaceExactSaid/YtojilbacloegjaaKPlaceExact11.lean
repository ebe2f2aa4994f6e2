/- PlaceExact: every place and pair, and all places of tiers, are the document's. -/
import Derived.Test.YtojilbacloegjaaKPlaceExact10
import Derived.Deep.RegionHeld3
namespace Go.Proofs.Ytojilbacloegjaa
set_option linter.unusedVariables false
set_option linter.unusedSimpArgs false
open Go.RowKit

theorem info_i14 : (Try.prog.info? 3).map (fun i => (i.zero, i.size, i.bytes)) = some (some (.int .i64 0), 1, 8) := by kernel_rfl
theorem info_s14 : (Try.prog.info? 23).map (fun i => (i.zero, i.size, i.bytes)) = some (some (.agg #[.int .i64 0, .int .i64 0]), 2, 16) := by kernel_rfl
theorem pread_back (c t s : Int) (w : World) (h : GoodPl c t s) :
    Calls Try.prog 10 #[pairV (8589934592 + c) (t + 256 * s)] w fun e w' => e = .returned (.tuple #[placeV c t s, .bool true]) ∧ Ext w w' := by
  obtain ⟨h0, h1, h2, h3, h4⟩ := id h
  have e1 : (8589934592 + c) % 4294967296 = c := by omega
  have e2 : (t + 256 * s) % 256 = t := by omega
  have e3 : (t + 256 * s) / 256 = s := by omega
  have := pread_yes (8589934592 + c) (t + 256 * s) w (by omega) (by omega) (by omega) (by omega) ⟨by rw [e1, e2, e3]; exact h, by rw [e1]⟩
  rwa [e1, e2, e3] at this
set_option maxRecDepth 100000 in
set_option maxHeartbeats 8000000 in
theorem placeExact_yes (c t s k v s0 s1 : Int) (A : Option Addr) (len cap : Nat) (L : List PlD) (w : World) (hg : GoodPl c t s) (h0 : 0 ≤ k) (h1 : k ≤ 18446744073709551615) (h2 : 0 ≤ v) (h3 : v ≤ 18446744073709551615)
    (hlen : L.length = len) (hm : len ≤ maxLen) (hx : ∀ x ∈ L, wfP x) (hrow : Row w A 3 plC L) :
    Calls Try.prog 3 #[placeV c t s, pairV k v, .slice A len cap, .agg #[.int .i64 s0, .int .i64 s1]] w fun e w' => e = .returned (.bool true) ∧ Ext w w' := by
  have Hg := Lib.hid hg
  clear hg
  unfold maxLen at hm
  go_enter Try.func3, Try.ntmps3
  go_wp2_with fail
  refine (awake14 _).mono ?_
  rintro e w1 ⟨rfl, hb1⟩
  have O1 := (((((Own.start w).new 25 #[.int .i64 c, .int .i64 t, .int .i64 s]).new 28 #[.int .u64 k, .int .u64 v]).new 30 #[.int .i64 s0, .int .i64 s1]).ext hb1)
  simp only [World.size_alloc] at O1
  have hEA := O1.below
  clear hb1
  obtain ⟨-, -, B1, -⟩ := O1.all
  have q0 := B1.cell 0
  have q1 := B1.cell 1
  have q2 := B1.cell 2
  simp at q0 q1 q2
  clear B1
  by_cases hlen20 : len ≤ 20
  case neg =>
    go_wp2_with fail
    go_ret
    exact ⟨rfl, hEA⟩
  go_wp2_with fail
  refine (ppair_yes _ _ _ _ Hg.out).mono ?_
  rintro e w2 ⟨rfl, hb2⟩
  have O2 := (O1.ext hb2).new 28 #[.int .u64 (8589934592 + c), .int .u64 (t + 256 * s)]
  clear O1 hb2 hEA q0 q1 q2
  obtain ⟨B2, -, -, B1, -⟩ := O2.all
  have q0 := B1.cell 0
  have q1 := B1.cell 1
  have q2 := B1.cell 2
  have p0 := B2.cell 0
  have p1 := B2.cell 1
  simp at q0 q1 q2 p0 p1
  clear B1 B2
  have CR := rcan_any c t s
  rw [placeB_yes Hg.out] at CR
  have HCR := Lib.hid CR
  clear CR
  go_wp2_with fail
  refine (HCR.out _).mono ?_
  rintro e w3 ⟨rfl, hb3⟩
  have O3 := O2.ext hb3
  clear O2 hb3 q0 q1 q2 p0 p1
  obtain ⟨B2, -, -, B1, -⟩ := O3.all
  have q0 := B1.cell 0
  have q1 := B1.cell 1
  have q2 := B1.cell 2
  have p0 := B2.cell 0
  have p1 := B2.cell 1
  simp at q0 q1 q2 p0 p1
  clear B1 B2
  go_wp2_with fail
  refine (pread_back _ _ _ _ Hg.out).mono ?_
  rintro e w4 ⟨rfl, hb4⟩
  have O4 := (O3.ext hb4).new 25 #[.int .i64 c, .int .i64 t, .int .i64 s]
  clear O3 hb4 q0 q1 q2 p0 p1
  go_upto_region 8 with fail
  have O5 := O4
  generalize w2.heap.size = g2 at O5 ⊢
  generalize w4.heap.size = g4 at O5 ⊢
  clear O4
  generalize w4.alloc (.cells #[.int .i64 c, .int .i64 t, .int .i64 s] 25) = w5 at O5 ⊢
  have CP := rppair_yes c t s
  have HCP := Lib.hid (fun W => CP W Hg.out)
  clear CP
  refine wp_typed (R := Ext) (w0 := w5) [[], [0], [0, 1], [0, 1, 2], [0, 1, 2], [0, 1, 2, 4], [0, 1, 2], [0, 1, 2, 6], [0, 1, 2, 4, 5, 6, 7], [0, 1, 2, 3, 4, 5, 6, 7, 8], [0, 1, 2, 3, 4, 5, 6, 7, 8, 9], [0, 1, 2, 3, 4, 5, 6, 7, 8, 9, 10], [0, 1, 2, 3, 4, 5, 6, 7, 8, 9, 10, 11], [0, 1, 2, 3, 4, 5, 6, 7, 8, 9, 10, 11, 12], [0, 1, 2, 3, 4, 5, 6, 7, 8, 9, 10, 11, 12, 13], [0, 1, 2, 3, 4, 5, 6, 7, 8, 9, 10, 11, 12, 13, 14], [0, 1, 2, 3, 4, 5, 6, 7, 8, 9, 10, 11, 12, 13, 14, 15], [0, 1, 2, 3, 4, 5, 6, 7, 8, 9, 10, 11, 12, 13, 14, 15], [0, 1, 2, 3, 4, 5, 6, 7, 8, 9, 10, 11, 12, 13, 14, 15, 16, 17], [0, 1, 2, 3, 4, 5, 6, 7, 8, 9, 10, 11, 12, 13, 14, 15, 16, 17, 18]] [41, 42, 43, 44, 45, 46, 47, 48, 49, 50, 51, 52, 53, 54, 55, 56, 57, 58, 59, 60] Ext.refl (fun _ _ _ => Ext.trans) (Ext.drew _) (by kernel_rfl) ?_
  apply Build.det 41 Ext.refl (by rfl) (by rfl) rfl
  case h =>   -- 0: t41 := Op.move (tmp 10)
    intro ax wx hE hR hF
    have e10 : ax.eval (.tmp 10) = .int .i64 0 := hE.eval 10 (by rfl) rfl
    simp [go_sem, BigFrame.eval_const, BigFrame.eval_global, BigFrame.eval_func, ↓IntWalk.iteOmega, ev e10]
    with_reducible rfl
  apply Build.det 42 Ext.refl (by rfl) (by rfl) rfl
  case h =>   -- 1: t42 := Op.binOp BinOp.neq 32 (tmp 41) (const (Value.int IntKind.i64 0)) 32
    intro ax wx hE hR hF
    have e41 : ax.eval (.tmp 41) = _ := hF 0 (det 41 _) (by decide) (.head _)
    simp [go_sem, BigFrame.eval_const, BigFrame.eval_global, BigFrame.eval_func, ↓IntWalk.iteOmega, ev e41]
    with_reducible rfl
  apply Build.det 43 Ext.refl (by rfl) (by rfl) rfl
  case h =>   -- 2: t43 := Op.move (tmp 42)
    intro ax wx hE hR hF
    have e42 : ax.eval (.tmp 42) = _ := hF 1 (det 42 _) (by decide) (.head _)
    simp [go_sem, BigFrame.eval_const, BigFrame.eval_global, BigFrame.eval_func, ↓IntWalk.iteOmega, ev e42]
    with_reducible rfl
  apply Build.detg 44 Ext.refl (by rfl) (by rfl) rfl rfl
  case h =>   -- 3: t44 := Op.load 28 (tmp 9)
    intro ax wx hE hR hF
    have e9 : ax.eval (.tmp 9) = .pointer (some ⟨g2, 0, none⟩) := hE.eval 9 (by rfl) rfl
    have e43 : ax.eval (.tmp 43) = _ := hF 2 (det 43 _) (by decide) (.head _)
    obtain ⟨B3, B2, -, -, B1, -⟩ := (O5.ext hR).all; have q0 := B1.cell 0; have q1 := B1.cell 1; have q2 := B1.cell 2; have p0 := B2.cell 0; have p1 := B2.cell 1; have r0 := B3.cell 0; have r1 := B3.cell 1; have r2 := B3.cell 2; simp at q0 q1 q2 p0 p1 r0 r1 r2
    refine ⟨e43, ?_⟩
    simp [go_sem, BigFrame.eval_const, BigFrame.eval_global, BigFrame.eval_func, ↓IntWalk.iteOmega, ev e9, ev e43, q0, q1, q2, p0, p1, r0, r1, r2]
    with_reducible rfl
  apply Build.detg 45 Ext.refl (by rfl) (by rfl) rfl rfl
  case h =>   -- 4: t45 := Op.fieldAddr 25 (tmp 4) 0
    intro ax wx hE hR hF
    have e4 : ax.eval (.tmp 4) = .pointer (some ⟨w.heap.size, 0, none⟩) := hE.eval 4 (by rfl) rfl
    have e43 : ax.eval (.tmp 43) = _ := hF 2 (det 43 _) (by decide) (.tail _ (.head _))
    refine ⟨e43, ?_⟩
    simp [go_sem, BigFrame.eval_const, BigFrame.eval_global, BigFrame.eval_func, ↓IntWalk.iteOmega, ev e4, ev e43]
    with_reducible rfl
  apply Build.detg 46 Ext.refl (by rfl) (by rfl) rfl rfl
  case h =>   -- 5: t46 := Op.load 3 (tmp 45)
    intro ax wx hE hR hF
    have e43 : ax.eval (.tmp 43) = _ := hF 2 (det 43 _) (by decide) (.tail _ (.tail _ (.head _)))
    have e45 : ax.eval (.tmp 45) = _ := hF 4 (det 45 _) (by decide) (.head _)
    obtain ⟨B3, B2, -, -, B1, -⟩ := (O5.ext hR).all; have q0 := B1.cell 0; have q1 := B1.cell 1; have q2 := B1.cell 2; have p0 := B2.cell 0; have p1 := B2.cell 1; have r0 := B3.cell 0; have r1 := B3.cell 1; have r2 := B3.cell 2; simp at q0 q1 q2 p0 p1 r0 r1 r2
    refine ⟨e43, ?_⟩
    simp [go_sem, BigFrame.eval_const, BigFrame.eval_global, BigFrame.eval_func, ↓IntWalk.iteOmega, ev e43, ev e45, q0, q1, q2, p0, p1, r0, r1, r2]
    with_reducible rfl
  apply Build.detg 47 Ext.refl (by rfl) (by rfl) rfl rfl
  case h =>   -- 6: t47 := Op.fieldAddr 25 (tmp 4) 1
    intro ax wx hE hR hF
    have e4 : ax.eval (.tmp 4) = .pointer (some ⟨w.heap.size, 0, none⟩) := hE.eval 4 (by rfl) rfl
    have e43 : ax.eval (.tmp 43) = _ := hF 2 (det 43 _) (by decide) (.tail _ (.tail _ (.tail _ (.head _))))
    refine ⟨e43, ?_⟩
    simp [go_sem, BigFrame.eval_const, BigFrame.eval_global, BigFrame.eval_func, ↓IntWalk.iteOmega, ev e4, ev e43]
    with_reducible rfl
  apply Build.detg 48 Ext.refl (by rfl) (by rfl) rfl rfl
  case h =>   -- 7: t48 := Op.load 23 (tmp 47)
    intro ax wx hE hR hF
    have e43 : ax.eval (.tmp 43) = _ := hF 2 (det 43 _) (by decide) (.tail _ (.tail _ (.tail _ (.tail _ (.head _)))))
    have e47 : ax.eval (.tmp 47) = _ := hF 6 (det 47 _) (by decide) (.head _)
    obtain ⟨B3, B2, -, -, B1, -⟩ := (O5.ext hR).all; have q0 := B1.cell 0; have q1 := B1.cell 1; have q2 := B1.cell 2; have p0 := B2.cell 0; have p1 := B2.cell 1; have r0 := B3.cell 0; have r1 := B3.cell 1; have r2 := B3.cell 2; simp at q0 q1 q2 p0 p1 r0 r1 r2
    refine ⟨e43, ?_⟩
    simp [go_sem, BigFrame.eval_const, BigFrame.eval_global, BigFrame.eval_func, ↓IntWalk.iteOmega, ev e43, ev e47, q0, q1, q2, p0, p1, r0, r1, r2]
    with_reducible rfl
  apply Build.callg 49 Ext.refl (by rfl) (by rfl) rfl rfl
  case h =>
    intro ax wx hE hR hF
    have e43 : ax.eval (.tmp 43) = _ := hF 2 (det 43 _) (by decide) (.tail _ (.tail _ (.tail _ (.tail _ (.tail _ (.head _))))))
    have e46 : ax.eval (.tmp 46) = _ := hF 5 (det 46 _) (by decide) (.tail _ (.tail _ (.head _)))
    have e48 : ax.eval (.tmp 48) = _ := hF 7 (det 48 _) (by decide) (.head _)
    refine ⟨e43, ?_⟩
    simp [go_sem, BigFrame.eval_const, BigFrame.eval_global, BigFrame.eval_func, ↓IntWalk.iteOmega, ev e43, ev e46, ev e48]
    with_reducible exact ⟨rfl, rfl⟩
  case hc => intro wx hR; with_reducible exact HCP.out wx
  apply Build.detg 50 Ext.refl (by rfl) (by rfl) rfl rfl
  case h =>   -- 9: t50 := Op.binOp BinOp.neq 28 (tmp 44) (tmp 49) 28
    intro ax wx hE hR hF
    have e43 : ax.eval (.tmp 43) = _ := hF 2 (det 43 _) (by decide) (.tail _ (.tail _ (.tail _ (.tail _ (.tail _ (.tail _ (.head _)))))))
    have e44 : ax.eval (.tmp 44) = _ := hF 3 (det 44 _) (by decide) (.tail _ (.tail _ (.tail _ (.tail _ (.tail _ (.head _))))))
    have e49 : ax.eval (.tmp 49) = _ := hF 8 (det 49 _) (by decide) (.head _)
    refine ⟨e43, ?_⟩
    simp [go_sem, BigFrame.eval_const, BigFrame.eval_global, BigFrame.eval_func, ↓IntWalk.iteOmega, ev e43, ev e44, ev e49]
    with_reducible rfl
  apply Build.det 51 Ext.refl (by rfl) (by rfl) rfl
  case h =>   -- 10: t51 := Op.pick (tmp 43) (const (Value.bool true)) (tmp 50)
    intro ax wx hE hR hF
    have e43 : ax.eval (.tmp 43) = _ := hF 2 (det 43 _) (by decide) (.tail _ (.tail _ (.tail _ (.tail _ (.tail _ (.tail _ (.tail _ (.head _))))))))
    have e50 : ax.eval (.tmp 50) = _ := hF 9 (det 50 _) (by decide) (.head _)
    simp [go_sem, BigFrame.eval_const, BigFrame.eval_global, BigFrame.eval_func, ↓IntWalk.iteOmega, ev e43, ev e50]
    with_reducible rfl
  apply Build.det 52 Ext.refl (by rfl) (by rfl) rfl
  case h =>   -- 11: t52 := Op.move (tmp 51)
    intro ax wx hE hR hF
    have e51 : ax.eval (.tmp 51) = _ := hF 10 (det 51 _) (by decide) (.head _)
    simp [go_sem, BigFrame.eval_const, BigFrame.eval_global, BigFrame.eval_func, ↓IntWalk.iteOmega, ev e51]
    with_reducible rfl
  apply Build.detg 53 Ext.refl (by rfl) (by rfl) rfl rfl
  case h =>   -- 12: t53 := Op.move (tmp 12)
    intro ax wx hE hR hF
    have e12 : ax.eval (.tmp 12) = .bool true := hE.eval 12 (by rfl) rfl
    have e52 : ax.eval (.tmp 52) = _ := hF 11 (det 52 _) (by decide) (.head _)
    refine ⟨e52, ?_⟩
    simp [go_sem, BigFrame.eval_const, BigFrame.eval_global, BigFrame.eval_func, ↓IntWalk.iteOmega, ev e12, ev e52]
    with_reducible rfl
  apply Build.detg 54 Ext.refl (by rfl) (by rfl) rfl rfl
  case h =>   -- 13: t54 := Op.unOp UnOp.not 4 (tmp 53)
    intro ax wx hE hR hF
    have e52 : ax.eval (.tmp 52) = _ := hF 11 (det 52 _) (by decide) (.tail _ (.head _))
    have e53 : ax.eval (.tmp 53) = _ := hF 12 (det 53 _) (by decide) (.head _)
    refine ⟨e52, ?_⟩
    simp [go_sem, BigFrame.eval_const, BigFrame.eval_global, BigFrame.eval_func, ↓IntWalk.iteOmega, ev e52, ev e53]
    with_reducible rfl
  apply Build.det 55 Ext.refl (by rfl) (by rfl) rfl
  case h =>   -- 14: t55 := Op.pick (tmp 52) (const (Value.bool true)) (tmp 54)
    intro ax wx hE hR hF
    have e52 : ax.eval (.tmp 52) = _ := hF 11 (det 52 _) (by decide) (.tail _ (.tail _ (.head _)))
    have e54 : ax.eval (.tmp 54) = _ := hF 13 (det 54 _) (by decide) (.head _)
    simp [go_sem, BigFrame.eval_const, BigFrame.eval_global, BigFrame.eval_func, ↓IntWalk.iteOmega, ev e52, ev e54]
    with_reducible rfl
  apply Build.det 56 Ext.refl (by rfl) (by rfl) rfl
  case h =>   -- 15: t56 := Op.move (tmp 55)
    intro ax wx hE hR hF
    have e55 : ax.eval (.tmp 55) = _ := hF 14 (det 55 _) (by decide) (.head _)
    simp [go_sem, BigFrame.eval_const, BigFrame.eval_global, BigFrame.eval_func, ↓IntWalk.iteOmega, ev e55]
    with_reducible rfl
  apply Build.detg 57 Ext.refl (by rfl) (by rfl) rfl rfl
  case h =>   -- 16: t57 := Op.load 25 (tmp 11)
    intro ax wx hE hR hF
    have e11 : ax.eval (.tmp 11) = .pointer (some ⟨g4, 0, none⟩) := hE.eval 11 (by rfl) rfl
    have e56 : ax.eval (.tmp 56) = _ := hF 15 (det 56 _) (by decide) (.head _)
    obtain ⟨B3, B2, -, -, B1, -⟩ := (O5.ext hR).all; have q0 := B1.cell 0; have q1 := B1.cell 1; have q2 := B1.cell 2; have p0 := B2.cell 0; have p1 := B2.cell 1; have r0 := B3.cell 0; have r1 := B3.cell 1; have r2 := B3.cell 2; simp at q0 q1 q2 p0 p1 r0 r1 r2
    refine ⟨e56, ?_⟩
    simp [go_sem, BigFrame.eval_const, BigFrame.eval_global, BigFrame.eval_func, ↓IntWalk.iteOmega, ev e11, ev e56, q0, q1, q2, p0, p1, r0, r1, r2]
    with_reducible rfl
  apply Build.detg 58 Ext.refl (by rfl) (by rfl) rfl rfl
  case h =>   -- 17: t58 := Op.load 25 (tmp 4)
    intro ax wx hE hR hF
    have e4 : ax.eval (.tmp 4) = .pointer (some ⟨w.heap.size, 0, none⟩) := hE.eval 4 (by rfl) rfl
    have e56 : ax.eval (.tmp 56) = _ := hF 15 (det 56 _) (by decide) (.tail _ (.head _))
    obtain ⟨B3, B2, -, -, B1, -⟩ := (O5.ext hR).all; have q0 := B1.cell 0; have q1 := B1.cell 1; have q2 := B1.cell 2; have p0 := B2.cell 0; have p1 := B2.cell 1; have r0 := B3.cell 0; have r1 := B3.cell 1; have r2 := B3.cell 2; simp at q0 q1 q2 p0 p1 r0 r1 r2
    refine ⟨e56, ?_⟩
    simp [go_sem, BigFrame.eval_const, BigFrame.eval_global, BigFrame.eval_func, ↓IntWalk.iteOmega, ev e4, ev e56, q0, q1, q2, p0, p1, r0, r1, r2]
    with_reducible rfl
  apply Build.detg 59 Ext.refl (by rfl) (by rfl) rfl rfl
  case h =>   -- 18: t59 := Op.binOp BinOp.neq 25 (tmp 57) (tmp 58) 25
    intro ax wx hE hR hF
    have e56 : ax.eval (.tmp 56) = _ := hF 15 (det 56 _) (by decide) (.tail _ (.tail _ (.head _)))
    have e57 : ax.eval (.tmp 57) = _ := hF 16 (det 57 _) (by decide) (.tail _ (.head _))
    have e58 : ax.eval (.tmp 58) = _ := hF 17 (det 58 _) (by decide) (.head _)
    refine ⟨e56, ?_⟩
    simp [go_sem, BigFrame.eval_const, BigFrame.eval_global, BigFrame.eval_func, ↓IntWalk.iteOmega, ev e56, ev e57, ev e58]
    with_reducible rfl
  apply Build.det 60 Ext.refl (by rfl) (by rfl) rfl
  case h =>   -- 19: t60 := Op.pick (tmp 56) (const (Value.bool true)) (tmp 59)
    intro ax wx hE hR hF
    have e56 : ax.eval (.tmp 56) = _ := hF 15 (det 56 _) (by decide) (.tail _ (.tail _ (.tail _ (.head _))))
    have e59 : ax.eval (.tmp 59) = _ := hF 18 (det 59 _) (by decide) (.head _)
    simp [go_sem, BigFrame.eval_const, BigFrame.eval_global, BigFrame.eval_func, ↓IntWalk.iteOmega, ev e56, ev e59]
    with_reducible rfl
  apply Build.stop
  refine ⟨by kernel_rfl, .inl ⟨rfl, ?_⟩⟩
  intro ax wt hE R5 hF
  have e41 : ax.eval (.tmp 41) = _ := hF 0 (det 41 _) (.tail _ (.tail _ (.tail _ (.tail _ (.tail _ (.tail _ (.tail _ (.tail _ (.tail _ (.tail _ (.tail _ (.tail _ (.tail _ (.tail _ (.tail _ (.tail _ (.tail _ (.tail _ (.tail _ (.head _))))))))))))))))))))
  have e42 : ax.eval (.tmp 42) = _ := hF 1 (det 42 _) (.tail _ (.tail _ (.tail _ (.tail _ (.tail _ (.tail _ (.tail _ (.tail _ (.tail _ (.tail _ (.tail _ (.tail _ (.tail _ (.tail _ (.tail _ (.tail _ (.tail _ (.tail _ (.head _)))))))))))))))))))
  have e43 : ax.eval (.tmp 43) = _ := hF 2 (det 43 _) (.tail _ (.tail _ (.tail _ (.tail _ (.tail _ (.tail _ (.tail _ (.tail _ (.tail _ (.tail _ (.tail _ (.tail _ (.tail _ (.tail _ (.tail _ (.tail _ (.tail _ (.head _))))))))))))))))))
  have e44 : ax.eval (.tmp 44) = _ := hF 3 (det 44 _) (.tail _ (.tail _ (.tail _ (.tail _ (.tail _ (.tail _ (.tail _ (.tail _ (.tail _ (.tail _ (.tail _ (.tail _ (.tail _ (.tail _ (.tail _ (.tail _ (.head _)))))))))))))))))
  have e45 : ax.eval (.tmp 45) = _ := hF 4 (det 45 _) (.tail _ (.tail _ (.tail _ (.tail _ (.tail _ (.tail _ (.tail _ (.tail _ (.tail _ (.tail _ (.tail _ (.tail _ (.tail _ (.tail _ (.tail _ (.head _))))))))))))))))
  have e46 : ax.eval (.tmp 46) = _ := hF 5 (det 46 _) (.tail _ (.tail _ (.tail _ (.tail _ (.tail _ (.tail _ (.tail _ (.tail _ (.tail _ (.tail _ (.tail _ (.tail _ (.tail _ (.tail _ (.head _)))))))))))))))
  have e47 : ax.eval (.tmp 47) = _ := hF 6 (det 47 _) (.tail _ (.tail _ (.tail _ (.tail _ (.tail _ (.tail _ (.tail _ (.tail _ (.tail _ (.tail _ (.tail _ (.tail _ (.tail _ (.head _))))))))))))))
  have e48 : ax.eval (.tmp 48) = _ := hF 7 (det 48 _) (.tail _ (.tail _ (.tail _ (.tail _ (.tail _ (.tail _ (.tail _ (.tail _ (.tail _ (.tail _ (.tail _ (.tail _ (.head _)))))))))))))
  have e49 : ax.eval (.tmp 49) = _ := hF 8 (det 49 _) (.tail _ (.tail _ (.tail _ (.tail _ (.tail _ (.tail _ (.tail _ (.tail _ (.tail _ (.tail _ (.tail _ (.head _))))))))))))
  have e50 : ax.eval (.tmp 50) = _ := hF 9 (det 50 _) (.tail _ (.tail _ (.tail _ (.tail _ (.tail _ (.tail _ (.tail _ (.tail _ (.tail _ (.tail _ (.head _)))))))))))
  have e51 : ax.eval (.tmp 51) = _ := hF 10 (det 51 _) (.tail _ (.tail _ (.tail _ (.tail _ (.tail _ (.tail _ (.tail _ (.tail _ (.tail _ (.head _))))))))))
  have e52 : ax.eval (.tmp 52) = _ := hF 11 (det 52 _) (.tail _ (.tail _ (.tail _ (.tail _ (.tail _ (.tail _ (.tail _ (.tail _ (.head _)))))))))
  have e53 : ax.eval (.tmp 53) = _ := hF 12 (det 53 _) (.tail _ (.tail _ (.tail _ (.tail _ (.tail _ (.tail _ (.tail _ (.head _))))))))
  have e54 : ax.eval (.tmp 54) = _ := hF 13 (det 54 _) (.tail _ (.tail _ (.tail _ (.tail _ (.tail _ (.tail _ (.head _)))))))
  have e55 : ax.eval (.tmp 55) = _ := hF 14 (det 55 _) (.tail _ (.tail _ (.tail _ (.tail _ (.tail _ (.head _))))))
  have e56 : ax.eval (.tmp 56) = _ := hF 15 (det 56 _) (.tail _ (.tail _ (.tail _ (.tail _ (.head _)))))
  have e57 : ax.eval (.tmp 57) = _ := hF 16 (det 57 _) (.tail _ (.tail _ (.tail _ (.head _))))
  have e58 : ax.eval (.tmp 58) = _ := hF 17 (det 58 _) (.tail _ (.tail _ (.head _)))
  have e59 : ax.eval (.tmp 59) = _ := hF 18 (det 59 _) (.tail _ (.head _))
  have e60 : ax.eval (.tmp 60) = _ := hF 19 (det 60 _) (.head _)
  rw [AllEq.frame (D := [41, 42, 43, 44, 45, 46, 47, 48, 49, 50, 51, 52, 53, 54, 55, 56, 57, 58, 59, 60]) (AllEq.cons e41 (AllEq.cons e42 (AllEq.cons e43 (AllEq.cons e44 (AllEq.cons e45 (AllEq.cons e46 (AllEq.cons e47 (AllEq.cons e48 (AllEq.cons e49 (AllEq.cons e50 (AllEq.cons e51 (AllEq.cons e52 (AllEq.cons e53 (AllEq.cons e54 (AllEq.cons e55 (AllEq.cons e56 (AllEq.cons e57 (AllEq.cons e58 (AllEq.cons e59 (AllEq.cons e60 (AllEq.nil))))))))))))))))))))) hE rfl]
  clear hF hE e41 e42 e43 e44 e45 e46 e47 e48 e49 e50 e51 e52 e53 e54 e55 e56 e57 e58 e59 e60
  simp only [List.foldl_cons, List.foldl_nil, Act.put, List.setIfInBounds_toArray, List.set_cons_succ, List.set_cons_zero]
  have OT := ((O5.ext R5).tail).tail
  clear O5 R5
  obtain ⟨-, B5, -, -⟩ := OT.all
  have p0 := B5.cell 0
  have p1 := B5.cell 1
  simp at p0 p1
  clear B5
  obtain ⟨c', t', s', b', HR1, HR2⟩ := both_places k v h0 h1 h2 h3
  have HRA := Lib.hid HR1
  have HRB := Lib.hid HR2
  clear h0 h1 h2 h3 HR1 HR2
  go_wp2_with fail
  refine (HRA.out _).mono ?_
  rintro e w6 ⟨rfl, hb6⟩
  have O6 := (OT.ext hb6).new 25 #[.int .i64 c', .int .i64 t', .int .i64 s']
  clear OT hb6 p0 p1
  obtain ⟨-, -, B5, -, -⟩ := O6.all
  have p0 := B5.cell 0
  have p1 := B5.cell 1
  simp at p0 p1
  clear B5
  go_wp2_with fail
  refine (HRB.out _).mono ?_
  rintro e w7 ⟨rfl, hb7⟩
  have O7 := (O6.ext hb7).new 23 #[.int .i64 t', .int .i64 s']
  clear O6 hb7 p0 p1
  obtain ⟨B9, B8, -, -, -, -⟩ := O7.all
  have p0 := B9.cell 0
  have p1 := B9.cell 1
  have q0 := B8.cell 0
  have q1 := B8.cell 1
  have q2 := B8.cell 2
  simp at p0 p1 q0 q1 q2
  clear B8 B9
  go_upto_region 18 with fail
  clear p0 p1 q0 q1 q2 HRA HRB
  have T0 := TRow.start O7.tail.tail 3 23 1 2
  simp only [World.size_alloc] at T0
  obtain ⟨i0, hi0, hz0, hz1, hz2⟩ := info_parts info_i14
  obtain ⟨i1, hi1, hy0, hy1, hy2⟩ := info_parts info_s14
  clear O7
  go_upto_region 19 with fail
  have hxl : L.length ≤ 20 := by omega
  go_loopw [18, 19, 20] (fun v1 v2 i wr => ∃ (j : Nat) (B1 B2 : Option Addr) (cap1 cap2 : Nat), j ≤ len ∧ i = .int .i64 j ∧ v1 = .slice B1 j cap1 ∧ v2 = .slice B2 j cap2 ∧ TRow w.heap.size w [(w.heap.size + 1 + 1, 30, #[Value.int .i64 s0, Value.int .i64 s1]), (w.heap.size + 1, 28, #[Value.int .u64 k, Value.int .u64 v]), (w.heap.size, 25, #[Value.int .i64 c, Value.int .i64 t, Value.int .i64 s])] 3 1 (.slice B1 j cap1) j ((L.take j).flatMap pcC) 23 2 (.slice B2 j cap2) j ((L.take j).flatMap psC) wr) (fun _ _ i _ => len - (intOf i).toNat)
  case atStart => exact ⟨0, _, _, _, _, by omega, rfl, rfl, rfl, T0⟩
  case round =>
    obtain ⟨j, B1, B2, cap1, cap2, hj, rfl, rfl, rfl, T⟩ := hrel
    clear T0
    have hExT := T.one.own.below
    by_cases hlt : j < len
    · have hjx : j < L.length := by omega
      obtain ⟨b0, o0, rfl, hlt0⟩ := hrow.p_in hExT hjx
      have HPR := Lib.hid (fun (W : World) (h : Below w.heap.size w W) => hrow.p_at h hjx)
      have q0 := (hrow.p_at hExT hjx).1
      have hf1 : (L.take (j + 1)).flatMap pcC = (L.take j).flatMap pcC ++ [.int .i64 (cAt L j)] := by
        rw [List.take_add_one, List.getElem?_eq_getElem hjx, List.flatMap_append]
        simp [pcC, cAt, List.getD, hjx]
      have hf2 : (L.take (j + 1)).flatMap psC = (L.take j).flatMap psC ++ [.int .i64 (tAt L j), .int .i64 (sAt L j)] := by
        rw [List.take_add_one, List.getElem?_eq_getElem hjx, List.flatMap_append]
        simp [psC, tAt, sAt, List.getD, hjx]
      have HF1 := Lib.hid hf1
      have HF2 := Lib.hid hf2
      clear hf1 hf2
      have hjm : j + 1 ≤ maxLen := by unfold maxLen; omega
      have hj8 : (j + 1) * 8 ≤ 140737488355328 := by omega
      have hj16 : (j + 1) * 16 ≤ 140737488355328 := by omega
      have TA := T.ext (Ext.alloc wr (.cells #[.int .i64 (cAt L j)] 3))
      have HT := Lib.hid TA
      clear T TA
      go_wp2_with (first
        | (at_builtin; refine TRow.append HT.out rfl _ _ _ rfl i0 _ 8 Try.underlying41 hi0 hz0 hz1 hz2 rfl (by decide) rfl wr.heap.size 1 1 [.int .i64 (cAt L j)] rfl 3 (Blk.new _ _ _) rfl (by simp [Value.oneCell']) hjm hj8 ?_; intro v8 w8 T8; clear HT; obtain ⟨B1', cap1', rfl⟩ := T8.one.slice; have r1 := (HPR.out w8 T8.one.own.below).2; obtain ⟨r1, r2⟩ := r1; have TB := T8.swap.ext (Ext.alloc w8 (.cells #[.int .i64 (tAt L j), .int .i64 (sAt L j)] 23)); have HTB := Lib.hid TB; clear T8 TB q0)
        | (at_builtin; refine TRow.append HTB.out rfl _ _ _ rfl i1 _ 16 Try.underlying42 hi1 hy0 hy1 hy2 rfl (by decide) rfl w8.heap.size 1 1 [.int .i64 (tAt L j), .int .i64 (sAt L j)] rfl 23 (Blk.new _ _ _) rfl (by simp [Value.oneCell']) hjm hj16 ?_; intro v9 w9 T9; clear HTB; obtain ⟨B2', cap2', rfl⟩ := T9.one.slice; have HT9 := Lib.hid T9.swap; clear T9 r1 r2))
      go_roundw
      case rel => exact ⟨j + 1, _, _, _, _, by omega, by go_num, rfl, rfl, by rw [HF1.out, HF2.out]; exact HT9.out⟩
      case measure => simp [intOf]; omega
    · obtain rfl : j = len := by omega
      clear hi0 hz0 hz1 hz2 hi1 hy0 hy1 hy2
      rw [List.take_of_length_le (by omega)] at T
      obtain ⟨C1, cc1, he1, hcc1, hcm1, hr1⟩ := T.one.rows (fun _ => rfl) hlen
      obtain ⟨C2, cc2, he2, hcc2, hcm2, hr2⟩ := T.two.rows (fun _ => rfl) hlen
      cases he1
      cases he2
      have hgx : ∀ x ∈ L, wfP x := hx
      have CG := fun (W : World) (h : Ext wr W) => pgood_any A j cap L s0 s1 W hlen (by omega) (hrow.below (Below.trans hExT (h.mono T.one.own.size))) hgx
      have CH := fun (W : World) (h : Ext wr W) => rpgood_any B1 B2 j cap1 cap2 L s0 s1 W hlen (by omega) (hr1.below h) (hr2.below h) hgx
      obtain ⟨G, hG⟩ : ∃ G, goodPls L s0 s1 = G := ⟨_, rfl⟩
      rw [hG] at CG CH
      have HCG := Lib.hid CG
      have HCH := Lib.hid CH
      have OF := T.one.own
      clear CG CH hG T hr1 hr2 hcc1 hcm1 hcc2 hcm2 hgx hx
      go_upto_region 23 with fail
      refine wp_typed (R := Ext) (w0 := wr) [[], [], [0, 1], [], [], [], [0, 1, 2, 3, 4, 5], [0, 1, 2, 3, 4, 5, 6], [0, 1, 2, 3, 4, 5, 6, 7]] [113, 114, 115, 116, 117, 118, 119, 120, 8] Ext.refl (fun _ _ _ => Ext.trans) (Ext.drew _) (by kernel_rfl) ?_
      apply Build.det 113 Ext.refl (by rfl) (by rfl) rfl
      case h =>   -- 0: t113 := Op.move (tmp 2)
        intro ax wx hE hR hF
        have e2 : ax.eval (.tmp 2) = .slice A j cap := hE.eval 2 (by rfl) rfl
        simp [go_sem, BigFrame.eval_const, BigFrame.eval_global, BigFrame.eval_func, ↓IntWalk.iteOmega, ev e2]
        with_reducible rfl
      apply Build.det 114 Ext.refl (by rfl) (by rfl) rfl
      case h =>   -- 1: t114 := Op.load 30 (tmp 7)
        intro ax wx hE hR hF
        have e7 : ax.eval (.tmp 7) = .pointer (some ⟨w.heap.size + 1 + 1, 0, none⟩) := hE.eval 7 (by rfl) rfl
        obtain ⟨B1x, -, -, -⟩ := (OF.ext hR).all; have q0 := B1x.cell 0; have q1 := B1x.cell 1; simp at q0 q1
        simp [go_sem, BigFrame.eval_const, BigFrame.eval_global, BigFrame.eval_func, ↓IntWalk.iteOmega, ev e7, q0, q1]
        with_reducible rfl
      apply Build.call 115 Ext.refl (by rfl) (by rfl) rfl
      case h =>
        intro ax wx hE hR hF
        have e113 : ax.eval (.tmp 113) = _ := hF 0 (det 113 _) (by decide) (.tail _ (.head _))
        have e114 : ax.eval (.tmp 114) = _ := hF 1 (det 114 _) (by decide) (.head _)
        simp [go_sem, BigFrame.eval_const, BigFrame.eval_global, BigFrame.eval_func, ↓IntWalk.iteOmega, ev e113, ev e114]
        with_reducible exact ⟨rfl, rfl⟩
      case hc => intro wx hR; with_reducible exact HCG.out wx hR
      apply Build.det 116 Ext.refl (by rfl) (by rfl) rfl
      case h =>   -- 3: t116 := Op.move (tmp 18)
        intro ax wx hE hR hF
        have e18 : ax.eval (.tmp 18) = .slice B1 j cap1 := hE.eval 18 (by rfl) rfl
        simp [go_sem, BigFrame.eval_const, BigFrame.eval_global, BigFrame.eval_func, ↓IntWalk.iteOmega, ev e18]
        with_reducible rfl
      apply Build.det 117 Ext.refl (by rfl) (by rfl) rfl
      case h =>   -- 4: t117 := Op.move (tmp 19)
        intro ax wx hE hR hF
        have e19 : ax.eval (.tmp 19) = .slice B2 j cap2 := hE.eval 19 (by rfl) rfl
        simp [go_sem, BigFrame.eval_const, BigFrame.eval_global, BigFrame.eval_func, ↓IntWalk.iteOmega, ev e19]
        with_reducible rfl
      apply Build.det 118 Ext.refl (by rfl) (by rfl) rfl
      case h =>   -- 5: t118 := Op.load 30 (tmp 7)
        intro ax wx hE hR hF
        have e7 : ax.eval (.tmp 7) = .pointer (some ⟨w.heap.size + 1 + 1, 0, none⟩) := hE.eval 7 (by rfl) rfl
        obtain ⟨B1x, -, -, -⟩ := (OF.ext hR).all; have q0 := B1x.cell 0; have q1 := B1x.cell 1; simp at q0 q1
        simp [go_sem, BigFrame.eval_const, BigFrame.eval_global, BigFrame.eval_func, ↓IntWalk.iteOmega, ev e7, q0, q1]
        with_reducible rfl
      apply Build.call 119 Ext.refl (by rfl) (by rfl) rfl
      case h =>
        intro ax wx hE hR hF
        have e116 : ax.eval (.tmp 116) = _ := hF 3 (det 116 _) (by decide) (.tail _ (.tail _ (.head _)))
        have e117 : ax.eval (.tmp 117) = _ := hF 4 (det 117 _) (by decide) (.tail _ (.head _))
        have e118 : ax.eval (.tmp 118) = _ := hF 5 (det 118 _) (by decide) (.head _)
        simp [go_sem, BigFrame.eval_const, BigFrame.eval_global, BigFrame.eval_func, ↓IntWalk.iteOmega, ev e116, ev e117, ev e118]
        with_reducible exact ⟨rfl, rfl⟩
      case hc => intro wx hR; with_reducible exact HCH.out wx hR
      apply Build.det 120 Ext.refl (by rfl) (by rfl) rfl
      case h =>   -- 7: t120 := Op.binOp BinOp.eql 4 (tmp 115) (tmp 119) 4
        intro ax wx hE hR hF
        have e115 : ax.eval (.tmp 115) = _ := hF 2 (det 115 _) (by decide) (.tail _ (.tail _ (.tail _ (.tail _ (.head _)))))
        have e119 : ax.eval (.tmp 119) = _ := hF 6 (det 119 _) (by decide) (.head _)
        simp [go_sem, BigFrame.eval_const, BigFrame.eval_global, BigFrame.eval_func, ↓IntWalk.iteOmega, ev e115, ev e119]
        with_reducible rfl
      apply Build.det 8 Ext.refl (by rfl) (by rfl) rfl
      case h =>   -- 8: t8 := Op.assign (tmp 120)
        intro ax wx hE hR hF
        have e120 : ax.eval (.tmp 120) = _ := hF 7 (det 120 _) (by decide) (.head _)
        simp [go_sem, BigFrame.eval_const, BigFrame.eval_global, BigFrame.eval_func, ↓IntWalk.iteOmega, ev e120]
        with_reducible rfl
      apply Build.stop
      refine ⟨by kernel_rfl, .inl ⟨rfl, ?_⟩⟩
      intro ax w9 hE R9 hF
      have e113 : ax.eval (.tmp 113) = _ := hF 0 (det 113 _) (.tail _ (.tail _ (.tail _ (.tail _ (.tail _ (.tail _ (.tail _ (.tail _ (.head _)))))))))
      have e114 : ax.eval (.tmp 114) = _ := hF 1 (det 114 _) (.tail _ (.tail _ (.tail _ (.tail _ (.tail _ (.tail _ (.tail _ (.head _))))))))
      have e115 : ax.eval (.tmp 115) = _ := hF 2 (det 115 _) (.tail _ (.tail _ (.tail _ (.tail _ (.tail _ (.tail _ (.head _)))))))
      have e116 : ax.eval (.tmp 116) = _ := hF 3 (det 116 _) (.tail _ (.tail _ (.tail _ (.tail _ (.tail _ (.head _))))))
      have e117 : ax.eval (.tmp 117) = _ := hF 4 (det 117 _) (.tail _ (.tail _ (.tail _ (.tail _ (.head _)))))
      have e118 : ax.eval (.tmp 118) = _ := hF 5 (det 118 _) (.tail _ (.tail _ (.tail _ (.head _))))
      have e119 : ax.eval (.tmp 119) = _ := hF 6 (det 119 _) (.tail _ (.tail _ (.head _)))
      have e120 : ax.eval (.tmp 120) = _ := hF 7 (det 120 _) (.tail _ (.head _))
      have e8 : ax.eval (.tmp 8) = _ := hF 8 (det 8 _) (.head _)
      rw [AllEq.frame (D := [113, 114, 115, 116, 117, 118, 119, 120, 8]) (AllEq.cons e113 (AllEq.cons e114 (AllEq.cons e115 (AllEq.cons e116 (AllEq.cons e117 (AllEq.cons e118 (AllEq.cons e119 (AllEq.cons e120 (AllEq.cons e8 (AllEq.nil)))))))))) hE rfl]
      clear hF hE e113 e114 e115 e116 e117 e118 e119 e120 e8
      simp only [List.foldl_cons, List.foldl_nil, Act.put, List.setIfInBounds_toArray, List.set_cons_succ, List.set_cons_zero]
      go_wp2_with fail
      go_ret
      exact ⟨ret_bool (by simp), (OF.ext R9).below⟩

set_option maxRecDepth 100000 in
set_option maxHeartbeats 8000000 in
theorem placeExact_no (c t s k v s0 s1 : Int) (A : Option Addr) (len cap : Nat) (L : List PlD) (w : World) (hg : ¬ GoodPl c t s) (h0 : 0 ≤ k) (h1 : k ≤ 18446744073709551615) (h2 : 0 ≤ v) (h3 : v ≤ 18446744073709551615)
    (hlen : L.length = len) (hm : len ≤ maxLen) (hx : ∀ x ∈ L, wfP x) (hrow : Row w A 3 plC L) :
    Calls Try.prog 3 #[placeV c t s, pairV k v, .slice A len cap, .agg #[.int .i64 s0, .int .i64 s1]] w fun e w' => e = .returned (.bool true) ∧ Ext w w' := by
  have Hg := Lib.hid hg
  clear hg
  unfold maxLen at hm
  go_enter Try.func3, Try.ntmps3
  go_wp2_with fail
  refine (awake14 _).mono ?_
  rintro e w1 ⟨rfl, hb1⟩
  have O1 := (((((Own.start w).new 25 #[.int .i64 c, .int .i64 t, .int .i64 s]).new 28 #[.int .u64 k, .int .u64 v]).new 30 #[.int .i64 s0, .int .i64 s1]).ext hb1)
  simp only [World.size_alloc] at O1
  have hEA := O1.below
  clear hb1
  obtain ⟨-, -, B1, -⟩ := O1.all
  have q0 := B1.cell 0
  have q1 := B1.cell 1
  have q2 := B1.cell 2
  simp at q0 q1 q2
  clear B1
  by_cases hlen20 : len ≤ 20
  case neg =>
    go_wp2_with fail
    go_ret
    exact ⟨rfl, hEA⟩
  go_wp2_with fail
  refine (ppair_no _ _ _ _ Hg.out).mono ?_
  rintro e w2 ⟨rfl, hb2⟩
  have O2 := (O1.ext hb2).new 28 #[.int .u64 0, .int .u64 0]
  clear O1 hb2 hEA q0 q1 q2
  obtain ⟨B2, -, -, B1, -⟩ := O2.all
  have q0 := B1.cell 0
  have q1 := B1.cell 1
  have q2 := B1.cell 2
  have p0 := B2.cell 0
  have p1 := B2.cell 1
  simp at q0 q1 q2 p0 p1
  clear B1 B2
  have CR := rcan_any c t s
  rw [placeB_no Hg.out] at CR
  have HCR := Lib.hid CR
  clear CR
  go_wp2_with fail
  refine (HCR.out _).mono ?_
  rintro e wt ⟨rfl, hb3⟩
  have O3 := O2.ext hb3
  clear O2 hb3 q0 q1 q2 p0 p1
  obtain ⟨B2, -, -, B1, -⟩ := O3.all
  have p0 := B2.cell 0
  have p1 := B2.cell 1
  simp at p0 p1
  clear B1 B2
  generalize w2.heap.size = g2 at O3 p0 p1 ⊢
  go_upto_region 12 with fail
  have OT := O3.tail
  clear O3 p0 p1
  obtain ⟨-, B5, -, -⟩ := OT.all
  have p0 := B5.cell 0
  have p1 := B5.cell 1
  simp at p0 p1
  clear B5
  obtain ⟨c', t', s', b', HR1, HR2⟩ := both_places k v h0 h1 h2 h3
  have HRA := Lib.hid HR1
  have HRB := Lib.hid HR2
  clear h0 h1 h2 h3 HR1 HR2
  go_wp2_with fail
  refine (HRA.out _).mono ?_
  rintro e w6 ⟨rfl, hb6⟩
  have O6 := (OT.ext hb6).new 25 #[.int .i64 c', .int .i64 t', .int .i64 s']
  clear OT hb6 p0 p1
  obtain ⟨-, -, B5, -, -⟩ := O6.all
  have p0 := B5.cell 0
  have p1 := B5.cell 1
  simp at p0 p1
  clear B5
  go_wp2_with fail
  refine (HRB.out _).mono ?_
  rintro e w7 ⟨rfl, hb7⟩
  have O7 := (O6.ext hb7).new 23 #[.int .i64 t', .int .i64 s']
  clear O6 hb7 p0 p1
  obtain ⟨B9, B8, -, -, -, -⟩ := O7.all
  have p0 := B9.cell 0
  have p1 := B9.cell 1
  have q0 := B8.cell 0
  have q1 := B8.cell 1
  have q2 := B8.cell 2
  simp at p0 p1 q0 q1 q2
  clear B8 B9
  go_upto_region 18 with fail
  clear p0 p1 q0 q1 q2 HRA HRB
  have T0 := TRow.start O7.tail.tail 3 23 1 2
  simp only [World.size_alloc] at T0
  obtain ⟨i0, hi0, hz0, hz1, hz2⟩ := info_parts info_i14
  obtain ⟨i1, hi1, hy0, hy1, hy2⟩ := info_parts info_s14
  clear O7
  go_upto_region 19 with fail
  have hxl : L.length ≤ 20 := by omega
  go_loopw [18, 19, 20] (fun v1 v2 i wr => ∃ (j : Nat) (B1 B2 : Option Addr) (cap1 cap2 : Nat), j ≤ len ∧ i = .int .i64 j ∧ v1 = .slice B1 j cap1 ∧ v2 = .slice B2 j cap2 ∧ TRow w.heap.size w [(w.heap.size + 1 + 1, 30, #[Value.int .i64 s0, Value.int .i64 s1]), (w.heap.size + 1, 28, #[Value.int .u64 k, Value.int .u64 v]), (w.heap.size, 25, #[Value.int .i64 c, Value.int .i64 t, Value.int .i64 s])] 3 1 (.slice B1 j cap1) j ((L.take j).flatMap pcC) 23 2 (.slice B2 j cap2) j ((L.take j).flatMap psC) wr) (fun _ _ i _ => len - (intOf i).toNat)
  case atStart => exact ⟨0, _, _, _, _, by omega, rfl, rfl, rfl, T0⟩
  case round =>
    obtain ⟨j, B1, B2, cap1, cap2, hj, rfl, rfl, rfl, T⟩ := hrel
    clear T0
    have hExT := T.one.own.below
    by_cases hlt : j < len
    · have hjx : j < L.length := by omega
      obtain ⟨b0, o0, rfl, hlt0⟩ := hrow.p_in hExT hjx
      have HPR := Lib.hid (fun (W : World) (h : Below w.heap.size w W) => hrow.p_at h hjx)
      have q0 := (hrow.p_at hExT hjx).1
      have hf1 : (L.take (j + 1)).flatMap pcC = (L.take j).flatMap pcC ++ [.int .i64 (cAt L j)] := by
        rw [List.take_add_one, List.getElem?_eq_getElem hjx, List.flatMap_append]
        simp [pcC, cAt, List.getD, hjx]
      have hf2 : (L.take (j + 1)).flatMap psC = (L.take j).flatMap psC ++ [.int .i64 (tAt L j), .int .i64 (sAt L j)] := by
        rw [List.take_add_one, List.getElem?_eq_getElem hjx, List.flatMap_append]
        simp [psC, tAt, sAt, List.getD, hjx]
      have HF1 := Lib.hid hf1
      have HF2 := Lib.hid hf2
      clear hf1 hf2
      have hjm : j + 1 ≤ maxLen := by unfold maxLen; omega
      have hj8 : (j + 1) * 8 ≤ 140737488355328 := by omega
      have hj16 : (j + 1) * 16 ≤ 140737488355328 := by omega
      have TA := T.ext (Ext.alloc wr (.cells #[.int .i64 (cAt L j)] 3))
      have HT := Lib.hid TA
      clear T TA
      go_wp2_with (first
        | (at_builtin; refine TRow.append HT.out rfl _ _ _ rfl i0 _ 8 Try.underlying41 hi0 hz0 hz1 hz2 rfl (by decide) rfl wr.heap.size 1 1 [.int .i64 (cAt L j)] rfl 3 (Blk.new _ _ _) rfl (by simp [Value.oneCell']) hjm hj8 ?_; intro v8 w8 T8; clear HT; obtain ⟨B1', cap1', rfl⟩ := T8.one.slice; have r1 := (HPR.out w8 T8.one.own.below).2; obtain ⟨r1, r2⟩ := r1; have TB := T8.swap.ext (Ext.alloc w8 (.cells #[.int .i64 (tAt L j), .int .i64 (sAt L j)] 23)); have HTB := Lib.hid TB; clear T8 TB q0)
        | (at_builtin; refine TRow.append HTB.out rfl _ _ _ rfl i1 _ 16 Try.underlying42 hi1 hy0 hy1 hy2 rfl (by decide) rfl w8.heap.size 1 1 [.int .i64 (tAt L j), .int .i64 (sAt L j)] rfl 23 (Blk.new _ _ _) rfl (by simp [Value.oneCell']) hjm hj16 ?_; intro v9 w9 T9; clear HTB; obtain ⟨B2', cap2', rfl⟩ := T9.one.slice; have HT9 := Lib.hid T9.swap; clear T9 r1 r2))
      go_roundw
      case rel => exact ⟨j + 1, _, _, _, _, by omega, by go_num, rfl, rfl, by rw [HF1.out, HF2.out]; exact HT9.out⟩
      case measure => simp [intOf]; omega
    · obtain rfl : j = len := by omega
      clear hi0 hz0 hz1 hz2 hi1 hy0 hy1 hy2
      rw [List.take_of_length_le (by omega)] at T
      obtain ⟨C1, cc1, he1, hcc1, hcm1, hr1⟩ := T.one.rows (fun _ => rfl) hlen
      obtain ⟨C2, cc2, he2, hcc2, hcm2, hr2⟩ := T.two.rows (fun _ => rfl) hlen
      cases he1
      cases he2
      have hgx : ∀ x ∈ L, wfP x := hx
      have CG := fun (W : World) (h : Ext wr W) => pgood_any A j cap L s0 s1 W hlen (by omega) (hrow.below (Below.trans hExT (h.mono T.one.own.size))) hgx
      have CH := fun (W : World) (h : Ext wr W) => rpgood_any B1 B2 j cap1 cap2 L s0 s1 W hlen (by omega) (hr1.below h) (hr2.below h) hgx
      obtain ⟨G, hG⟩ : ∃ G, goodPls L s0 s1 = G := ⟨_, rfl⟩
      rw [hG] at CG CH
      have HCG := Lib.hid CG
      have HCH := Lib.hid CH
      have OF := T.one.own
      clear CG CH hG T hr1 hr2 hcc1 hcm1 hcc2 hcm2 hgx hx
      go_upto_region 23 with fail
      refine wp_typed (R := Ext) (w0 := wr) [[], [], [0, 1], [], [], [], [0, 1, 2, 3, 4, 5], [0, 1, 2, 3, 4, 5, 6], [0, 1, 2, 3, 4, 5, 6, 7]] [113, 114, 115, 116, 117, 118, 119, 120, 8] Ext.refl (fun _ _ _ => Ext.trans) (Ext.drew _) (by kernel_rfl) ?_
      apply Build.det 113 Ext.refl (by rfl) (by rfl) rfl
      case h =>   -- 0: t113 := Op.move (tmp 2)
        intro ax wx hE hR hF
        have e2 : ax.eval (.tmp 2) = .slice A j cap := hE.eval 2 (by rfl) rfl
        simp [go_sem, BigFrame.eval_const, BigFrame.eval_global, BigFrame.eval_func, ↓IntWalk.iteOmega, ev e2]
        with_reducible rfl
      apply Build.det 114 Ext.refl (by rfl) (by rfl) rfl
      case h =>   -- 1: t114 := Op.load 30 (tmp 7)
        intro ax wx hE hR hF
        have e7 : ax.eval (.tmp 7) = .pointer (some ⟨w.heap.size + 1 + 1, 0, none⟩) := hE.eval 7 (by rfl) rfl
        obtain ⟨B1x, -, -, -⟩ := (OF.ext hR).all; have q0 := B1x.cell 0; have q1 := B1x.cell 1; simp at q0 q1
        simp [go_sem, BigFrame.eval_const, BigFrame.eval_global, BigFrame.eval_func, ↓IntWalk.iteOmega, ev e7, q0, q1]
        with_reducible rfl
      apply Build.call 115 Ext.refl (by rfl) (by rfl) rfl
      case h =>
        intro ax wx hE hR hF
        have e113 : ax.eval (.tmp 113) = _ := hF 0 (det 113 _) (by decide) (.tail _ (.head _))
        have e114 : ax.eval (.tmp 114) = _ := hF 1 (det 114 _) (by decide) (.head _)
        simp [go_sem, BigFrame.eval_const, BigFrame.eval_global, BigFrame.eval_func, ↓IntWalk.iteOmega, ev e113, ev e114]
        with_reducible exact ⟨rfl, rfl⟩
      case hc => intro wx hR; with_reducible exact HCG.out wx hR
      apply Build.det 116 Ext.refl (by rfl) (by rfl) rfl
      case h =>   -- 3: t116 := Op.move (tmp 18)
        intro ax wx hE hR hF
        have e18 : ax.eval (.tmp 18) = .slice B1 j cap1 := hE.eval 18 (by rfl) rfl
        simp [go_sem, BigFrame.eval_const, BigFrame.eval_global, BigFrame.eval_func, ↓IntWalk.iteOmega, ev e18]
        with_reducible rfl
      apply Build.det 117 Ext.refl (by rfl) (by rfl) rfl
      case h =>   -- 4: t117 := Op.move (tmp 19)
        intro ax wx hE hR hF
        have e19 : ax.eval (.tmp 19) = .slice B2 j cap2 := hE.eval 19 (by rfl) rfl
        simp [go_sem, BigFrame.eval_const, BigFrame.eval_global, BigFrame.eval_func, ↓IntWalk.iteOmega, ev e19]
        with_reducible rfl
      apply Build.det 118 Ext.refl (by rfl) (by rfl) rfl
      case h =>   -- 5: t118 := Op.load 30 (tmp 7)
        intro ax wx hE hR hF
        have e7 : ax.eval (.tmp 7) = .pointer (some ⟨w.heap.size + 1 + 1, 0, none⟩) := hE.eval 7 (by rfl) rfl
        obtain ⟨B1x, -, -, -⟩ := (OF.ext hR).all; have q0 := B1x.cell 0; have q1 := B1x.cell 1; simp at q0 q1
        simp [go_sem, BigFrame.eval_const, BigFrame.eval_global, BigFrame.eval_func, ↓IntWalk.iteOmega, ev e7, q0, q1]
        with_reducible rfl
      apply Build.call 119 Ext.refl (by rfl) (by rfl) rfl
      case h =>
        intro ax wx hE hR hF
        have e116 : ax.eval (.tmp 116) = _ := hF 3 (det 116 _) (by decide) (.tail _ (.tail _ (.head _)))
        have e117 : ax.eval (.tmp 117) = _ := hF 4 (det 117 _) (by decide) (.tail _ (.head _))
        have e118 : ax.eval (.tmp 118) = _ := hF 5 (det 118 _) (by decide) (.head _)
        simp [go_sem, BigFrame.eval_const, BigFrame.eval_global, BigFrame.eval_func, ↓IntWalk.iteOmega, ev e116, ev e117, ev e118]
        with_reducible exact ⟨rfl, rfl⟩
      case hc => intro wx hR; with_reducible exact HCH.out wx hR
      apply Build.det 120 Ext.refl (by rfl) (by rfl) rfl
      case h =>   -- 7: t120 := Op.binOp BinOp.eql 4 (tmp 115) (tmp 119) 4
        intro ax wx hE hR hF
        have e115 : ax.eval (.tmp 115) = _ := hF 2 (det 115 _) (by decide) (.tail _ (.tail _ (.tail _ (.tail _ (.head _)))))
        have e119 : ax.eval (.tmp 119) = _ := hF 6 (det 119 _) (by decide) (.head _)
        simp [go_sem, BigFrame.eval_const, BigFrame.eval_global, BigFrame.eval_func, ↓IntWalk.iteOmega, ev e115, ev e119]
        with_reducible rfl
      apply Build.det 8 Ext.refl (by rfl) (by rfl) rfl
      case h =>   -- 8: t8 := Op.assign (tmp 120)
        intro ax wx hE hR hF
        have e120 : ax.eval (.tmp 120) = _ := hF 7 (det 120 _) (by decide) (.head _)
        simp [go_sem, BigFrame.eval_const, BigFrame.eval_global, BigFrame.eval_func, ↓IntWalk.iteOmega, ev e120]
        with_reducible rfl
      apply Build.stop
      refine ⟨by kernel_rfl, .inl ⟨rfl, ?_⟩⟩
      intro ax w9 hE R9 hF
      have e113 : ax.eval (.tmp 113) = _ := hF 0 (det 113 _) (.tail _ (.tail _ (.tail _ (.tail _ (.tail _ (.tail _ (.tail _ (.tail _ (.head _)))))))))
      have e114 : ax.eval (.tmp 114) = _ := hF 1 (det 114 _) (.tail _ (.tail _ (.tail _ (.tail _ (.tail _ (.tail _ (.tail _ (.head _))))))))
      have e115 : ax.eval (.tmp 115) = _ := hF 2 (det 115 _) (.tail _ (.tail _ (.tail _ (.tail _ (.tail _ (.tail _ (.head _)))))))
      have e116 : ax.eval (.tmp 116) = _ := hF 3 (det 116 _) (.tail _ (.tail _ (.tail _ (.tail _ (.tail _ (.head _))))))
      have e117 : ax.eval (.tmp 117) = _ := hF 4 (det 117 _) (.tail _ (.tail _ (.tail _ (.tail _ (.head _)))))
      have e118 : ax.eval (.tmp 118) = _ := hF 5 (det 118 _) (.tail _ (.tail _ (.tail _ (.head _))))
      have e119 : ax.eval (.tmp 119) = _ := hF 6 (det 119 _) (.tail _ (.tail _ (.head _)))
      have e120 : ax.eval (.tmp 120) = _ := hF 7 (det 120 _) (.tail _ (.head _))
      have e8 : ax.eval (.tmp 8) = _ := hF 8 (det 8 _) (.head _)
      rw [AllEq.frame (D := [113, 114, 115, 116, 117, 118, 119, 120, 8]) (AllEq.cons e113 (AllEq.cons e114 (AllEq.cons e115 (AllEq.cons e116 (AllEq.cons e117 (AllEq.cons e118 (AllEq.cons e119 (AllEq.cons e120 (AllEq.cons e8 (AllEq.nil)))))))))) hE rfl]
      clear hF hE e113 e114 e115 e116 e117 e118 e119 e120 e8
      simp only [List.foldl_cons, List.foldl_nil, Act.put, List.setIfInBounds_toArray, List.set_cons_succ, List.set_cons_zero]
      go_wp2_with fail
      go_ret
      exact ⟨ret_bool (by simp), (OF.ext R9).below⟩

theorem placeExact_walk (w : World) (v0 v1 v2 v3 : Value) (h0 : Arg Try.prog w 25 v0) (h1 : Arg Try.prog w 28 v1) (h2 : Arg Try.prog w 29 v2) (h3 : Arg Try.prog w 30 v3) :
    Calls Try.prog 3 #[v0, v1, v2, v3] w fun e w' => e = .returned (.bool true) ∧ Below w.heap.size w w' := by
  obtain ⟨c, t, s, rfl⟩ := arg_place h0
  obtain ⟨k, x, rfl, a0, a1, a2, a3⟩ := arg_pair14 h1
  obtain ⟨A, len, cap, L, rfl, hl1, hl2, hl3, hwf, hrow⟩ := arg_places h2
  obtain ⟨s0, s1, rfl⟩ := arg_slots h3
  by_cases hg : GoodPl c t s
  · exact placeExact_yes c t s k x s0 s1 A len cap L w hg a0 a1 a2 a3 hl3 (by omega) hwf hrow
  · exact placeExact_no c t s k x s0 s1 A len cap L w hg a0 a1 a2 a3 hl3 (by omega) hwf hrow
end Go.Proofs.Ytojilbacloegjaa
