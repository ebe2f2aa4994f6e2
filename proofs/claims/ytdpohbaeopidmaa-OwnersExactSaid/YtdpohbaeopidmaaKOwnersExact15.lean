/- The reference of owners: Add. -/
import Derived.Test.YtdpohbaeopidmaaKOwnersExact14
import Derived.Test.YtdpohbaeopidmaaKOwnersExact00
import Derived.Lib.FrozenHead2
namespace Go.Proofs.Ytdpohbaeopidmaa
set_option linter.unusedVariables false
set_option linter.unusedSimpArgs false
open Go.RowKit

set_option maxRecDepth 100000 in
set_option maxHeartbeats 4000000 in
theorem addq_any (A : Option Addr) (len cap : Nat) (X : List QD) (x : QD) (w : World) (hlen : X.length = len) (hm : len ≤ 1000000) (hrow : Row w A 4 qC X) :
    Calls Try.prog 16 #[.slice A len cap, qV x] w fun e w' => ∃ v, e = .returned v ∧ w'.ownsRow w.heap.size 35 4 v (insQ x X).length ((insQ x X).flatMap qC) ∧ Ext w w' := by
  have HL := Lib.hid hlen
  have HR := Lib.hid hrow
  clear hlen hrow
  obtain ⟨x1, x2, x3, x4⟩ := x
  unfold qV
  go_enter Try.func16, Try.ntmps16
  go_wp2_with fail
  have O1 := ((OwnT.start w).new 35 #[.int .i64 x1, .int .i64 x2, .int .i64 x3, .int .i64 x4]).emptyRow 35 4
  simp only [World.size_alloc] at O1
  obtain ⟨g, hg⟩ : ∃ g, w.heap.size = g := ⟨_, rfl⟩
  obtain ⟨v0, hv0⟩ : ∃ v, Value.slice (some ⟨w.heap.size + 1, 0, none⟩) 0 0 = v := ⟨_, rfl⟩
  rw [hv0] at O1 ⊢
  generalize (w.alloc (.cells #[.int .i64 x1, .int .i64 x2, .int .i64 x3, .int .i64 x4] 35)).alloc (.cells #[] 35) = w1 at O1 ⊢
  have O1 : OwnT w.heap.size w [tRow 35 4 v0 0 [], tBlk g 35 #[.int .i64 x1, .int .i64 x2, .int .i64 x3, .int .i64 x4]] w1 := hg ▸ O1
  rw [hg]
  clear hg hv0
  go_loopw [5, 6, 7] (fun s d i wr => ∃ (v : Value) (b : Bool) (k : Nat) (Z : List QD), v = s ∧ d = .bool b ∧ i = .int .i64 k ∧ k ≤ len ∧ Hid (Z ++ (if b then X.drop k else insQ (x1, x2, x3, x4) (X.drop k)) = insQ (x1, x2, x3, x4) X) ∧ Hid (OwnT w.heap.size w [tRow 35 4 v Z.length (Z.flatMap qC), tBlk g 35 #[.int .i64 x1, .int .i64 x2, .int .i64 x3, .int .i64 x4]] wr)) (fun _ _ i _ => len - (intOf i).toNat)
  case atStart => exact ⟨_, false, 0, [], rfl, rfl, rfl, by omega, Lib.hid (by simp), Lib.hid O1⟩
  case round =>
    obtain ⟨v, d, k, Z, rfl, rfl, rfl, hk, HZ, HO⟩ := hrel
    clear O1
    have HZl := Lib.hid (show Z.length ≤ 1000001 by
      have h1 := congrArg List.length HZ.out
      have h2 := insQ_len (x1, x2, x3, x4) X
      rw [List.length_append] at h1
      rw [HL.out] at h2
      omega)
    by_cases hlt : k < len
    · have HQ := Lib.hid (fun (wx : World) (hR : Ext wr wx) => HR.out.q_in (HO.out.ext hR).below (i := k) (by rw [HL.out]; omega))
      obtain ⟨b, off, rfl, hbl, -, -, -, -⟩ := HQ.out wr (Ext.refl _)
      have hdr := drop_atQ (X := X) (k := k) (by rw [HL.out]; omega)
      obtain ⟨xk, hxk⟩ : ∃ x, atQ X k = x := ⟨_, rfl⟩
      rw [hxk] at hdr HQ
      have HK := Lib.hid hxk
      obtain ⟨y1, y2, y3, y4⟩ := xk
      obtain ⟨z, hz⟩ : ∃ z : Bool, decide (ltQ (x1, x2, x3, x4) (y1, y2, y3, y4)) = z := ⟨_, rfl⟩
      have HLS := Lib.hid (fun W => hz ▸ less_any (x1, x2, x3, x4) (y1, y2, y3, y4) W)
      have HZ2 := Lib.hid (show d = false → Z ++ (if z then (x1, x2, x3, x4) :: (y1, y2, y3, y4) :: X.drop (k + 1) else (y1, y2, y3, y4) :: insQ (x1, x2, x3, x4) (X.drop (k + 1))) = insQ (x1, x2, x3, x4) X from fun hd => by
        have h : Z ++ insQ (x1, x2, x3, x4) (X.drop k) = insQ (x1, x2, x3, x4) X := by have h := HZ.out; rw [hd] at h; exact h
        rw [← h, hdr, insQ]
        cases z
        · rw [if_neg (of_decide_eq_false hz)]; rfl
        · rw [if_pos (of_decide_eq_true hz)]; rfl)
      have HZ1 := Lib.hid (show d = true → (Z ++ [(y1, y2, y3, y4)]) ++ X.drop (k + 1) = insQ (x1, x2, x3, x4) X from fun hd => by
        have h : Z ++ X.drop k = insQ (x1, x2, x3, x4) X := by have h := HZ.out; rw [hd] at h; exact h
        rw [← h, hdr, List.append_assoc]; rfl)
      clear hz hxk hdr HZ
      unfold qV at HLS
      cases d
      · go_upto_region 6 with fail
        refine wp_typed (R := Ext) (w0 := wr) [[], [0], [0, 1], [0, 1, 2], [0, 1, 2], [0, 1, 2], [0, 1, 2, 4, 5], [0, 1, 2, 4, 5, 6], [0, 1, 2, 3, 4, 5, 6, 7], [0, 1, 2, 3, 4, 5, 6, 7, 8]] [15, 16, 17, 18, 19, 20, 21, 22, 23, 24] Ext.refl (fun _ _ _ => Ext.trans) (Ext.drew _) (by kernel_rfl) ?_
        apply Build.det 15 Ext.refl (by rfl) (by rfl) rfl
        case h =>   -- 0: t15 := Op.move (tmp 6)
          intro ax wx hE hR hF
          have e6 : ax.eval (.tmp 6) = .bool false := hE.eval 6 (by rfl) rfl
          simp [go_sem, BigFrame.eval_const, BigFrame.eval_global, BigFrame.eval_func, ↓IntWalk.iteOmega, ev e6]
          with_reducible rfl
        apply Build.det 16 Ext.refl (by rfl) (by rfl) rfl
        case h =>   -- 1: t16 := Op.unOp UnOp.not 4 (tmp 15)
          intro ax wx hE hR hF
          have e15 : ax.eval (.tmp 15) = _ := hF 0 (det 15 _) (by decide) (.head _)
          simp [go_sem, BigFrame.eval_const, BigFrame.eval_global, BigFrame.eval_func, ↓IntWalk.iteOmega, ev e15]
          with_reducible rfl
        apply Build.det 17 Ext.refl (by rfl) (by rfl) rfl
        case h =>   -- 2: t17 := Op.move (tmp 16)
          intro ax wx hE hR hF
          have e16 : ax.eval (.tmp 16) = _ := hF 1 (det 16 _) (by decide) (.head _)
          simp [go_sem, BigFrame.eval_const, BigFrame.eval_global, BigFrame.eval_func, ↓IntWalk.iteOmega, ev e16]
          with_reducible rfl
        apply Build.detg 18 Ext.refl (by rfl) (by rfl) rfl rfl
        case h =>   -- 3: t18 := Op.load 35 (tmp 3)
          intro ax wx hE hR hF
          have e3 : ax.eval (.tmp 3) = .pointer (some ⟨g, 0, none⟩) := hE.eval 3 (by rfl) rfl
          have e17 : ax.eval (.tmp 17) = _ := hF 2 (det 17 _) (by decide) (.head _)
          obtain ⟨_, _, hA2, _, q0, q1, q2, q3⟩ := HQ.out wx hR; cases hA2; have hB := (HO.out.ext hR).b1; have a0 := hB.cell 0; have a1 := hB.cell 1; have a2 := hB.cell 2; have a3 := hB.cell 3; simp at a0 a1 a2 a3 q0 q1 q2 q3
          refine ⟨e17, ?_⟩
          simp [go_sem, BigFrame.eval_const, BigFrame.eval_global, BigFrame.eval_func, ↓IntWalk.iteOmega, ev e3, ev e17, q0, q1, q2, q3, a0, a1, a2, a3]
          with_reducible rfl
        apply Build.detg 19 Ext.refl (by rfl) (by rfl) rfl rfl
        case h =>   -- 4: t19 := Op.move (tmp 0)
          intro ax wx hE hR hF
          have e0 : ax.eval (.tmp 0) = .slice (some ⟨b, off, none⟩) len cap := hE.eval 0 (by rfl) rfl
          have e17 : ax.eval (.tmp 17) = _ := hF 2 (det 17 _) (by decide) (.tail _ (.head _))
          refine ⟨e17, ?_⟩
          simp [go_sem, BigFrame.eval_const, BigFrame.eval_global, BigFrame.eval_func, ↓IntWalk.iteOmega, ev e0, ev e17]
          with_reducible rfl
        apply Build.detg 20 Ext.refl (by rfl) (by rfl) rfl rfl
        case h =>   -- 5: t20 := Op.move (tmp 7)
          intro ax wx hE hR hF
          have e7 : ax.eval (.tmp 7) = .int .i64 k := hE.eval 7 (by rfl) rfl
          have e17 : ax.eval (.tmp 17) = _ := hF 2 (det 17 _) (by decide) (.tail _ (.tail _ (.head _)))
          refine ⟨e17, ?_⟩
          simp [go_sem, BigFrame.eval_const, BigFrame.eval_global, BigFrame.eval_func, ↓IntWalk.iteOmega, ev e7, ev e17]
          with_reducible rfl
        apply Build.detg 21 Ext.refl (by rfl) (by rfl) rfl rfl
        case h =>   -- 6: t21 := Op.indexAddr 27 (tmp 19) (tmp 20)
          intro ax wx hE hR hF
          have e17 : ax.eval (.tmp 17) = _ := hF 2 (det 17 _) (by decide) (.tail _ (.tail _ (.tail _ (.head _))))
          have e19 : ax.eval (.tmp 19) = _ := hF 4 (det 19 _) (by decide) (.tail _ (.head _))
          have e20 : ax.eval (.tmp 20) = _ := hF 5 (det 20 _) (by decide) (.head _)
          refine ⟨e17, ?_⟩
          simp [go_sem, BigFrame.eval_const, BigFrame.eval_global, BigFrame.eval_func, ↓IntWalk.iteOmega, ev e17, ev e19, ev e20]
          with_reducible rfl
        apply Build.detg 22 Ext.refl (by rfl) (by rfl) rfl rfl
        case h =>   -- 7: t22 := Op.load 35 (tmp 21)
          intro ax wx hE hR hF
          have e17 : ax.eval (.tmp 17) = _ := hF 2 (det 17 _) (by decide) (.tail _ (.tail _ (.tail _ (.tail _ (.head _)))))
          have e21 : ax.eval (.tmp 21) = _ := hF 6 (det 21 _) (by decide) (.head _)
          obtain ⟨_, _, hA2, _, q0, q1, q2, q3⟩ := HQ.out wx hR; cases hA2; have hB := (HO.out.ext hR).b1; have a0 := hB.cell 0; have a1 := hB.cell 1; have a2 := hB.cell 2; have a3 := hB.cell 3; simp at a0 a1 a2 a3 q0 q1 q2 q3
          refine ⟨e17, ?_⟩
          simp [go_sem, BigFrame.eval_const, BigFrame.eval_global, BigFrame.eval_func, ↓IntWalk.iteOmega, ev e17, ev e21, q0, q1, q2, q3, a0, a1, a2, a3]
          with_reducible rfl
        apply Build.callg 23 Ext.refl (by rfl) (by rfl) rfl rfl
        case h =>
          intro ax wx hE hR hF
          have e17 : ax.eval (.tmp 17) = _ := hF 2 (det 17 _) (by decide) (.tail _ (.tail _ (.tail _ (.tail _ (.tail _ (.head _))))))
          have e18 : ax.eval (.tmp 18) = _ := hF 3 (det 18 _) (by decide) (.tail _ (.tail _ (.tail _ (.tail _ (.head _)))))
          have e22 : ax.eval (.tmp 22) = _ := hF 7 (det 22 _) (by decide) (.head _)
          refine ⟨e17, ?_⟩
          simp [go_sem, BigFrame.eval_const, BigFrame.eval_global, BigFrame.eval_func, ↓IntWalk.iteOmega, ev e17, ev e18, ev e22]
          with_reducible exact ⟨rfl, rfl⟩
        case hc => intro wx hR; with_reducible exact HLS.out wx
        apply Build.det 24 Ext.refl (by rfl) (by rfl) rfl
        case h =>   -- 9: t24 := Op.pick (tmp 17) (tmp 23) (const (Value.bool false))
          intro ax wx hE hR hF
          have e17 : ax.eval (.tmp 17) = _ := hF 2 (det 17 _) (by decide) (.tail _ (.tail _ (.tail _ (.tail _ (.tail _ (.tail _ (.head _)))))))
          have e23 : ax.eval (.tmp 23) = _ := hF 8 (det 23 _) (by decide) (.head _)
          simp [go_sem, BigFrame.eval_const, BigFrame.eval_global, BigFrame.eval_func, ↓IntWalk.iteOmega, ev e17, ev e23]
          with_reducible rfl
        apply Build.stop
        refine ⟨by kernel_rfl, .inl ⟨rfl, ?_⟩⟩
        intro ax w3 hE R3 hF
        have e15 : ax.eval (.tmp 15) = _ := hF 0 (det 15 _) (.tail _ (.tail _ (.tail _ (.tail _ (.tail _ (.tail _ (.tail _ (.tail _ (.tail _ (.head _))))))))))
        have e16 : ax.eval (.tmp 16) = _ := hF 1 (det 16 _) (.tail _ (.tail _ (.tail _ (.tail _ (.tail _ (.tail _ (.tail _ (.tail _ (.head _)))))))))
        have e17 : ax.eval (.tmp 17) = _ := hF 2 (det 17 _) (.tail _ (.tail _ (.tail _ (.tail _ (.tail _ (.tail _ (.tail _ (.head _))))))))
        have e18 : ax.eval (.tmp 18) = _ := hF 3 (det 18 _) (.tail _ (.tail _ (.tail _ (.tail _ (.tail _ (.tail _ (.head _)))))))
        have e19 : ax.eval (.tmp 19) = _ := hF 4 (det 19 _) (.tail _ (.tail _ (.tail _ (.tail _ (.tail _ (.head _))))))
        have e20 : ax.eval (.tmp 20) = _ := hF 5 (det 20 _) (.tail _ (.tail _ (.tail _ (.tail _ (.head _)))))
        have e21 : ax.eval (.tmp 21) = _ := hF 6 (det 21 _) (.tail _ (.tail _ (.tail _ (.head _))))
        have e22 : ax.eval (.tmp 22) = _ := hF 7 (det 22 _) (.tail _ (.tail _ (.head _)))
        have e23 : ax.eval (.tmp 23) = _ := hF 8 (det 23 _) (.tail _ (.head _))
        have e24 : ax.eval (.tmp 24) = _ := hF 9 (det 24 _) (.head _)
        rw [AllEq.frame (D := [15, 16, 17, 18, 19, 20, 21, 22, 23, 24]) (AllEq.cons e15 (AllEq.cons e16 (AllEq.cons e17 (AllEq.cons e18 (AllEq.cons e19 (AllEq.cons e20 (AllEq.cons e21 (AllEq.cons e22 (AllEq.cons e23 (AllEq.cons e24 (AllEq.nil))))))))))) hE rfl]
        clear hF hE e15 e16 e17 e18 e19 e20 e21 e22 e23 e24
        simp only [List.foldl_cons, List.foldl_nil, Act.put, List.setIfInBounds_toArray, List.set_cons_succ, List.set_cons_zero]
        have HO3 := Lib.hid (HO.out.ext R3)
        have HQ3 := Lib.hid (fun (wx : World) (hR : Ext w3 wx) => HQ.out wx (R3.trans hR))
        have hB3 := HO3.out.b1
        have a0 := hB3.cell 0
        have a1 := hB3.cell 1
        have a2 := hB3.cell 2
        have a3 := hB3.cell 3
        simp at a0 a1 a2 a3
        clear R3 HQ HO HLS hB3
        cases z
        · have HZ3 := Lib.hid (show (Z ++ [(y1, y2, y3, y4)]) ++ (if false then X.drop (k + 1) else insQ (x1, x2, x3, x4) (X.drop (k + 1))) = insQ (x1, x2, x3, x4) X by rw [List.append_assoc]; exact HZ2.out rfl)
          obtain ⟨v', w', hrun, O2⟩ := (HO3.out.other (.cells #[.int .i64 y1, .int .i64 y2, .int .i64 y3, .int .i64 y4] 35)).appendQ w3.heap.size (y1, y2, y3, y4) (Blk.new w3 35 #[.int .i64 y1, .int .i64 y2, .int .i64 y3, .int .i64 y4]) (by have := HZl.out; omega)
          have HAP := Lib.hid hrun
          have HO2 := Lib.hid O2
          clear hrun O2
          obtain ⟨_, _, hA2, _, q0, q1, q2, q3⟩ := HQ3.out w3 (Ext.refl _)
          cases hA2
          simp at q0 q1 q2 q3
          clear HQ3 a0 a1 a2 a3
          go_wp2_with ((with_reducible refine wpList_append_run (o := ⟨some 35, _, _, _, _, _⟩) rfl _ _ _ _ rfl _ _ rfl rfl (HAP.out _) ?_))
          go_roundw
          case rel => exact ⟨_, false, k + 1, _, rfl, rfl, by go_num, by omega, HZ3, HO2⟩
          case measure => simp [intOf]; omega
        · have HZ3 := Lib.hid (show ((Z ++ [(x1, x2, x3, x4)]) ++ [(y1, y2, y3, y4)]) ++ (if true then X.drop (k + 1) else insQ (x1, x2, x3, x4) (X.drop (k + 1))) = insQ (x1, x2, x3, x4) X by rw [List.append_assoc, List.append_assoc]; exact HZ2.out rfl)
          obtain ⟨v', w', hrun, O2⟩ := (HO3.out.other (.cells #[.int .i64 x1, .int .i64 x2, .int .i64 x3, .int .i64 x4] 35)).appendQ w3.heap.size (x1, x2, x3, x4) (Blk.new w3 35 #[.int .i64 x1, .int .i64 x2, .int .i64 x3, .int .i64 x4]) (by have := HZl.out; omega)
          have HAP := Lib.hid hrun
          have HO2 := Lib.hid O2
          have HL2 := Lib.hid (show (Z ++ [(x1, x2, x3, x4)]).length ≤ 1000002 by have := HZl.out; rw [List.length_append]; simp; omega)
          clear hrun O2
          go_upto_region 9 with ((with_reducible refine wpList_append_run (o := ⟨some 28, _, _, _, _, _⟩) rfl _ _ _ _ rfl _ _ rfl rfl (HAP.out _) ?_))
          obtain ⟨v2, w2, hrun2, O3⟩ := (HO2.out.other (.cells #[.int .i64 y1, .int .i64 y2, .int .i64 y3, .int .i64 y4] 35)).appendQ w'.heap.size (y1, y2, y3, y4) (Blk.new w' 35 #[.int .i64 y1, .int .i64 y2, .int .i64 y3, .int .i64 y4]) (by have := HL2.out; omega)
          have HAP := Lib.hid hrun2
          have HO3 := Lib.hid O3
          obtain ⟨_, _, hA2, _, q0, q1, q2, q3⟩ := HR.out.q_in HO2.out.below (i := k) (by rw [HL.out]; omega)
          cases hA2
          rw [HK.out] at q0 q1 q2 q3
          simp at q0 q1 q2 q3
          clear hrun2 O3 HQ3 a0 a1 a2 a3
          go_wp2_with ((with_reducible refine wpList_append_run (o := ⟨some 35, _, _, _, _, _⟩) rfl _ _ _ _ rfl _ _ rfl rfl (HAP.out _) ?_))
          go_roundw
          case rel => exact ⟨_, true, k + 1, _, rfl, rfl, by go_num, by omega, HZ3, HO3⟩
          case measure => simp [intOf]; omega
      · go_upto_region 6 with fail
        refine wp_typed (R := Ext) (w0 := wr) [[], [0], [0, 1], [0, 1, 2], [0, 1, 2], [0, 1, 2], [0, 1, 2, 4, 5], [0, 1, 2, 4, 5, 6], [0, 1, 2, 3, 4, 5, 6, 7], [0, 1, 2, 3, 4, 5, 6, 7, 8]] [15, 16, 17, 18, 19, 20, 21, 22, 23, 24] Ext.refl (fun _ _ _ => Ext.trans) (Ext.drew _) (by kernel_rfl) ?_
        apply Build.det 15 Ext.refl (by rfl) (by rfl) rfl
        case h =>   -- 0: t15 := Op.move (tmp 6)
          intro ax wx hE hR hF
          have e6 : ax.eval (.tmp 6) = .bool true := hE.eval 6 (by rfl) rfl
          simp [go_sem, BigFrame.eval_const, BigFrame.eval_global, BigFrame.eval_func, ↓IntWalk.iteOmega, ev e6]
          with_reducible rfl
        apply Build.det 16 Ext.refl (by rfl) (by rfl) rfl
        case h =>   -- 1: t16 := Op.unOp UnOp.not 4 (tmp 15)
          intro ax wx hE hR hF
          have e15 : ax.eval (.tmp 15) = _ := hF 0 (det 15 _) (by decide) (.head _)
          simp [go_sem, BigFrame.eval_const, BigFrame.eval_global, BigFrame.eval_func, ↓IntWalk.iteOmega, ev e15]
          with_reducible rfl
        apply Build.det 17 Ext.refl (by rfl) (by rfl) rfl
        case h =>   -- 2: t17 := Op.move (tmp 16)
          intro ax wx hE hR hF
          have e16 : ax.eval (.tmp 16) = _ := hF 1 (det 16 _) (by decide) (.head _)
          simp [go_sem, BigFrame.eval_const, BigFrame.eval_global, BigFrame.eval_func, ↓IntWalk.iteOmega, ev e16]
          with_reducible rfl
        refine Build.skip 18 (by rfl) (by rfl) rfl rfl ?_ ?_
        · intro ax wx hE hR hF
          have e3 : ax.eval (.tmp 3) = .pointer (some ⟨g, 0, none⟩) := hE.eval 3 (by rfl) rfl
          have e17 : ax.eval (.tmp 17) = _ := hF 2 (det 17 _) (by decide) (.head _)
          exact e17
        refine Build.skip 19 (by rfl) (by rfl) rfl rfl ?_ ?_
        · intro ax wx hE hR hF
          have e0 : ax.eval (.tmp 0) = .slice (some ⟨b, off, none⟩) len cap := hE.eval 0 (by rfl) rfl
          have e17 : ax.eval (.tmp 17) = _ := hF 2 (det 17 _) (by decide) (.tail _ (.head _))
          exact e17
        refine Build.skip 20 (by rfl) (by rfl) rfl rfl ?_ ?_
        · intro ax wx hE hR hF
          have e7 : ax.eval (.tmp 7) = .int .i64 k := hE.eval 7 (by rfl) rfl
          have e17 : ax.eval (.tmp 17) = _ := hF 2 (det 17 _) (by decide) (.tail _ (.tail _ (.head _)))
          exact e17
        refine Build.skip 21 (by rfl) (by rfl) rfl rfl ?_ ?_
        · intro ax wx hE hR hF
          have e17 : ax.eval (.tmp 17) = _ := hF 2 (det 17 _) (by decide) (.tail _ (.tail _ (.tail _ (.head _))))
          have e19 : ax.eval (.tmp 19) = _ := hF 4 (det 19 _) (by decide) (.tail _ (.head _))
          have e20 : ax.eval (.tmp 20) = _ := hF 5 (det 20 _) (by decide) (.head _)
          exact e17
        refine Build.skip 22 (by rfl) (by rfl) rfl rfl ?_ ?_
        · intro ax wx hE hR hF
          have e17 : ax.eval (.tmp 17) = _ := hF 2 (det 17 _) (by decide) (.tail _ (.tail _ (.tail _ (.tail _ (.head _)))))
          have e21 : ax.eval (.tmp 21) = _ := hF 6 (det 21 _) (by decide) (.head _)
          exact e17
        refine Build.skip 23 (by rfl) (by rfl) rfl rfl ?_ ?_
        · intro ax wx hE hR hF
          have e17 : ax.eval (.tmp 17) = _ := hF 2 (det 17 _) (by decide) (.tail _ (.tail _ (.tail _ (.tail _ (.tail _ (.head _))))))
          have e18 : ax.eval (.tmp 18) = _ := hF 3 (det 18 _) (by decide) (.tail _ (.tail _ (.tail _ (.tail _ (.head _)))))
          have e22 : ax.eval (.tmp 22) = _ := hF 7 (det 22 _) (by decide) (.head _)
          exact e17
        apply Build.det 24 Ext.refl (by rfl) (by rfl) rfl
        case h =>   -- 9: t24 := Op.pick (tmp 17) (tmp 23) (const (Value.bool false))
          intro ax wx hE hR hF
          have e17 : ax.eval (.tmp 17) = _ := hF 2 (det 17 _) (by decide) (.tail _ (.tail _ (.tail _ (.tail _ (.tail _ (.tail _ (.head _)))))))
          have e23 : ax.eval (.tmp 23) = _ := hF 8 (det 23 _) (by decide) (.head _)
          simp [go_sem, BigFrame.eval_const, BigFrame.eval_global, BigFrame.eval_func, ↓IntWalk.iteOmega, ev e17, ev e23]
          with_reducible rfl
        apply Build.stop
        refine ⟨by kernel_rfl, .inl ⟨rfl, ?_⟩⟩
        intro ax w3 hE R3 hF
        have e15 : ax.eval (.tmp 15) = _ := hF 0 (det 15 _) (.tail _ (.tail _ (.tail _ (.tail _ (.tail _ (.tail _ (.tail _ (.tail _ (.tail _ (.head _))))))))))
        have e16 : ax.eval (.tmp 16) = _ := hF 1 (det 16 _) (.tail _ (.tail _ (.tail _ (.tail _ (.tail _ (.tail _ (.tail _ (.tail _ (.head _)))))))))
        have e17 : ax.eval (.tmp 17) = _ := hF 2 (det 17 _) (.tail _ (.tail _ (.tail _ (.tail _ (.tail _ (.tail _ (.tail _ (.head _))))))))
        have e18 : ax.eval (.tmp 18) = _ := hF 3 (det 18 _) (.tail _ (.tail _ (.tail _ (.tail _ (.tail _ (.tail _ (.head _)))))))
        have e19 : ax.eval (.tmp 19) = _ := hF 4 (det 19 _) (.tail _ (.tail _ (.tail _ (.tail _ (.tail _ (.head _))))))
        have e20 : ax.eval (.tmp 20) = _ := hF 5 (det 20 _) (.tail _ (.tail _ (.tail _ (.tail _ (.head _)))))
        have e21 : ax.eval (.tmp 21) = _ := hF 6 (det 21 _) (.tail _ (.tail _ (.tail _ (.head _))))
        have e22 : ax.eval (.tmp 22) = _ := hF 7 (det 22 _) (.tail _ (.tail _ (.head _)))
        have e23 : ax.eval (.tmp 23) = _ := hF 8 (det 23 _) (.tail _ (.head _))
        have e24 : ax.eval (.tmp 24) = _ := hF 9 (det 24 _) (.head _)
        rw [AllEq.frame (D := [15, 16, 17, 18, 19, 20, 21, 22, 23, 24]) (AllEq.cons e15 (AllEq.cons e16 (AllEq.cons e17 (AllEq.cons e18 (AllEq.cons e19 (AllEq.cons e20 (AllEq.cons e21 (AllEq.cons e22 (AllEq.cons e23 (AllEq.cons e24 (AllEq.nil))))))))))) hE rfl]
        clear hF hE e15 e16 e17 e18 e19 e20 e21 e22 e23 e24
        simp only [List.foldl_cons, List.foldl_nil, Act.put, List.setIfInBounds_toArray, List.set_cons_succ, List.set_cons_zero]
        have HO3 := Lib.hid (HO.out.ext R3)
        have HQ3 := Lib.hid (fun (wx : World) (hR : Ext w3 wx) => HQ.out wx (R3.trans hR))
        have a0 := 0
        have a1 := 0
        have a2 := 0
        have a3 := 0
        clear R3 HQ HO HLS
        have HZ3 := Lib.hid (show (Z ++ [(y1, y2, y3, y4)]) ++ (if true then X.drop (k + 1) else insQ (x1, x2, x3, x4) (X.drop (k + 1))) = insQ (x1, x2, x3, x4) X from HZ1.out rfl)
        obtain ⟨v', w', hrun, O2⟩ := (HO3.out.other (.cells #[.int .i64 y1, .int .i64 y2, .int .i64 y3, .int .i64 y4] 35)).appendQ w3.heap.size (y1, y2, y3, y4) (Blk.new w3 35 #[.int .i64 y1, .int .i64 y2, .int .i64 y3, .int .i64 y4]) (by have := HZl.out; omega)
        have HAP := Lib.hid hrun
        have HO2 := Lib.hid O2
        clear hrun O2
        obtain ⟨_, _, hA2, _, q0, q1, q2, q3⟩ := HQ3.out w3 (Ext.refl _)
        cases hA2
        simp at q0 q1 q2 q3
        clear HQ3 a0 a1 a2 a3
        go_wp2_with ((with_reducible refine wpList_append_run (o := ⟨some 35, _, _, _, _, _⟩) rfl _ _ _ _ rfl _ _ rfl rfl (HAP.out _) ?_))
        go_roundw
        case rel => exact ⟨_, true, k + 1, _, rfl, rfl, by go_num, by omega, HZ3, HO2⟩
        case measure => simp [intOf]; omega
    · cases d
      · have hB3 := HO.out.b1
        have a0 := hB3.cell 0
        have a1 := hB3.cell 1
        have a2 := hB3.cell 2
        have a3 := hB3.cell 3
        simp at a0 a1 a2 a3
        obtain ⟨v', w', hrun, O2⟩ := (HO.out.other (.cells #[.int .i64 x1, .int .i64 x2, .int .i64 x3, .int .i64 x4] 35)).appendQ wr.heap.size (x1, x2, x3, x4) (Blk.new wr 35 #[.int .i64 x1, .int .i64 x2, .int .i64 x3, .int .i64 x4]) (by have := HZl.out; omega)
        have HAP := Lib.hid hrun
        have HO2 := Lib.hid O2
        clear hrun O2 hB3
        go_wp2_with ((with_reducible refine wpList_append_run (o := ⟨some 41, _, _, _, _, _⟩) rfl _ _ _ _ rfl _ _ rfl rfl (HAP.out _) ?_))
        go_ret
        have hz : Z ++ [(x1, x2, x3, x4)] = insQ (x1, x2, x3, x4) X := by
          have h := HZ.out
          rw [List.drop_of_length_le (by rw [HL.out]; omega)] at h
          simpa [insQ] using h
        rw [← hz]
        exact ⟨v', rfl, HO2.out.rowBase, HO2.out.below⟩
      · go_wp2_with fail
        go_ret
        have hz : Z = insQ (x1, x2, x3, x4) X := by
          have h := HZ.out
          rw [List.drop_of_length_le (by rw [HL.out]; omega)] at h
          simpa using h
        rw [← hz]
        exact ⟨v, rfl, HO.out.rowBase, HO.out.below⟩
end Go.Proofs.Ytdpohbaeopidmaa

/- append onto a row of the call's own whose head may be frozen: as the library's laws (Lib/FrozenHead, FrozenHead2), and besides: the new row is the old one or a new block. No program in sight. -/
namespace Go.Proofs.Ytdpohbaeopidmaa
set_option linter.unusedVariables false
set_option linter.unusedSimpArgs false
open Go Go.RowKit Go.Lib

theorem ownsF_mono {w : World} {base base' : Nat} {e : TypeId} {size : Nat} {v : Value} {n : Nat} {xs : List Value} (h : w.ownsRowF base e size v n xs) (hb : base' ≤ base) : w.ownsRowF base' e size v n xs := by
  refine ⟨h.1, ?_⟩
  rcases h.2 with hn | ⟨g, cap, cur, fz, hv, hg, rest⟩
  · exact .inl hn
  · exact .inr ⟨g, cap, cur, fz, hv, Nat.le_trans hb hg, rest⟩
theorem ownsF_fresh {w w' : World} {e : TypeId} {size : Nat} {v : Value} {n : Nat} {xs : List Value} (h : w'.ownsRowF w.heap.size e size v n xs) : v.ownBlock = (Value.slice none 0 0).ownBlock ∨ ∃ k, v.ownBlock = some k ∧ w.heap.size ≤ k := by
  rcases h.2 with ⟨rfl, _⟩ | ⟨g, cap, cur, fz, rfl, hg, _⟩
  · exact .inl rfl
  · exact .inr ⟨g, rfl, hg⟩

section
variable {P : Program} (w : World)

theorem buf_append_string (base : Nat) (t u ty e : TypeId) (i : TypeInfo) (ht : P.underlying t = some (.slice e)) (hu : P.underlying u = some .string) (hi : P.info? e = some i) (hz : i.zero = some (.int .u8 0))
    (hsize : i.size = 1) (hby : i.bytes = 1)
    (v : Value) (n : Nat) (xs : List Value) (hown : w.ownsRowF base e 1 v n xs) (s : ByteArray)
    (h63 : n + s.size ≤ maxLen) (hbytes : n + s.size ≤ 140737488355328) (hbase : base ≤ w.heap.size) :
    ∃ v' w', (Builtin.append_ #[t, u] ty #[v, .string s]).run P w = .ok v' w' ∧ w'.ownsRowF base e 1 v' (n + s.size) (xs ++ strCells s) ∧ w.grownBy w' v.ownBlock ∧
      (v'.ownBlock = v.ownBlock ∨ ∃ k, v'.ownBlock = some k ∧ w.heap.size ≤ k) := by
  rcases hown.2 with ⟨rfl, rfl⟩ | ⟨g, cap, cur, fz, rfl, hbg, hg, hfz, hnc, hcm, hcs, htake⟩
  · -- no row yet: the elder law
    obtain ⟨v', w', h1, h2, h3, h4⟩ := run_append_own_string (P := P) w w.heap.size t u ty e i ht hu hi hz hsize hby (.slice none 0 0) 0 xs ⟨hown.1, .inl ⟨rfl, rfl⟩⟩ s h63 hbytes (Nat.le_refl _)
    exact ⟨v', w', h1, ownsF_mono (World.ownsRowF_of h2) hbase, h3, ownsF_fresh (World.ownsRowF_of h2)⟩
  · have hsmall : n + s.size ≤ 9223372036854775807 := by simp only [maxLen] at h63; omega
    have hxl : xs.length = n := by simpa using hown.1
    have hlen : (xs ++ strCells s).length = (n + s.size) * 1 := by rw [List.length_append, hxl, strCells_length, Nat.mul_one]
    by_cases hroom : n + s.size ≤ cap
    · have hcs' : cur.size = cap := by simpa using hcs
      have hr := run_append_room_stringF (P := P) w t u ty e i ht hu hi hsize g n cap cur fz hg (by simpa using hfz) s hroom (by omega)
      refine ⟨_, _, hr, ⟨hlen, .inr ⟨g, cap, _, fz, rfl, hbg, setRow_heap w g cur _ e _ hg, by omega, hroom, hcm, ?_, ?_⟩⟩, ⟨rfl, rfl, rfl, by simp, fun k _ hk => setRow_other w g k _ (fun e => hk (by simp [Value.ownBlock, e]))⟩, .inl rfl⟩
      · simp only [List.size_toArray, List.length_append, List.length_take, List.length_drop, Array.length_toList, strCells_length]
        omega
      · have ht' : cur.toList.take n = xs := by simpa using htake
        rw [ht', ← hlen]
        exact List.take_left
    · have holds : ∀ j u, xs[j]? = some u → w.cell? ((⟨g, 0, none⟩ : Addr).add j) = some u := hown.cells (g := g) rfl
      have hr := run_append_grow_string (P := P) w t u ty e i (.int .u8 0) ht hu hi hz ⟨g, 0, none⟩ n cap xs (by rw [hsize]; simpa using hxl) holds s (by omega) (by omega) (by rw [hby]; exact growslice_fits (by omega) (by omega))
      have hge := grownCap_ge w (n + s.size) cap e
      have hcm2 : grownCap w (n + s.size) cap e ≤ maxLen := grownCap_le_maxLen w (n + s.size) cap e h63
      refine ⟨_, _, hr, ⟨hlen, .inr ⟨w.heap.size, _, _, (0, 0), rfl, hbase, _root_.Go.heap_alloc_new w.drew _, Nat.zero_le _, hge, hcm2, ?_, ?_⟩⟩, ⟨rfl, rfl, rfl, by simp, fun k hk _ => _root_.Go.heap_alloc_old w.drew _ hk⟩, .inr ⟨_, rfl, Nat.le_refl _⟩⟩
      · have hz1 : (Value.int IntKind.u8 0).cells.size = 1 := rfl
        simp only [Array.size_append, List.size_toArray, size_zeroCells, hz1, hxl, strCells_length]
        omega
      · simp only [Array.toList_append, List.append_assoc]
        rw [← List.append_assoc, ← hlen]
        exact List.take_left

theorem wp_buf_string {ops : Array Oper} {rest : List Oper} {o : Oper} {a : Act} {Q : Exit → Act → World → Prop} (hgd : o.guard = none) (sl x : Operand) (t u : TypeId)
    (ho : o.op = .call { callee := .builtin .append, args := #[sl, x], argTypes := #[t, u] })
    (base : Nat) (e : TypeId) (i : TypeInfo) (ht : P.underlying t = some (.slice e)) (hu : P.underlying u = some .string) (hi : P.info? e = some i) (hz : i.zero = some (.int .u8 0))
    (hsize : i.size = 1) (hby : i.bytes = 1)
    (v : Value) (n : Nat) (xs : List Value) (hs : a.eval sl = v) (hown : w.ownsRowF base e 1 v n xs) (s : ByteArray) (hx : a.eval x = .string s)
    (h63 : n + s.size ≤ maxLen) (hbytes : n + s.size ≤ 140737488355328) (hbase : base ≤ w.heap.size)
    (h : ∀ v' w', w'.ownsRowF base e 1 v' (n + s.size) (xs ++ strCells s) → w.grownBy w' v.ownBlock → (v'.ownBlock = v.ownBlock ∨ ∃ k, v'.ownBlock = some k ∧ w.heap.size ≤ k) → wpList P ops Q rest (a.put o.dst v') w') : wpList P ops Q (o :: rest) a w := by
  refine wpList_plain hgd fun K hK => ?_
  obtain ⟨v', w', hr, h2, h3, h4⟩ := buf_append_string (P := P) w base t u o.type e i ht hu hi hz hsize hby v n xs hown s h63 hbytes hbase
  unfold Oper.wp execOp
  simp only [ho, resolve, invoke, builtin, Sem.run_bind, Sem.run_pure, Result.andThen_ok, List.map_toArray, List.map_cons, List.map_nil, hs, hx, hr]
  exact hK _ _ (h v' w' h2 h3 h4)


theorem buf_append_cells (base : Nat) (t ty e : TypeId) (i : TypeInfo) (z : Value) (size bytes : Nat) (ht : P.underlying t = some (.slice e)) (hi : P.info? e = some i) (hz : i.zero = some z)
    (hsize : i.size = size) (hby : i.bytes = bytes) (hzs : z.cells.size = size) (hsz : 0 < size)
    (v : Value) (n : Nat) (xs : List Value) (hown : w.ownsRowF base e size v n xs)
    (a : Addr) (m c : Nat) (news : List Value) (hl : news.length = m * size) (hnews : ∀ j u, news[j]? = some u → w.cell? (a.add j) = some u) (h1 : ∀ u ∈ news, u.oneCell' = true)
    (h63 : n + m ≤ maxLen) (hbytes : (n + m) * bytes ≤ 140737488355328) (hbase : base ≤ w.heap.size) :
    ∃ v' w', (Builtin.append_ #[t, t] ty #[v, .slice (some a) m c]).run P w = .ok v' w' ∧ w'.ownsRowF base e size v' (n + m) (xs ++ news) ∧ w.grownBy w' v.ownBlock ∧
      (v'.ownBlock = v.ownBlock ∨ ∃ k, v'.ownBlock = some k ∧ w.heap.size ≤ k) := by
  rcases hown.2 with ⟨rfl, rfl⟩ | ⟨g, cap, cur, fz, rfl, hbg, hg, hfz, hnc, hcm, hcs, htake⟩
  · obtain ⟨v', w', r1, r2, r3, r4⟩ := run_append_own (P := P) w w.heap.size t ty e i z size bytes ht hi hz hsize hby hzs hsz (.slice none 0 0) 0 xs ⟨hown.1, .inl ⟨rfl, rfl⟩⟩ a m c news hl hnews h1 h63 hbytes (Nat.le_refl _)
    exact ⟨v', w', r1, ownsF_mono (World.ownsRowF_of r2) hbase, r3, ownsF_fresh (World.ownsRowF_of r2)⟩
  · subst hsize
    subst hby
    have hsmall : n + m ≤ 9223372036854775807 := by simp only [maxLen] at h63; omega
    have hlen : (xs ++ news).length = (n + m) * i.size := by rw [List.length_append, hown.1, hl, Nat.add_mul]
    by_cases hroom : n + m ≤ cap
    · have hfit : n * i.size + news.length ≤ cur.size := by rw [hl, hcs, ← Nat.add_mul]; exact Nat.mul_le_mul_right _ hroom
      have hr := run_append_roomF (P := P) w t ty e i ht hi g n cap cur fz hg hfz a m c news hl hnews h1 hroom hfit
      refine ⟨_, _, hr, ⟨hlen, .inr ⟨g, cap, _, fz, rfl, hbg, setRow_heap w g cur _ e _ hg, Nat.le_trans hfz (Nat.mul_le_mul_right _ (Nat.le_add_right n m)), hroom, hcm, ?_, ?_⟩⟩, ⟨rfl, rfl, rfl, by simp, fun k _ hk => setRow_other w g k _ (fun e => hk (by simp [Value.ownBlock, e]))⟩, .inl rfl⟩
      · simp only [List.size_toArray, List.length_append, List.length_take, List.length_drop, Array.length_toList]
        omega
      · rw [htake, ← hlen]
        exact List.take_left
    · have holds : ∀ j u, xs[j]? = some u → w.cell? ((⟨g, 0, none⟩ : Addr).add j) = some u := hown.cells (g := g) rfl
      have hr := run_append_grow (P := P) w t ty e i z ht hi hz ⟨g, 0, none⟩ n cap xs hown.1 holds a m c news hl hnews (by omega) (by omega) (growslice_fits (by omega) hbytes)
      have hge := grownCap_ge w (n + m) cap e
      have hcm2 : grownCap w (n + m) cap e ≤ maxLen := grownCap_le_maxLen w (n + m) cap e h63
      refine ⟨_, _, hr, ⟨hlen, .inr ⟨w.heap.size, _, _, (0, 0), rfl, hbase, _root_.Go.heap_alloc_new w.drew _, Nat.zero_le _, hge, hcm2, ?_, ?_⟩⟩, ⟨rfl, rfl, rfl, by simp, fun k hk _ => _root_.Go.heap_alloc_old w.drew _ hk⟩, .inr ⟨_, rfl, Nat.le_refl _⟩⟩
      · simp only [Array.size_append, List.size_toArray, size_zeroCells, hzs, hown.1, hl, ← Nat.add_mul]
        congr 1
        omega
      · simp only [Array.toList_append, List.append_assoc]
        rw [← List.append_assoc, ← hlen]
        exact List.take_left

theorem wp_buf_cells {ops : Array Oper} {rest : List Oper} {o : Oper} {a : Act} {Q : Exit → Act → World → Prop} (hgd : o.guard = none) (s x : Operand) (t : TypeId)
    (ho : o.op = .call { callee := .builtin .append, args := #[s, x], argTypes := #[t, t] })
    (base : Nat) (e : TypeId) (i : TypeInfo) (z : Value) (size bytes : Nat) (ht : P.underlying t = some (.slice e)) (hi : P.info? e = some i) (hz : i.zero = some z)
    (hsize : i.size = size) (hby : i.bytes = bytes) (hzs : z.cells.size = size) (hsz : 0 < size)
    (v : Value) (n : Nat) (xs : List Value) (hs : a.eval s = v) (hown : w.ownsRowF base e size v n xs)
    (ad : Addr) (m c : Nat) (news : List Value) (hx : a.eval x = .slice (some ad) m c) (hl : news.length = m * size) (hnews : ∀ j u, news[j]? = some u → w.cell? (ad.add j) = some u) (h1 : ∀ u ∈ news, u.oneCell' = true)
    (h63 : n + m ≤ maxLen) (hbytes : (n + m) * bytes ≤ 140737488355328) (hbase : base ≤ w.heap.size)
    (h : ∀ v' w', w'.ownsRowF base e size v' (n + m) (xs ++ news) → w.grownBy w' v.ownBlock → (v'.ownBlock = v.ownBlock ∨ ∃ k, v'.ownBlock = some k ∧ w.heap.size ≤ k) → wpList P ops Q rest (a.put o.dst v') w') : wpList P ops Q (o :: rest) a w := by
  refine wpList_plain hgd fun K hK => ?_
  obtain ⟨v', w', hr, h2, h3, h4⟩ := buf_append_cells (P := P) w base t o.type e i z size bytes ht hi hz hsize hby hzs hsz v n xs hown ad m c news hl hnews h1 h63 hbytes hbase
  unfold Oper.wp execOp
  simp only [ho, resolve, invoke, builtin, Sem.run_bind, Sem.run_pure, Result.andThen_ok, List.map_toArray, List.map_cons, List.map_nil, hs, hx, hr]
  exact hK _ _ (h v' w' h2 h3 h4)
end
end Go.Proofs.Ytdpohbaeopidmaa
