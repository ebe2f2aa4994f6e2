/- owners' law: OwnersExact: the deeds (printed by XOwnEc.gen.py). -/
import Derived.Test.YtdpohbaeopidmaaKOwnersExact22
namespace Go.Proofs.Ytdpohbaeopidmaa
set_option linter.unusedVariables false
set_option linter.unusedSimpArgs false
open Go.RowKit Go.Maps

set_option maxRecDepth 100000 in
set_option maxHeartbeats 4000000 in
theorem ownE_deed1 {H : Nat} {A0 : World} {pb ub xb qb : Nat} {F : List Nat} {v1 v2 : Value} {U V : List QD} {c y1 y2 y3 : Int} {m : Nat} {A : Option Addr} {len cap i : Nat} {Q : Exit → Act → World → Prop} (a : Act) (w : World) (k : Fr 273 a)
    (e0 : a.eval (.tmp 0) = .slice A len cap) (e3 : a.eval (.tmp 3) = .pointer (some ⟨pb, 0, none⟩)) (e4 : a.eval (.tmp 4) = .pointer (some ⟨ub, 0, none⟩)) (e5 : a.eval (.tmp 5) = .int .i64 ↑i) (e6 : a.eval (.tmp 6) = .pointer (some ⟨xb, 0, none⟩)) (e7 : a.eval (.tmp 7) = .pointer (some ⟨qb, 0, none⟩)) (e43 : a.eval (.tmp 43) = .int .i64 1)
    (O : OwnT H A0 [tOB pb F (ofQ U) (ofQ V), tBlk ub 29 #[v1, v2], tRow 35 4 (v1) U.length (U.flatMap qC), tRow 35 4 (v2) V.length (V.flatMap qC), tBlk xb 33 #[.int .i64 1, .int .i64 c, .int .i64 y1, .int .i64 y2, .int .i64 y3], tBlk qb 35 #[.int .i64 c, .int .i64 y1, .int .i64 y2, .int .i64 y3]] w) (hG : ExG U V m) (hm : m ≤ 1000) (hwf : wfV c) 
    (hQ : ∀ a w F' u1 u2 U' V', Fr 273 a → a.eval (.tmp 0) = .slice A len cap → a.eval (.tmp 3) = .pointer (some ⟨pb, 0, none⟩) → a.eval (.tmp 4) = .pointer (some ⟨ub, 0, none⟩) → a.eval (.tmp 5) = .int .i64 ↑i → a.eval (.tmp 6) = .pointer (some ⟨xb, 0, none⟩) → OwnT H A0 [tOB pb F' (ofQ U') (ofQ V'), tBlk ub 29 #[u1, u2], tRow 35 4 (u1) U'.length (U'.flatMap qC), tRow 35 4 (u2) V'.length (V'.flatMap qC), tBlk xb 33 #[.int .i64 1, .int .i64 c, .int .i64 y1, .int .i64 y2, .int .i64 y3]] w → ExG U' V' (m + 1) → Q .normal a w) :
    Code.wp Try.prog (codeAt [1, 1, 1, 1, 0, 1, 0, 0, 1, 0, 0, 1, 1, 0, 1] (Try.f3.body.getD .skip)) Q a w := by
  conv => arg 2; whnf
  have hlU : U.length ≤ 1000000 := by have := hG.lu; omega
  have hlV : V.length ≤ 1000000 := by have := hG.lv; omega
  obtain ⟨B1, cap1, rfl, hk1, hm1, -, -⟩ := ownsRow_Row qC_len (by decide) (OwnT.get O 2 rfl : World.ownsRow _ 0 35 4 v1 U.length (U.flatMap qC))
  
  by_cases hcr : 1 ≤ c ∧ c ≤ 1023
  · obtain ⟨hc1, hc2⟩ := hcr
    by_cases hin : (c, y1, y2, y3) ∈ U
    · have hin' := hin
      refine wp_block ?_
      refine wp_seq ?_
      refine wp_seq ?_
      refine wp_region_lit ?_   -- region 13
      have hE := Env.refl a [56, 55]
      apply sq_det 56 hE k rfl (by rfl) (by rfl) rfl
      case h =>   -- 0: t56 := Op.binOp BinOp.eql 3 (tmp 43) (const (Value.int IntKind.i64 1)) 3
        exact x_eql rfl (hE.eval 43 (by rfl) e43) rfl
      intro a1 hE e56 kp
      apply sq_det 55 hE k rfl (by rfl) (by rfl) rfl
      case h =>   -- 1: t55 := Op.assign (tmp 56)
        exact x_assign rfl e56
      intro a2 hE e55 kp
      refine wpList_nil ?_
      replace e0 := hE.eval 0 (by rfl) e0
      replace e3 := hE.eval 3 (by rfl) e3
      replace e4 := hE.eval 4 (by rfl) e4
      replace e5 := hE.eval 5 (by rfl) e5
      replace e6 := hE.eval 6 (by rfl) e6
      replace e7 := hE.eval 7 (by rfl) e7
      replace e43 := hE.eval 43 (by rfl) e43
      replace k := k.env hE
      clear hE
      refine then_n ?_
      refine cond_t e55 rfl ?_
      refine wp_skip ?_
      refine then_n ?_
      refine cond_t e55 rfl ?_
      refine wp_seq ?_
      refine wp_region_lit ?_   -- region 15
      have hE := Env.refl a2 [58, 59, 60, 61, 62, 63, 8]
      apply sq_det 58 hE k rfl (by rfl) (by rfl) rfl
      case h =>   -- 0: t58 := Op.move (tmp 3)
        exact x_move rfl (hE.eval 3 (by rfl) e3)
      intro a3 hE e58 kp
      apply sq_det 59 hE k rfl (by rfl) (by rfl) rfl
      case h =>   -- 1: t59 := Op.fieldAddr 33 (tmp 6) 1
        simp [go_sem, BigFrame.eval_const, BigFrame.eval_global, BigFrame.eval_func, ↓IntWalk.iteOmega, ev (hE.eval 6 (by rfl) e6)]
        with_reducible rfl
      intro a4 hE e59 kp
      replace e58 := (kp 58 rfl).trans e58
      apply sq_det 60 hE k rfl (by rfl) (by rfl) rfl
      case h =>   -- 2: t60 := Op.load 3 (tmp 59)
        have q0 : w.cell? ⟨xb, 1, none⟩ = some (.int .i64 c) := (OwnT.blk O 4 rfl).cell 1
        simp [go_sem, BigFrame.eval_const, BigFrame.eval_global, BigFrame.eval_func, ↓IntWalk.iteOmega, ev e59, q0]
        with_reducible rfl
      intro a5 hE e60 kp
      replace e58 := (kp 58 rfl).trans e58
      apply sq_det 61 hE k rfl (by rfl) (by rfl) rfl
      case h =>   -- 3: t61 := Op.fieldAddr 33 (tmp 6) 2
        simp [go_sem, BigFrame.eval_const, BigFrame.eval_global, BigFrame.eval_func, ↓IntWalk.iteOmega, ev (hE.eval 6 (by rfl) e6)]
        with_reducible rfl
      intro a6 hE e61 kp
      replace e58 := (kp 58 rfl).trans e58
      replace e60 := (kp 60 rfl).trans e60
      apply sq_det 62 hE k rfl (by rfl) (by rfl) rfl
      case h =>   -- 4: t62 := Op.load 31 (tmp 61)
        have q0 : w.cell? ⟨xb, 2, none⟩ = some (.int .i64 y1) := (OwnT.blk O 4 rfl).cell 2
        have q1 : w.cell? ⟨xb, 3, none⟩ = some (.int .i64 y2) := (OwnT.blk O 4 rfl).cell 3
        have q2 : w.cell? ⟨xb, 4, none⟩ = some (.int .i64 y3) := (OwnT.blk O 4 rfl).cell 4
        simp [go_sem, BigFrame.eval_const, BigFrame.eval_global, BigFrame.eval_func, ↓IntWalk.iteOmega, ev e61, q0, q1, q2]
        with_reducible rfl
      intro a7 hE e62 kp
      replace e58 := (kp 58 rfl).trans e58
      replace e60 := (kp 60 rfl).trans e60
      apply sq_call 63 hE k rfl (by rfl) (by rfl) rfl
      case h =>   -- (*tierce/owners.Book).Add
        simp [go_sem, BigFrame.eval_const, BigFrame.eval_global, BigFrame.eval_func, ↓IntWalk.iteOmega, ev e58, ev e60, ev e62]
        with_reducible exact ⟨rfl, rfl⟩
      case hc => exact add_all pb _ _ _ c (y1, y2, y3) _ O (Nat.le_trans (hG.n c) (by omega))
      clear O
      rintro e w9 ⟨he, F1, O⟩
      rw [addE_has hc1 hc2 hin] at he
      rw [addL_has hin] at O
      refine ⟨_, he, ?_⟩
      intro a8 hE e63 kp
      apply sq_det 8 hE k rfl (by rfl) (by rfl) rfl
      case h =>   -- 6: t8 := Op.assign (tmp 63)
        exact x_assign rfl e63
      intro a10 hE e8 kp
      refine wpList_nil ?_
      replace e0 := hE.eval 0 (by rfl) e0
      replace e3 := hE.eval 3 (by rfl) e3
      replace e4 := hE.eval 4 (by rfl) e4
      replace e5 := hE.eval 5 (by rfl) e5
      replace e6 := hE.eval 6 (by rfl) e6
      replace e7 := hE.eval 7 (by rfl) e7
      replace k := k.env hE
      clear hE e43 e55
      refine then_n ?_
      refine wp_seq ?_
      refine wp_region_lit ?_   -- region 16
      have hE := Env.refl a10 [9]
      apply sq_det 9 hE k rfl (by rfl) (by rfl) rfl
      case h =>   -- 0: t9 := Op.assign (const (Value.int IntKind.i64 0))
        exact x_assign rfl rfl
      intro a11 hE e9 kp
      refine wpList_nil ?_
      replace e0 := hE.eval 0 (by rfl) e0
      replace e3 := hE.eval 3 (by rfl) e3
      replace e4 := hE.eval 4 (by rfl) e4
      replace e5 := hE.eval 5 (by rfl) e5
      replace e6 := hE.eval 6 (by rfl) e6
      replace e7 := hE.eval 7 (by rfl) e7
      replace e8 := hE.eval 8 (by rfl) e8
      replace k := k.env hE
      clear hE
      refine then_n ?_
      refine wp_seq ?_
      refine wp_seq ?_
      refine wp_region_lit ?_   -- region 17
      have hE := Env.refl a11 [64, 65, 66, 67, 68, 69, 70, 71]
      apply sq_det 64 hE k rfl (by rfl) (by rfl) rfl
      case h =>   -- 0: t64 := Op.fieldAddr 33 (tmp 6) 1
        simp [go_sem, BigFrame.eval_const, BigFrame.eval_global, BigFrame.eval_func, ↓IntWalk.iteOmega, ev (hE.eval 6 (by rfl) e6)]
        with_reducible rfl
      intro a12 hE e64 kp
      apply sq_det 65 hE k rfl (by rfl) (by rfl) rfl
      case h =>   -- 1: t65 := Op.load 3 (tmp 64)
        have q0 : w9.cell? ⟨xb, 1, none⟩ = some (.int .i64 c) := (OwnT.blk O 4 rfl).cell 1
        simp [go_sem, BigFrame.eval_const, BigFrame.eval_global, BigFrame.eval_func, ↓IntWalk.iteOmega, ev e64, q0]
        with_reducible rfl
      intro a13 hE e65 kp
      apply sq_det 66 hE k rfl (by rfl) (by rfl) rfl
      case h =>   -- 2: t66 := Op.binOp BinOp.lss 3 (tmp 65) (const (Value.int IntKind.i64 1)) 3
        exact x_dec (x_lss rfl e65 rfl) (decide_eq_false (by omega))
      intro a14 hE e66 kp
      apply sq_det 67 hE k rfl (by rfl) (by rfl) rfl
      case h =>   -- 3: t67 := Op.move (tmp 66)
        exact x_move rfl e66
      intro a15 hE e67 kp
      apply sq_detg 68 hE k rfl (by rfl) (by rfl) rfl rfl e67
      case h =>   -- 4: t68 := Op.fieldAddr 33 (tmp 6) 1
        simp [go_sem, BigFrame.eval_const, BigFrame.eval_global, BigFrame.eval_func, ↓IntWalk.iteOmega, ev (hE.eval 6 (by rfl) e6)]
        with_reducible rfl
      intro a16 hE e68 kp
      replace e67 := (kp 67 rfl).trans e67
      apply sq_detg 69 hE k rfl (by rfl) (by rfl) rfl rfl e67
      case h =>   -- 5: t69 := Op.load 3 (tmp 68)
        have q0 : w9.cell? ⟨xb, 1, none⟩ = some (.int .i64 c) := (OwnT.blk O 4 rfl).cell 1
        simp [go_sem, BigFrame.eval_const, BigFrame.eval_global, BigFrame.eval_func, ↓IntWalk.iteOmega, ev e68, q0]
        with_reducible rfl
      intro a17 hE e69 kp
      replace e67 := (kp 67 rfl).trans e67
      apply sq_detg 70 hE k rfl (by rfl) (by rfl) rfl rfl e67
      case h =>   -- 6: t70 := Op.binOp BinOp.gtr 3 (tmp 69) (const (Value.int IntKind.i64 1023)) 3
        exact x_dec (x_gtr rfl e69 rfl) (decide_eq_false (by omega))
      intro a18 hE e70 kp
      replace e67 := (kp 67 rfl).trans e67
      apply sq_det 71 hE k rfl (by rfl) (by rfl) rfl
      case h =>   -- 7: t71 := Op.pick (tmp 67) (const (Value.bool true)) (tmp 70)
        exact x_pick_f rfl e67 e70
      intro a19 hE e71 kp
      refine wpList_nil ?_
      replace e0 := hE.eval 0 (by rfl) e0
      replace e3 := hE.eval 3 (by rfl) e3
      replace e4 := hE.eval 4 (by rfl) e4
      replace e5 := hE.eval 5 (by rfl) e5
      replace e6 := hE.eval 6 (by rfl) e6
      replace e7 := hE.eval 7 (by rfl) e7
      replace e8 := hE.eval 8 (by rfl) e8
      replace e9 := hE.eval 9 (by rfl) e9
      replace k := k.env hE
      clear hE
      refine then_n ?_
      refine cond_f e71 rfl ?_
      refine wp_seq ?_
      refine wp_typed (R := Ext) (w0 := w9) [[], [0], [0, 1], [0, 1, 2], [], [0, 1, 2, 3, 4]] [72, 73, 74, 75, 76, 77] Ext.refl (fun _ _ _ => Ext.trans) (Ext.drew _) (by kernel_rfl) ?_   -- region 19
      apply Build.det 72 Ext.refl (by rfl) (by rw [k.size]; rfl) rfl
      case h =>   -- 0: t72 := Op.move (tmp 4)
        intro ax wx hE hR hF
        exact x_move rfl (hE.eval 4 (by rfl) e4)
      apply Build.det 73 Ext.refl (by rfl) (by rw [k.size]; rfl) rfl
      case h =>   -- 1: t73 := Op.nilCheck (tmp 72)
        intro ax wx hE hR hF
        have e72 : ax.eval (.tmp 72) = _ := hF 0 (det 72 _) (by decide) (.head _)
        exact x_nil rfl e72
      apply Build.det 74 Ext.refl (by rfl) (by rw [k.size]; rfl) rfl
      case h =>   -- 2: t74 := Op.fieldAddr 29 (tmp 73) 0
        intro ax wx hE hR hF
        have e73 : ax.eval (.tmp 73) = _ := hF 1 (det 73 _) (by decide) (.head _)
        simp [go_sem, BigFrame.eval_const, BigFrame.eval_global, BigFrame.eval_func, ↓IntWalk.iteOmega, ev e73]
        with_reducible rfl
      apply Build.det 75 Ext.refl (by rfl) (by rw [k.size]; rfl) rfl
      case h =>   -- 3: t75 := Op.load 27 (tmp 74)
        intro ax wx hE hR hF
        have e74 : ax.eval (.tmp 74) = _ := hF 2 (det 74 _) (by decide) (.head _)
        have q0 : wx.cell? ⟨ub, 0, none⟩ = some (.slice B1 U.length cap1) := (OwnT.blk (OwnT.ext O hR) 1 rfl).cell 0
        simp [go_sem, BigFrame.eval_const, BigFrame.eval_global, BigFrame.eval_func, ↓IntWalk.iteOmega, ev e74, q0]
        with_reducible rfl
      apply Build.det 76 Ext.refl (by rfl) (by rw [k.size]; rfl) rfl
      case h =>   -- 4: t76 := Op.load 35 (tmp 7)
        intro ax wx hE hR hF
        have q0 : wx.cell? ⟨qb, 0, none⟩ = some (.int .i64 c) := (OwnT.blk (OwnT.ext O hR) 5 rfl).cell 0
        have q1 : wx.cell? ⟨qb, 1, none⟩ = some (.int .i64 y1) := (OwnT.blk (OwnT.ext O hR) 5 rfl).cell 1
        have q2 : wx.cell? ⟨qb, 2, none⟩ = some (.int .i64 y2) := (OwnT.blk (OwnT.ext O hR) 5 rfl).cell 2
        have q3 : wx.cell? ⟨qb, 3, none⟩ = some (.int .i64 y3) := (OwnT.blk (OwnT.ext O hR) 5 rfl).cell 3
        simp [go_sem, BigFrame.eval_const, BigFrame.eval_global, BigFrame.eval_func, ↓IntWalk.iteOmega, ev (hE.eval 7 (by rfl) e7), q0, q1, q2, q3]
        with_reducible rfl
      apply Build.call 77 Ext.refl (by rfl) (by rw [k.size]; rfl) rfl
      case h =>   -- 5: t77 := tierce/tierceref13.Has
        intro ax wx hE hR hF
        have e75 : ax.eval (.tmp 75) = _ := hF 3 (det 75 _) (by decide) (.tail _ (.head _))
        have e76 : ax.eval (.tmp 76) = _ := hF 4 (det 76 _) (by decide) (.head _)
        simp [go_sem, BigFrame.eval_const, BigFrame.eval_global, BigFrame.eval_func, ↓IntWalk.iteOmega, ev e75, ev e76]
        with_reducible exact ⟨rfl, rfl⟩
      case hc => intro wx hR; exact (show Calls _ _ _ _ (fun e w' => e = .returned (.bool true) ∧ Ext wx w') from (has_any B1 U.length cap1 U (c, y1, y2, y3) wx rfl (by omega) (rowQ_of (OwnT.get (OwnT.ext O hR) 2 rfl : World.ownsRow _ 0 35 4 _ U.length (U.flatMap qC))).2).mono (fun e w' h => ⟨h.1.trans (by rw [decide_eq_true hin]), h.2⟩))
      apply Build.stop
      refine ⟨by kernel_rfl, .inl ⟨rfl, ?_⟩⟩
      intro a20 w21 hE R hF
      have e77 : a20.eval (.tmp 77) = _ := hF 5 (det 77 _) (.head _)
      clear hF
      replace O := OwnT.ext O R
      clear R
      replace e0 := hE.eval 0 (by rfl) e0
      replace e3 := hE.eval 3 (by rfl) e3
      replace e4 := hE.eval 4 (by rfl) e4
      replace e5 := hE.eval 5 (by rfl) e5
      replace e6 := hE.eval 6 (by rfl) e6
      replace e7 := hE.eval 7 (by rfl) e7
      replace e8 := hE.eval 8 (by rfl) e8
      replace e9 := hE.eval 9 (by rfl) e9
      replace k := k.env hE
      clear hE e71
      refine then_n ?_
      refine cond_t e77 rfl ?_
      refine wp_region_lit ?_   -- region 20
      have hE := Env.refl a20 [9]
      apply sq_det 9 hE k rfl (by rfl) (by rfl) rfl
      case h =>   -- 0: t9 := Op.assign (const (Value.int IntKind.i64 8))
        exact x_assign rfl rfl
      intro a22 hE e9 kp
      refine wpList_nil ?_
      replace e0 := hE.eval 0 (by rfl) e0
      replace e3 := hE.eval 3 (by rfl) e3
      replace e4 := hE.eval 4 (by rfl) e4
      replace e5 := hE.eval 5 (by rfl) e5
      replace e6 := hE.eval 6 (by rfl) e6
      replace e8 := hE.eval 8 (by rfl) e8
      replace k := k.env hE
      clear hE e7 e77
      refine then_n ?_
      refine wp_seq ?_
      refine wp_region_lit ?_   -- region 22
      have hE := Env.refl a22 [87, 88, 89]
      apply sq_det 87 hE k rfl (by rfl) (by rfl) rfl
      case h =>   -- 0: t87 := Op.move (tmp 8)
        exact x_move rfl (hE.eval 8 (by rfl) e8)
      intro a23 hE e87 kp
      apply sq_det 88 hE k rfl (by rfl) (by rfl) rfl
      case h =>   -- 1: t88 := Op.move (tmp 9)
        exact x_move rfl (hE.eval 9 (by rfl) e9)
      intro a24 hE e88 kp
      replace e87 := (kp 87 rfl).trans e87
      apply sq_det 89 hE k rfl (by rfl) (by rfl) rfl
      case h =>   -- 2: t89 := Op.binOp BinOp.neq 36 (tmp 87) (tmp 88) 36
        exact x_neq rfl e87 e88
      intro a25 hE e89 kp
      refine wpList_nil ?_
      replace e0 := hE.eval 0 (by rfl) e0
      replace e3 := hE.eval 3 (by rfl) e3
      replace e4 := hE.eval 4 (by rfl) e4
      replace e5 := hE.eval 5 (by rfl) e5
      replace e6 := hE.eval 6 (by rfl) e6
      replace k := k.env hE
      clear hE e8 e9
      refine then_n ?_
      refine cond_f e89 rfl ?_
      refine wp_skip ?_
      refine block_n ?_
      replace O : OwnT _ _ ([tOB pb F1 (ofQ U) (ofQ V), tBlk ub 29 #[.slice B1 U.length cap1, v2], tRow 35 4 (.slice B1 U.length cap1) U.length (U.flatMap qC), tRow 35 4 (v2) V.length (V.flatMap qC), tBlk xb 33 #[.int .i64 1, .int .i64 c, .int .i64 y1, .int .i64 y2, .int .i64 y3]]) w21 := OwnT.pick O [0, 1, 2, 3, 4] (by decide)
      exact hQ _ _ _ _ _ _ _ k e0 e3 e4 e5 e6 O ⟨hG.su, hG.sv, hG.ru, Nat.le_succ_of_le hG.lu, Nat.le_succ_of_le hG.lv⟩
    · have hin' := hin
      refine wp_block ?_
      refine wp_seq ?_
      refine wp_seq ?_
      refine wp_region_lit ?_   -- region 13
      have hE := Env.refl a [56, 55]
      apply sq_det 56 hE k rfl (by rfl) (by rfl) rfl
      case h =>   -- 0: t56 := Op.binOp BinOp.eql 3 (tmp 43) (const (Value.int IntKind.i64 1)) 3
        exact x_eql rfl (hE.eval 43 (by rfl) e43) rfl
      intro a26 hE e56 kp
      apply sq_det 55 hE k rfl (by rfl) (by rfl) rfl
      case h =>   -- 1: t55 := Op.assign (tmp 56)
        exact x_assign rfl e56
      intro a27 hE e55 kp
      refine wpList_nil ?_
      replace e0 := hE.eval 0 (by rfl) e0
      replace e3 := hE.eval 3 (by rfl) e3
      replace e4 := hE.eval 4 (by rfl) e4
      replace e5 := hE.eval 5 (by rfl) e5
      replace e6 := hE.eval 6 (by rfl) e6
      replace e7 := hE.eval 7 (by rfl) e7
      replace e43 := hE.eval 43 (by rfl) e43
      replace k := k.env hE
      clear hE
      refine then_n ?_
      refine cond_t e55 rfl ?_
      refine wp_skip ?_
      refine then_n ?_
      refine cond_t e55 rfl ?_
      refine wp_seq ?_
      refine wp_region_lit ?_   -- region 15
      have hE := Env.refl a27 [58, 59, 60, 61, 62, 63, 8]
      apply sq_det 58 hE k rfl (by rfl) (by rfl) rfl
      case h =>   -- 0: t58 := Op.move (tmp 3)
        exact x_move rfl (hE.eval 3 (by rfl) e3)
      intro a28 hE e58 kp
      apply sq_det 59 hE k rfl (by rfl) (by rfl) rfl
      case h =>   -- 1: t59 := Op.fieldAddr 33 (tmp 6) 1
        simp [go_sem, BigFrame.eval_const, BigFrame.eval_global, BigFrame.eval_func, ↓IntWalk.iteOmega, ev (hE.eval 6 (by rfl) e6)]
        with_reducible rfl
      intro a29 hE e59 kp
      replace e58 := (kp 58 rfl).trans e58
      apply sq_det 60 hE k rfl (by rfl) (by rfl) rfl
      case h =>   -- 2: t60 := Op.load 3 (tmp 59)
        have q0 : w.cell? ⟨xb, 1, none⟩ = some (.int .i64 c) := (OwnT.blk O 4 rfl).cell 1
        simp [go_sem, BigFrame.eval_const, BigFrame.eval_global, BigFrame.eval_func, ↓IntWalk.iteOmega, ev e59, q0]
        with_reducible rfl
      intro a30 hE e60 kp
      replace e58 := (kp 58 rfl).trans e58
      apply sq_det 61 hE k rfl (by rfl) (by rfl) rfl
      case h =>   -- 3: t61 := Op.fieldAddr 33 (tmp 6) 2
        simp [go_sem, BigFrame.eval_const, BigFrame.eval_global, BigFrame.eval_func, ↓IntWalk.iteOmega, ev (hE.eval 6 (by rfl) e6)]
        with_reducible rfl
      intro a31 hE e61 kp
      replace e58 := (kp 58 rfl).trans e58
      replace e60 := (kp 60 rfl).trans e60
      apply sq_det 62 hE k rfl (by rfl) (by rfl) rfl
      case h =>   -- 4: t62 := Op.load 31 (tmp 61)
        have q0 : w.cell? ⟨xb, 2, none⟩ = some (.int .i64 y1) := (OwnT.blk O 4 rfl).cell 2
        have q1 : w.cell? ⟨xb, 3, none⟩ = some (.int .i64 y2) := (OwnT.blk O 4 rfl).cell 3
        have q2 : w.cell? ⟨xb, 4, none⟩ = some (.int .i64 y3) := (OwnT.blk O 4 rfl).cell 4
        simp [go_sem, BigFrame.eval_const, BigFrame.eval_global, BigFrame.eval_func, ↓IntWalk.iteOmega, ev e61, q0, q1, q2]
        with_reducible rfl
      intro a32 hE e62 kp
      replace e58 := (kp 58 rfl).trans e58
      replace e60 := (kp 60 rfl).trans e60
      apply sq_call 63 hE k rfl (by rfl) (by rfl) rfl
      case h =>   -- (*tierce/owners.Book).Add
        simp [go_sem, BigFrame.eval_const, BigFrame.eval_global, BigFrame.eval_func, ↓IntWalk.iteOmega, ev e58, ev e60, ev e62]
        with_reducible exact ⟨rfl, rfl⟩
      case hc => exact add_all pb _ _ _ c (y1, y2, y3) _ O (Nat.le_trans (hG.n c) (by omega))
      clear O
      rintro e w34 ⟨he, F1, O⟩
      rw [addE_new hc1 hc2 hin] at he
      rw [addL_new hG.su hc1 hc2 hin] at O
      refine ⟨_, he, ?_⟩
      intro a33 hE e63 kp
      apply sq_det 8 hE k rfl (by rfl) (by rfl) rfl
      case h =>   -- 6: t8 := Op.assign (tmp 63)
        exact x_assign rfl e63
      intro a35 hE e8 kp
      refine wpList_nil ?_
      replace e0 := hE.eval 0 (by rfl) e0
      replace e3 := hE.eval 3 (by rfl) e3
      replace e4 := hE.eval 4 (by rfl) e4
      replace e5 := hE.eval 5 (by rfl) e5
      replace e6 := hE.eval 6 (by rfl) e6
      replace e7 := hE.eval 7 (by rfl) e7
      replace k := k.env hE
      clear hE e43 e55
      refine then_n ?_
      refine wp_seq ?_
      refine wp_region_lit ?_   -- region 16
      have hE := Env.refl a35 [9]
      apply sq_det 9 hE k rfl (by rfl) (by rfl) rfl
      case h =>   -- 0: t9 := Op.assign (const (Value.int IntKind.i64 0))
        exact x_assign rfl rfl
      intro a36 hE e9 kp
      refine wpList_nil ?_
      replace e0 := hE.eval 0 (by rfl) e0
      replace e3 := hE.eval 3 (by rfl) e3
      replace e4 := hE.eval 4 (by rfl) e4
      replace e5 := hE.eval 5 (by rfl) e5
      replace e6 := hE.eval 6 (by rfl) e6
      replace e7 := hE.eval 7 (by rfl) e7
      replace e8 := hE.eval 8 (by rfl) e8
      replace k := k.env hE
      clear hE
      refine then_n ?_
      refine wp_seq ?_
      refine wp_seq ?_
      refine wp_region_lit ?_   -- region 17
      have hE := Env.refl a36 [64, 65, 66, 67, 68, 69, 70, 71]
      apply sq_det 64 hE k rfl (by rfl) (by rfl) rfl
      case h =>   -- 0: t64 := Op.fieldAddr 33 (tmp 6) 1
        simp [go_sem, BigFrame.eval_const, BigFrame.eval_global, BigFrame.eval_func, ↓IntWalk.iteOmega, ev (hE.eval 6 (by rfl) e6)]
        with_reducible rfl
      intro a37 hE e64 kp
      apply sq_det 65 hE k rfl (by rfl) (by rfl) rfl
      case h =>   -- 1: t65 := Op.load 3 (tmp 64)
        have q0 : w34.cell? ⟨xb, 1, none⟩ = some (.int .i64 c) := (OwnT.blk O 4 rfl).cell 1
        simp [go_sem, BigFrame.eval_const, BigFrame.eval_global, BigFrame.eval_func, ↓IntWalk.iteOmega, ev e64, q0]
        with_reducible rfl
      intro a38 hE e65 kp
      apply sq_det 66 hE k rfl (by rfl) (by rfl) rfl
      case h =>   -- 2: t66 := Op.binOp BinOp.lss 3 (tmp 65) (const (Value.int IntKind.i64 1)) 3
        exact x_dec (x_lss rfl e65 rfl) (decide_eq_false (by omega))
      intro a39 hE e66 kp
      apply sq_det 67 hE k rfl (by rfl) (by rfl) rfl
      case h =>   -- 3: t67 := Op.move (tmp 66)
        exact x_move rfl e66
      intro a40 hE e67 kp
      apply sq_detg 68 hE k rfl (by rfl) (by rfl) rfl rfl e67
      case h =>   -- 4: t68 := Op.fieldAddr 33 (tmp 6) 1
        simp [go_sem, BigFrame.eval_const, BigFrame.eval_global, BigFrame.eval_func, ↓IntWalk.iteOmega, ev (hE.eval 6 (by rfl) e6)]
        with_reducible rfl
      intro a41 hE e68 kp
      replace e67 := (kp 67 rfl).trans e67
      apply sq_detg 69 hE k rfl (by rfl) (by rfl) rfl rfl e67
      case h =>   -- 5: t69 := Op.load 3 (tmp 68)
        have q0 : w34.cell? ⟨xb, 1, none⟩ = some (.int .i64 c) := (OwnT.blk O 4 rfl).cell 1
        simp [go_sem, BigFrame.eval_const, BigFrame.eval_global, BigFrame.eval_func, ↓IntWalk.iteOmega, ev e68, q0]
        with_reducible rfl
      intro a42 hE e69 kp
      replace e67 := (kp 67 rfl).trans e67
      apply sq_detg 70 hE k rfl (by rfl) (by rfl) rfl rfl e67
      case h =>   -- 6: t70 := Op.binOp BinOp.gtr 3 (tmp 69) (const (Value.int IntKind.i64 1023)) 3
        exact x_dec (x_gtr rfl e69 rfl) (decide_eq_false (by omega))
      intro a43 hE e70 kp
      replace e67 := (kp 67 rfl).trans e67
      apply sq_det 71 hE k rfl (by rfl) (by rfl) rfl
      case h =>   -- 7: t71 := Op.pick (tmp 67) (const (Value.bool true)) (tmp 70)
        exact x_pick_f rfl e67 e70
      intro a44 hE e71 kp
      refine wpList_nil ?_
      replace e0 := hE.eval 0 (by rfl) e0
      replace e3 := hE.eval 3 (by rfl) e3
      replace e4 := hE.eval 4 (by rfl) e4
      replace e5 := hE.eval 5 (by rfl) e5
      replace e6 := hE.eval 6 (by rfl) e6
      replace e7 := hE.eval 7 (by rfl) e7
      replace e8 := hE.eval 8 (by rfl) e8
      replace e9 := hE.eval 9 (by rfl) e9
      replace k := k.env hE
      clear hE
      refine then_n ?_
      refine cond_f e71 rfl ?_
      refine wp_seq ?_
      refine wp_typed (R := Ext) (w0 := w34) [[], [0], [0, 1], [0, 1, 2], [], [0, 1, 2, 3, 4]] [72, 73, 74, 75, 76, 77] Ext.refl (fun _ _ _ => Ext.trans) (Ext.drew _) (by kernel_rfl) ?_   -- region 19
      apply Build.det 72 Ext.refl (by rfl) (by rw [k.size]; rfl) rfl
      case h =>   -- 0: t72 := Op.move (tmp 4)
        intro ax wx hE hR hF
        exact x_move rfl (hE.eval 4 (by rfl) e4)
      apply Build.det 73 Ext.refl (by rfl) (by rw [k.size]; rfl) rfl
      case h =>   -- 1: t73 := Op.nilCheck (tmp 72)
        intro ax wx hE hR hF
        have e72 : ax.eval (.tmp 72) = _ := hF 0 (det 72 _) (by decide) (.head _)
        exact x_nil rfl e72
      apply Build.det 74 Ext.refl (by rfl) (by rw [k.size]; rfl) rfl
      case h =>   -- 2: t74 := Op.fieldAddr 29 (tmp 73) 0
        intro ax wx hE hR hF
        have e73 : ax.eval (.tmp 73) = _ := hF 1 (det 73 _) (by decide) (.head _)
        simp [go_sem, BigFrame.eval_const, BigFrame.eval_global, BigFrame.eval_func, ↓IntWalk.iteOmega, ev e73]
        with_reducible rfl
      apply Build.det 75 Ext.refl (by rfl) (by rw [k.size]; rfl) rfl
      case h =>   -- 3: t75 := Op.load 27 (tmp 74)
        intro ax wx hE hR hF
        have e74 : ax.eval (.tmp 74) = _ := hF 2 (det 74 _) (by decide) (.head _)
        have q0 : wx.cell? ⟨ub, 0, none⟩ = some (.slice B1 U.length cap1) := (OwnT.blk (OwnT.ext O hR) 1 rfl).cell 0
        simp [go_sem, BigFrame.eval_const, BigFrame.eval_global, BigFrame.eval_func, ↓IntWalk.iteOmega, ev e74, q0]
        with_reducible rfl
      apply Build.det 76 Ext.refl (by rfl) (by rw [k.size]; rfl) rfl
      case h =>   -- 4: t76 := Op.load 35 (tmp 7)
        intro ax wx hE hR hF
        have q0 : wx.cell? ⟨qb, 0, none⟩ = some (.int .i64 c) := (OwnT.blk (OwnT.ext O hR) 5 rfl).cell 0
        have q1 : wx.cell? ⟨qb, 1, none⟩ = some (.int .i64 y1) := (OwnT.blk (OwnT.ext O hR) 5 rfl).cell 1
        have q2 : wx.cell? ⟨qb, 2, none⟩ = some (.int .i64 y2) := (OwnT.blk (OwnT.ext O hR) 5 rfl).cell 2
        have q3 : wx.cell? ⟨qb, 3, none⟩ = some (.int .i64 y3) := (OwnT.blk (OwnT.ext O hR) 5 rfl).cell 3
        simp [go_sem, BigFrame.eval_const, BigFrame.eval_global, BigFrame.eval_func, ↓IntWalk.iteOmega, ev (hE.eval 7 (by rfl) e7), q0, q1, q2, q3]
        with_reducible rfl
      apply Build.call 77 Ext.refl (by rfl) (by rw [k.size]; rfl) rfl
      case h =>   -- 5: t77 := tierce/tierceref13.Has
        intro ax wx hE hR hF
        have e75 : ax.eval (.tmp 75) = _ := hF 3 (det 75 _) (by decide) (.tail _ (.head _))
        have e76 : ax.eval (.tmp 76) = _ := hF 4 (det 76 _) (by decide) (.head _)
        simp [go_sem, BigFrame.eval_const, BigFrame.eval_global, BigFrame.eval_func, ↓IntWalk.iteOmega, ev e75, ev e76]
        with_reducible exact ⟨rfl, rfl⟩
      case hc => intro wx hR; exact (show Calls _ _ _ _ (fun e w' => e = .returned (.bool false) ∧ Ext wx w') from (has_any B1 U.length cap1 U (c, y1, y2, y3) wx rfl (by omega) (rowQ_of (OwnT.get (OwnT.ext O hR) 2 rfl : World.ownsRow _ 0 35 4 _ U.length (U.flatMap qC))).2).mono (fun e w' h => ⟨h.1.trans (by rw [decide_eq_false hin]), h.2⟩))
      apply Build.stop
      refine ⟨by kernel_rfl, .inl ⟨rfl, ?_⟩⟩
      intro a45 w46 hE R hF
      have e77 : a45.eval (.tmp 77) = _ := hF 5 (det 77 _) (.head _)
      clear hF
      replace O := OwnT.ext O R
      clear R
      replace e0 := hE.eval 0 (by rfl) e0
      replace e3 := hE.eval 3 (by rfl) e3
      replace e4 := hE.eval 4 (by rfl) e4
      replace e5 := hE.eval 5 (by rfl) e5
      replace e6 := hE.eval 6 (by rfl) e6
      replace e7 := hE.eval 7 (by rfl) e7
      replace e8 := hE.eval 8 (by rfl) e8
      replace e9 := hE.eval 9 (by rfl) e9
      replace k := k.env hE
      clear hE e71
      refine then_n ?_
      refine cond_f e77 rfl ?_
      refine wp_typed (R := Ext) (w0 := w46) [[], [], [1], [1, 2], [1, 2, 3], [], [1, 2, 3, 4, 5], [0, 1, 2, 3, 4, 5, 6], [0, 1, 2, 3, 4, 5, 6, 7], [0, 1, 2, 3, 4, 5, 6, 7, 8]] [78, 79, 80, 81, 82, 83, 84, 85, 86] Ext.refl (fun _ _ _ => Ext.trans) (Ext.drew _) (by kernel_rfl) ?_   -- region 21
      apply Build.det 78 Ext.refl (by rfl) (by rw [k.size]; rfl) rfl
      case h =>   -- 0: t78 := Op.move (tmp 4)
        intro ax wx hE hR hF
        exact x_move rfl (hE.eval 4 (by rfl) e4)
      apply Build.det 79 Ext.refl (by rfl) (by rw [k.size]; rfl) rfl
      case h =>   -- 1: t79 := Op.move (tmp 4)
        intro ax wx hE hR hF
        exact x_move rfl (hE.eval 4 (by rfl) e4)
      apply Build.det 80 Ext.refl (by rfl) (by rw [k.size]; rfl) rfl
      case h =>   -- 2: t80 := Op.nilCheck (tmp 79)
        intro ax wx hE hR hF
        have e79 : ax.eval (.tmp 79) = _ := hF 1 (det 79 _) (by decide) (.head _)
        exact x_nil rfl e79
      apply Build.det 81 Ext.refl (by rfl) (by rw [k.size]; rfl) rfl
      case h =>   -- 3: t81 := Op.fieldAddr 29 (tmp 80) 0
        intro ax wx hE hR hF
        have e80 : ax.eval (.tmp 80) = _ := hF 2 (det 80 _) (by decide) (.head _)
        simp [go_sem, BigFrame.eval_const, BigFrame.eval_global, BigFrame.eval_func, ↓IntWalk.iteOmega, ev e80]
        with_reducible rfl
      apply Build.det 82 Ext.refl (by rfl) (by rw [k.size]; rfl) rfl
      case h =>   -- 4: t82 := Op.load 27 (tmp 81)
        intro ax wx hE hR hF
        have e81 : ax.eval (.tmp 81) = _ := hF 3 (det 81 _) (by decide) (.head _)
        have q0 : wx.cell? ⟨ub, 0, none⟩ = some (.slice B1 U.length cap1) := (OwnT.blk (OwnT.ext O hR) 1 rfl).cell 0
        simp [go_sem, BigFrame.eval_const, BigFrame.eval_global, BigFrame.eval_func, ↓IntWalk.iteOmega, ev e81, q0]
        with_reducible rfl
      apply Build.det 83 Ext.refl (by rfl) (by rw [k.size]; rfl) rfl
      case h =>   -- 5: t83 := Op.load 35 (tmp 7)
        intro ax wx hE hR hF
        have q0 : wx.cell? ⟨qb, 0, none⟩ = some (.int .i64 c) := (OwnT.blk (OwnT.ext O hR) 5 rfl).cell 0
        have q1 : wx.cell? ⟨qb, 1, none⟩ = some (.int .i64 y1) := (OwnT.blk (OwnT.ext O hR) 5 rfl).cell 1
        have q2 : wx.cell? ⟨qb, 2, none⟩ = some (.int .i64 y2) := (OwnT.blk (OwnT.ext O hR) 5 rfl).cell 2
        have q3 : wx.cell? ⟨qb, 3, none⟩ = some (.int .i64 y3) := (OwnT.blk (OwnT.ext O hR) 5 rfl).cell 3
        simp [go_sem, BigFrame.eval_const, BigFrame.eval_global, BigFrame.eval_func, ↓IntWalk.iteOmega, ev (hE.eval 7 (by rfl) e7), q0, q1, q2, q3]
        with_reducible rfl
      apply Build.callnew 84 (fun v w => World.ownsRow w w46.heap.size 35 4 v (insQ (c, y1, y2, y3) U).length ((insQ (c, y1, y2, y3) U).flatMap qC)) (fun v w w' hR h => ownsRow_extB h hR) Ext.refl (by rfl) (by rw [k.size]; rfl) rfl
      case h =>   -- 6: t84 := tierce/tierceref13.Add
        intro ax wx hE hR hF
        have e82 : ax.eval (.tmp 82) = _ := hF 4 (det 82 _) (by decide) (.tail _ (.head _))
        have e83 : ax.eval (.tmp 83) = _ := hF 5 (det 83 _) (by decide) (.head _)
        simp [go_sem, BigFrame.eval_const, BigFrame.eval_global, BigFrame.eval_func, ↓IntWalk.iteOmega, ev e82, ev e83]
        with_reducible exact ⟨rfl, rfl⟩
      case hc => exact fun wx hR => (addq_any B1 U.length cap1 U (c, y1, y2, y3) wx rfl (by omega) (rowQ_of (OwnT.get (OwnT.ext O hR) 2 rfl : World.ownsRow _ 0 35 4 _ U.length (U.flatMap qC))).2).mono (fun e w' ⟨v, h1, h2, h3⟩ => ⟨v, h1, h3, ownsRow_low h2 hR.size⟩)
      apply Build.det 85 Ext.refl (by rfl) (by rw [k.size]; rfl) rfl
      case h =>   -- 7: t85 := Op.nilCheck (tmp 78)
        intro ax wx hE hR hF
        have e78 : ax.eval (.tmp 78) = _ := hF 0 (det 78 _) (by decide) (.tail _ (.tail _ (.tail _ (.tail _ (.tail _ (.tail _ (.head _)))))))
        exact x_nil rfl e78
      apply Build.det 86 Ext.refl (by rfl) (by rw [k.size]; rfl) rfl
      case h =>   -- 8: t86 := Op.fieldAddr 29 (tmp 85) 0
        intro ax wx hE hR hF
        have e85 : ax.eval (.tmp 85) = _ := hF 7 (det 85 _) (by decide) (.head _)
        simp [go_sem, BigFrame.eval_const, BigFrame.eval_global, BigFrame.eval_func, ↓IntWalk.iteOmega, ev e85]
        with_reducible rfl
      apply Build.stop
      refine ⟨by kernel_rfl, .inr ⟨by kernel_rfl, _, rfl, rfl, ?_⟩⟩
      intro a47 w48 hE R hF
      have f84 := hF 6 _ (.tail _ (.tail _ (.head _)))
      have e86 : a47.eval (.tmp 86) = _ := hF 8 (det 86 _) (.head _)
      clear hF
      obtain ⟨v3, e84, hrow⟩ : ∃ v3, a47.eval (.tmp 84) = v3 ∧ World.ownsRow w48 w46.heap.size 35 4 v3 (insQ (c, y1, y2, y3) U).length ((insQ (c, y1, y2, y3) U).flatMap qC) := ⟨_, rfl, f84⟩
      clear f84
      obtain ⟨B3, cap3, rfl, hk3, hm3, -, -⟩ := ownsRow_Row qC_len (by decide) hrow
      replace O := OwnT.newRow O R hrow
      clear R
      have q0 : w48.cell? ⟨ub, 0, none⟩ = some (.slice B1 U.length cap1) := (OwnT.blk O 2 rfl).cell 0
      have q1 : w48.frozen? ⟨ub, 0, none⟩ = false := (OwnT.blk O 2 rfl).frozen 0
      refine last_store (off := 0) (v := .slice B3 ((insQ (c, y1, y2, y3) U).length) cap3) O 2 rfl rfl (by simp [go_sem, BigFrame.eval_const, BigFrame.eval_global, BigFrame.eval_func, ↓IntWalk.iteOmega, ev e84, ev e86, q0, q1]) ?_
      clear q0 q1
      clear O
      intro w49 O
      replace O : OwnT _ _ ([tRow 35 4 (.slice B3 ((insQ (c, y1, y2, y3) U).length) cap3) (insQ (c, y1, y2, y3) U).length ((insQ (c, y1, y2, y3) U).flatMap qC), tOB pb F1 (ofQ (insQ (c, y1, y2, y3) U)) (ofQ V), tBlk ub 29 #[.slice B3 ((insQ (c, y1, y2, y3) U).length) cap3, v2], tRow 35 4 (.slice B1 U.length cap1) U.length (U.flatMap qC), tRow 35 4 (v2) V.length (V.flatMap qC), tBlk xb 33 #[.int .i64 1, .int .i64 c, .int .i64 y1, .int .i64 y2, .int .i64 y3], tBlk qb 35 #[.int .i64 c, .int .i64 y1, .int .i64 y2, .int .i64 y3]]) w49 := O
      replace e0 := hE.eval 0 (by rfl) e0
      replace e3 := hE.eval 3 (by rfl) e3
      replace e4 := hE.eval 4 (by rfl) e4
      replace e5 := hE.eval 5 (by rfl) e5
      replace e6 := hE.eval 6 (by rfl) e6
      replace e8 := hE.eval 8 (by rfl) e8
      replace e9 := hE.eval 9 (by rfl) e9
      replace k := k.env hE
      clear hE e7 e77 e84 e86
      refine then_n ?_
      refine wp_seq ?_
      refine wp_region_lit ?_   -- region 22
      have hE := Env.refl a47 [87, 88, 89]
      apply sq_det 87 hE k rfl (by rfl) (by rfl) rfl
      case h =>   -- 0: t87 := Op.move (tmp 8)
        exact x_move rfl (hE.eval 8 (by rfl) e8)
      intro a50 hE e87 kp
      apply sq_det 88 hE k rfl (by rfl) (by rfl) rfl
      case h =>   -- 1: t88 := Op.move (tmp 9)
        exact x_move rfl (hE.eval 9 (by rfl) e9)
      intro a51 hE e88 kp
      replace e87 := (kp 87 rfl).trans e87
      apply sq_det 89 hE k rfl (by rfl) (by rfl) rfl
      case h =>   -- 2: t89 := Op.binOp BinOp.neq 36 (tmp 87) (tmp 88) 36
        exact x_neq rfl e87 e88
      intro a52 hE e89 kp
      refine wpList_nil ?_
      replace e0 := hE.eval 0 (by rfl) e0
      replace e3 := hE.eval 3 (by rfl) e3
      replace e4 := hE.eval 4 (by rfl) e4
      replace e5 := hE.eval 5 (by rfl) e5
      replace e6 := hE.eval 6 (by rfl) e6
      replace k := k.env hE
      clear hE e8 e9
      refine then_n ?_
      refine cond_f e89 rfl ?_
      refine wp_skip ?_
      refine block_n ?_
      replace O : OwnT _ _ ([tOB pb F1 (ofQ (insQ (c, y1, y2, y3) U)) (ofQ V), tBlk ub 29 #[.slice B3 ((insQ (c, y1, y2, y3) U).length) cap3, v2], tRow 35 4 (.slice B3 ((insQ (c, y1, y2, y3) U).length) cap3) (insQ (c, y1, y2, y3) U).length ((insQ (c, y1, y2, y3) U).flatMap qC), tRow 35 4 (v2) V.length (V.flatMap qC), tBlk xb 33 #[.int .i64 1, .int .i64 c, .int .i64 y1, .int .i64 y2, .int .i64 y3]]) w49 := OwnT.pick O [1, 2, 0, 4, 5] (by decide)
      exact hQ _ _ _ _ _ _ _ k e0 e3 e4 e5 e6 O ⟨insQ_sorted _ _ hG.su hin, hG.sv, insQ_range hG.ru hc1 hc2, by rw [insQ_len]; exact Nat.succ_le_succ hG.lu, Nat.le_succ_of_le hG.lv⟩
  · by_cases hc1 : c < 1
    · have hcr' := hcr
      refine wp_block ?_
      refine wp_seq ?_
      refine wp_seq ?_
      refine wp_region_lit ?_   -- region 13
      have hE := Env.refl a [56, 55]
      apply sq_det 56 hE k rfl (by rfl) (by rfl) rfl
      case h =>   -- 0: t56 := Op.binOp BinOp.eql 3 (tmp 43) (const (Value.int IntKind.i64 1)) 3
        exact x_eql rfl (hE.eval 43 (by rfl) e43) rfl
      intro a53 hE e56 kp
      apply sq_det 55 hE k rfl (by rfl) (by rfl) rfl
      case h =>   -- 1: t55 := Op.assign (tmp 56)
        exact x_assign rfl e56
      intro a54 hE e55 kp
      refine wpList_nil ?_
      replace e0 := hE.eval 0 (by rfl) e0
      replace e3 := hE.eval 3 (by rfl) e3
      replace e4 := hE.eval 4 (by rfl) e4
      replace e5 := hE.eval 5 (by rfl) e5
      replace e6 := hE.eval 6 (by rfl) e6
      replace e7 := hE.eval 7 (by rfl) e7
      replace e43 := hE.eval 43 (by rfl) e43
      replace k := k.env hE
      clear hE
      refine then_n ?_
      refine cond_t e55 rfl ?_
      refine wp_skip ?_
      refine then_n ?_
      refine cond_t e55 rfl ?_
      refine wp_seq ?_
      refine wp_region_lit ?_   -- region 15
      have hE := Env.refl a54 [58, 59, 60, 61, 62, 63, 8]
      apply sq_det 58 hE k rfl (by rfl) (by rfl) rfl
      case h =>   -- 0: t58 := Op.move (tmp 3)
        exact x_move rfl (hE.eval 3 (by rfl) e3)
      intro a55 hE e58 kp
      apply sq_det 59 hE k rfl (by rfl) (by rfl) rfl
      case h =>   -- 1: t59 := Op.fieldAddr 33 (tmp 6) 1
        simp [go_sem, BigFrame.eval_const, BigFrame.eval_global, BigFrame.eval_func, ↓IntWalk.iteOmega, ev (hE.eval 6 (by rfl) e6)]
        with_reducible rfl
      intro a56 hE e59 kp
      replace e58 := (kp 58 rfl).trans e58
      apply sq_det 60 hE k rfl (by rfl) (by rfl) rfl
      case h =>   -- 2: t60 := Op.load 3 (tmp 59)
        have q0 : w.cell? ⟨xb, 1, none⟩ = some (.int .i64 c) := (OwnT.blk O 4 rfl).cell 1
        simp [go_sem, BigFrame.eval_const, BigFrame.eval_global, BigFrame.eval_func, ↓IntWalk.iteOmega, ev e59, q0]
        with_reducible rfl
      intro a57 hE e60 kp
      replace e58 := (kp 58 rfl).trans e58
      apply sq_det 61 hE k rfl (by rfl) (by rfl) rfl
      case h =>   -- 3: t61 := Op.fieldAddr 33 (tmp 6) 2
        simp [go_sem, BigFrame.eval_const, BigFrame.eval_global, BigFrame.eval_func, ↓IntWalk.iteOmega, ev (hE.eval 6 (by rfl) e6)]
        with_reducible rfl
      intro a58 hE e61 kp
      replace e58 := (kp 58 rfl).trans e58
      replace e60 := (kp 60 rfl).trans e60
      apply sq_det 62 hE k rfl (by rfl) (by rfl) rfl
      case h =>   -- 4: t62 := Op.load 31 (tmp 61)
        have q0 : w.cell? ⟨xb, 2, none⟩ = some (.int .i64 y1) := (OwnT.blk O 4 rfl).cell 2
        have q1 : w.cell? ⟨xb, 3, none⟩ = some (.int .i64 y2) := (OwnT.blk O 4 rfl).cell 3
        have q2 : w.cell? ⟨xb, 4, none⟩ = some (.int .i64 y3) := (OwnT.blk O 4 rfl).cell 4
        simp [go_sem, BigFrame.eval_const, BigFrame.eval_global, BigFrame.eval_func, ↓IntWalk.iteOmega, ev e61, q0, q1, q2]
        with_reducible rfl
      intro a59 hE e62 kp
      replace e58 := (kp 58 rfl).trans e58
      replace e60 := (kp 60 rfl).trans e60
      apply sq_call 63 hE k rfl (by rfl) (by rfl) rfl
      case h =>   -- (*tierce/owners.Book).Add
        simp [go_sem, BigFrame.eval_const, BigFrame.eval_global, BigFrame.eval_func, ↓IntWalk.iteOmega, ev e58, ev e60, ev e62]
        with_reducible exact ⟨rfl, rfl⟩
      case hc => exact add_all pb _ _ _ c (y1, y2, y3) _ O (Nat.le_trans (hG.n c) (by omega))
      clear O
      rintro e w61 ⟨he, F1, O⟩
      rw [addE_out hcr] at he
      rw [addL_out hcr] at O
      refine ⟨_, he, ?_⟩
      intro a60 hE e63 kp
      apply sq_det 8 hE k rfl (by rfl) (by rfl) rfl
      case h =>   -- 6: t8 := Op.assign (tmp 63)
        exact x_assign rfl e63
      intro a62 hE e8 kp
      refine wpList_nil ?_
      replace e0 := hE.eval 0 (by rfl) e0
      replace e3 := hE.eval 3 (by rfl) e3
      replace e4 := hE.eval 4 (by rfl) e4
      replace e5 := hE.eval 5 (by rfl) e5
      replace e6 := hE.eval 6 (by rfl) e6
      replace e7 := hE.eval 7 (by rfl) e7
      replace k := k.env hE
      clear hE e43 e55
      refine then_n ?_
      refine wp_seq ?_
      refine wp_region_lit ?_   -- region 16
      have hE := Env.refl a62 [9]
      apply sq_det 9 hE k rfl (by rfl) (by rfl) rfl
      case h =>   -- 0: t9 := Op.assign (const (Value.int IntKind.i64 0))
        exact x_assign rfl rfl
      intro a63 hE e9 kp
      refine wpList_nil ?_
      replace e0 := hE.eval 0 (by rfl) e0
      replace e3 := hE.eval 3 (by rfl) e3
      replace e4 := hE.eval 4 (by rfl) e4
      replace e5 := hE.eval 5 (by rfl) e5
      replace e6 := hE.eval 6 (by rfl) e6
      replace e7 := hE.eval 7 (by rfl) e7
      replace e8 := hE.eval 8 (by rfl) e8
      replace k := k.env hE
      clear hE
      refine then_n ?_
      refine wp_seq ?_
      refine wp_seq ?_
      refine wp_region_lit ?_   -- region 17
      have hE := Env.refl a63 [64, 65, 66, 67, 68, 69, 70, 71]
      apply sq_det 64 hE k rfl (by rfl) (by rfl) rfl
      case h =>   -- 0: t64 := Op.fieldAddr 33 (tmp 6) 1
        simp [go_sem, BigFrame.eval_const, BigFrame.eval_global, BigFrame.eval_func, ↓IntWalk.iteOmega, ev (hE.eval 6 (by rfl) e6)]
        with_reducible rfl
      intro a64 hE e64 kp
      apply sq_det 65 hE k rfl (by rfl) (by rfl) rfl
      case h =>   -- 1: t65 := Op.load 3 (tmp 64)
        have q0 : w61.cell? ⟨xb, 1, none⟩ = some (.int .i64 c) := (OwnT.blk O 4 rfl).cell 1
        simp [go_sem, BigFrame.eval_const, BigFrame.eval_global, BigFrame.eval_func, ↓IntWalk.iteOmega, ev e64, q0]
        with_reducible rfl
      intro a65 hE e65 kp
      apply sq_det 66 hE k rfl (by rfl) (by rfl) rfl
      case h =>   -- 2: t66 := Op.binOp BinOp.lss 3 (tmp 65) (const (Value.int IntKind.i64 1)) 3
        exact x_dec (x_lss rfl e65 rfl) (decide_eq_true (by omega))
      intro a66 hE e66 kp
      apply sq_det 67 hE k rfl (by rfl) (by rfl) rfl
      case h =>   -- 3: t67 := Op.move (tmp 66)
        exact x_move rfl e66
      intro a67 hE e67 kp
      refine sq_skipg 68 hE k rfl (by rfl) (by rfl) rfl rfl (.inl e67) ?_
      intro a68 hE e68 kp
      replace e67 := (kp 67 rfl).trans e67
      refine sq_skipg 69 hE k rfl (by rfl) (by rfl) rfl rfl (.inl e67) ?_
      intro a69 hE e69 kp
      replace e67 := (kp 67 rfl).trans e67
      refine sq_skipg 70 hE k rfl (by rfl) (by rfl) rfl rfl (.inl e67) ?_
      intro a70 hE e70 kp
      replace e67 := (kp 67 rfl).trans e67
      apply sq_det 71 hE k rfl (by rfl) (by rfl) rfl
      case h =>   -- 7: t71 := Op.pick (tmp 67) (const (Value.bool true)) (tmp 70)
        exact x_pick_t rfl e67 rfl
      intro a71 hE e71 kp
      refine wpList_nil ?_
      replace e0 := hE.eval 0 (by rfl) e0
      replace e3 := hE.eval 3 (by rfl) e3
      replace e4 := hE.eval 4 (by rfl) e4
      replace e5 := hE.eval 5 (by rfl) e5
      replace e6 := hE.eval 6 (by rfl) e6
      replace e7 := hE.eval 7 (by rfl) e7
      replace e8 := hE.eval 8 (by rfl) e8
      replace e9 := hE.eval 9 (by rfl) e9
      replace k := k.env hE
      clear hE
      refine then_n ?_
      refine cond_t e71 rfl ?_
      refine wp_region_lit ?_   -- region 18
      have hE := Env.refl a71 [9]
      apply sq_det 9 hE k rfl (by rfl) (by rfl) rfl
      case h =>   -- 0: t9 := Op.assign (const (Value.int IntKind.i64 1))
        exact x_assign rfl rfl
      intro a72 hE e9 kp
      refine wpList_nil ?_
      replace e0 := hE.eval 0 (by rfl) e0
      replace e3 := hE.eval 3 (by rfl) e3
      replace e4 := hE.eval 4 (by rfl) e4
      replace e5 := hE.eval 5 (by rfl) e5
      replace e6 := hE.eval 6 (by rfl) e6
      replace e8 := hE.eval 8 (by rfl) e8
      replace k := k.env hE
      clear hE e7 e71
      refine then_n ?_
      refine wp_seq ?_
      refine wp_region_lit ?_   -- region 22
      have hE := Env.refl a72 [87, 88, 89]
      apply sq_det 87 hE k rfl (by rfl) (by rfl) rfl
      case h =>   -- 0: t87 := Op.move (tmp 8)
        exact x_move rfl (hE.eval 8 (by rfl) e8)
      intro a73 hE e87 kp
      apply sq_det 88 hE k rfl (by rfl) (by rfl) rfl
      case h =>   -- 1: t88 := Op.move (tmp 9)
        exact x_move rfl (hE.eval 9 (by rfl) e9)
      intro a74 hE e88 kp
      replace e87 := (kp 87 rfl).trans e87
      apply sq_det 89 hE k rfl (by rfl) (by rfl) rfl
      case h =>   -- 2: t89 := Op.binOp BinOp.neq 36 (tmp 87) (tmp 88) 36
        exact x_neq rfl e87 e88
      intro a75 hE e89 kp
      refine wpList_nil ?_
      replace e0 := hE.eval 0 (by rfl) e0
      replace e3 := hE.eval 3 (by rfl) e3
      replace e4 := hE.eval 4 (by rfl) e4
      replace e5 := hE.eval 5 (by rfl) e5
      replace e6 := hE.eval 6 (by rfl) e6
      replace k := k.env hE
      clear hE e8 e9
      refine then_n ?_
      refine cond_f e89 rfl ?_
      refine wp_skip ?_
      refine block_n ?_
      replace O : OwnT _ _ ([tOB pb F1 (ofQ U) (ofQ V), tBlk ub 29 #[.slice B1 U.length cap1, v2], tRow 35 4 (.slice B1 U.length cap1) U.length (U.flatMap qC), tRow 35 4 (v2) V.length (V.flatMap qC), tBlk xb 33 #[.int .i64 1, .int .i64 c, .int .i64 y1, .int .i64 y2, .int .i64 y3]]) w61 := OwnT.pick O [0, 1, 2, 3, 4] (by decide)
      exact hQ _ _ _ _ _ _ _ k e0 e3 e4 e5 e6 O ⟨hG.su, hG.sv, hG.ru, Nat.le_succ_of_le hG.lu, Nat.le_succ_of_le hG.lv⟩
    · have hc2 : 1023 < c := by omega
      refine wp_block ?_
      refine wp_seq ?_
      refine wp_seq ?_
      refine wp_region_lit ?_   -- region 13
      have hE := Env.refl a [56, 55]
      apply sq_det 56 hE k rfl (by rfl) (by rfl) rfl
      case h =>   -- 0: t56 := Op.binOp BinOp.eql 3 (tmp 43) (const (Value.int IntKind.i64 1)) 3
        exact x_eql rfl (hE.eval 43 (by rfl) e43) rfl
      intro a76 hE e56 kp
      apply sq_det 55 hE k rfl (by rfl) (by rfl) rfl
      case h =>   -- 1: t55 := Op.assign (tmp 56)
        exact x_assign rfl e56
      intro a77 hE e55 kp
      refine wpList_nil ?_
      replace e0 := hE.eval 0 (by rfl) e0
      replace e3 := hE.eval 3 (by rfl) e3
      replace e4 := hE.eval 4 (by rfl) e4
      replace e5 := hE.eval 5 (by rfl) e5
      replace e6 := hE.eval 6 (by rfl) e6
      replace e7 := hE.eval 7 (by rfl) e7
      replace e43 := hE.eval 43 (by rfl) e43
      replace k := k.env hE
      clear hE
      refine then_n ?_
      refine cond_t e55 rfl ?_
      refine wp_skip ?_
      refine then_n ?_
      refine cond_t e55 rfl ?_
      refine wp_seq ?_
      refine wp_region_lit ?_   -- region 15
      have hE := Env.refl a77 [58, 59, 60, 61, 62, 63, 8]
      apply sq_det 58 hE k rfl (by rfl) (by rfl) rfl
      case h =>   -- 0: t58 := Op.move (tmp 3)
        exact x_move rfl (hE.eval 3 (by rfl) e3)
      intro a78 hE e58 kp
      apply sq_det 59 hE k rfl (by rfl) (by rfl) rfl
      case h =>   -- 1: t59 := Op.fieldAddr 33 (tmp 6) 1
        simp [go_sem, BigFrame.eval_const, BigFrame.eval_global, BigFrame.eval_func, ↓IntWalk.iteOmega, ev (hE.eval 6 (by rfl) e6)]
        with_reducible rfl
      intro a79 hE e59 kp
      replace e58 := (kp 58 rfl).trans e58
      apply sq_det 60 hE k rfl (by rfl) (by rfl) rfl
      case h =>   -- 2: t60 := Op.load 3 (tmp 59)
        have q0 : w.cell? ⟨xb, 1, none⟩ = some (.int .i64 c) := (OwnT.blk O 4 rfl).cell 1
        simp [go_sem, BigFrame.eval_const, BigFrame.eval_global, BigFrame.eval_func, ↓IntWalk.iteOmega, ev e59, q0]
        with_reducible rfl
      intro a80 hE e60 kp
      replace e58 := (kp 58 rfl).trans e58
      apply sq_det 61 hE k rfl (by rfl) (by rfl) rfl
      case h =>   -- 3: t61 := Op.fieldAddr 33 (tmp 6) 2
        simp [go_sem, BigFrame.eval_const, BigFrame.eval_global, BigFrame.eval_func, ↓IntWalk.iteOmega, ev (hE.eval 6 (by rfl) e6)]
        with_reducible rfl
      intro a81 hE e61 kp
      replace e58 := (kp 58 rfl).trans e58
      replace e60 := (kp 60 rfl).trans e60
      apply sq_det 62 hE k rfl (by rfl) (by rfl) rfl
      case h =>   -- 4: t62 := Op.load 31 (tmp 61)
        have q0 : w.cell? ⟨xb, 2, none⟩ = some (.int .i64 y1) := (OwnT.blk O 4 rfl).cell 2
        have q1 : w.cell? ⟨xb, 3, none⟩ = some (.int .i64 y2) := (OwnT.blk O 4 rfl).cell 3
        have q2 : w.cell? ⟨xb, 4, none⟩ = some (.int .i64 y3) := (OwnT.blk O 4 rfl).cell 4
        simp [go_sem, BigFrame.eval_const, BigFrame.eval_global, BigFrame.eval_func, ↓IntWalk.iteOmega, ev e61, q0, q1, q2]
        with_reducible rfl
      intro a82 hE e62 kp
      replace e58 := (kp 58 rfl).trans e58
      replace e60 := (kp 60 rfl).trans e60
      apply sq_call 63 hE k rfl (by rfl) (by rfl) rfl
      case h =>   -- (*tierce/owners.Book).Add
        simp [go_sem, BigFrame.eval_const, BigFrame.eval_global, BigFrame.eval_func, ↓IntWalk.iteOmega, ev e58, ev e60, ev e62]
        with_reducible exact ⟨rfl, rfl⟩
      case hc => exact add_all pb _ _ _ c (y1, y2, y3) _ O (Nat.le_trans (hG.n c) (by omega))
      clear O
      rintro e w84 ⟨he, F1, O⟩
      rw [addE_out hcr] at he
      rw [addL_out hcr] at O
      refine ⟨_, he, ?_⟩
      intro a83 hE e63 kp
      apply sq_det 8 hE k rfl (by rfl) (by rfl) rfl
      case h =>   -- 6: t8 := Op.assign (tmp 63)
        exact x_assign rfl e63
      intro a85 hE e8 kp
      refine wpList_nil ?_
      replace e0 := hE.eval 0 (by rfl) e0
      replace e3 := hE.eval 3 (by rfl) e3
      replace e4 := hE.eval 4 (by rfl) e4
      replace e5 := hE.eval 5 (by rfl) e5
      replace e6 := hE.eval 6 (by rfl) e6
      replace e7 := hE.eval 7 (by rfl) e7
      replace k := k.env hE
      clear hE e43 e55
      refine then_n ?_
      refine wp_seq ?_
      refine wp_region_lit ?_   -- region 16
      have hE := Env.refl a85 [9]
      apply sq_det 9 hE k rfl (by rfl) (by rfl) rfl
      case h =>   -- 0: t9 := Op.assign (const (Value.int IntKind.i64 0))
        exact x_assign rfl rfl
      intro a86 hE e9 kp
      refine wpList_nil ?_
      replace e0 := hE.eval 0 (by rfl) e0
      replace e3 := hE.eval 3 (by rfl) e3
      replace e4 := hE.eval 4 (by rfl) e4
      replace e5 := hE.eval 5 (by rfl) e5
      replace e6 := hE.eval 6 (by rfl) e6
      replace e7 := hE.eval 7 (by rfl) e7
      replace e8 := hE.eval 8 (by rfl) e8
      replace k := k.env hE
      clear hE
      refine then_n ?_
      refine wp_seq ?_
      refine wp_seq ?_
      refine wp_region_lit ?_   -- region 17
      have hE := Env.refl a86 [64, 65, 66, 67, 68, 69, 70, 71]
      apply sq_det 64 hE k rfl (by rfl) (by rfl) rfl
      case h =>   -- 0: t64 := Op.fieldAddr 33 (tmp 6) 1
        simp [go_sem, BigFrame.eval_const, BigFrame.eval_global, BigFrame.eval_func, ↓IntWalk.iteOmega, ev (hE.eval 6 (by rfl) e6)]
        with_reducible rfl
      intro a87 hE e64 kp
      apply sq_det 65 hE k rfl (by rfl) (by rfl) rfl
      case h =>   -- 1: t65 := Op.load 3 (tmp 64)
        have q0 : w84.cell? ⟨xb, 1, none⟩ = some (.int .i64 c) := (OwnT.blk O 4 rfl).cell 1
        simp [go_sem, BigFrame.eval_const, BigFrame.eval_global, BigFrame.eval_func, ↓IntWalk.iteOmega, ev e64, q0]
        with_reducible rfl
      intro a88 hE e65 kp
      apply sq_det 66 hE k rfl (by rfl) (by rfl) rfl
      case h =>   -- 2: t66 := Op.binOp BinOp.lss 3 (tmp 65) (const (Value.int IntKind.i64 1)) 3
        exact x_dec (x_lss rfl e65 rfl) (decide_eq_false (by omega))
      intro a89 hE e66 kp
      apply sq_det 67 hE k rfl (by rfl) (by rfl) rfl
      case h =>   -- 3: t67 := Op.move (tmp 66)
        exact x_move rfl e66
      intro a90 hE e67 kp
      apply sq_detg 68 hE k rfl (by rfl) (by rfl) rfl rfl e67
      case h =>   -- 4: t68 := Op.fieldAddr 33 (tmp 6) 1
        simp [go_sem, BigFrame.eval_const, BigFrame.eval_global, BigFrame.eval_func, ↓IntWalk.iteOmega, ev (hE.eval 6 (by rfl) e6)]
        with_reducible rfl
      intro a91 hE e68 kp
      replace e67 := (kp 67 rfl).trans e67
      apply sq_detg 69 hE k rfl (by rfl) (by rfl) rfl rfl e67
      case h =>   -- 5: t69 := Op.load 3 (tmp 68)
        have q0 : w84.cell? ⟨xb, 1, none⟩ = some (.int .i64 c) := (OwnT.blk O 4 rfl).cell 1
        simp [go_sem, BigFrame.eval_const, BigFrame.eval_global, BigFrame.eval_func, ↓IntWalk.iteOmega, ev e68, q0]
        with_reducible rfl
      intro a92 hE e69 kp
      replace e67 := (kp 67 rfl).trans e67
      apply sq_detg 70 hE k rfl (by rfl) (by rfl) rfl rfl e67
      case h =>   -- 6: t70 := Op.binOp BinOp.gtr 3 (tmp 69) (const (Value.int IntKind.i64 1023)) 3
        exact x_dec (x_gtr rfl e69 rfl) (decide_eq_true (by omega))
      intro a93 hE e70 kp
      replace e67 := (kp 67 rfl).trans e67
      apply sq_det 71 hE k rfl (by rfl) (by rfl) rfl
      case h =>   -- 7: t71 := Op.pick (tmp 67) (const (Value.bool true)) (tmp 70)
        exact x_pick_f rfl e67 e70
      intro a94 hE e71 kp
      refine wpList_nil ?_
      replace e0 := hE.eval 0 (by rfl) e0
      replace e3 := hE.eval 3 (by rfl) e3
      replace e4 := hE.eval 4 (by rfl) e4
      replace e5 := hE.eval 5 (by rfl) e5
      replace e6 := hE.eval 6 (by rfl) e6
      replace e7 := hE.eval 7 (by rfl) e7
      replace e8 := hE.eval 8 (by rfl) e8
      replace e9 := hE.eval 9 (by rfl) e9
      replace k := k.env hE
      clear hE
      refine then_n ?_
      refine cond_t e71 rfl ?_
      refine wp_region_lit ?_   -- region 18
      have hE := Env.refl a94 [9]
      apply sq_det 9 hE k rfl (by rfl) (by rfl) rfl
      case h =>   -- 0: t9 := Op.assign (const (Value.int IntKind.i64 1))
        exact x_assign rfl rfl
      intro a95 hE e9 kp
      refine wpList_nil ?_
      replace e0 := hE.eval 0 (by rfl) e0
      replace e3 := hE.eval 3 (by rfl) e3
      replace e4 := hE.eval 4 (by rfl) e4
      replace e5 := hE.eval 5 (by rfl) e5
      replace e6 := hE.eval 6 (by rfl) e6
      replace e8 := hE.eval 8 (by rfl) e8
      replace k := k.env hE
      clear hE e7 e71
      refine then_n ?_
      refine wp_seq ?_
      refine wp_region_lit ?_   -- region 22
      have hE := Env.refl a95 [87, 88, 89]
      apply sq_det 87 hE k rfl (by rfl) (by rfl) rfl
      case h =>   -- 0: t87 := Op.move (tmp 8)
        exact x_move rfl (hE.eval 8 (by rfl) e8)
      intro a96 hE e87 kp
      apply sq_det 88 hE k rfl (by rfl) (by rfl) rfl
      case h =>   -- 1: t88 := Op.move (tmp 9)
        exact x_move rfl (hE.eval 9 (by rfl) e9)
      intro a97 hE e88 kp
      replace e87 := (kp 87 rfl).trans e87
      apply sq_det 89 hE k rfl (by rfl) (by rfl) rfl
      case h =>   -- 2: t89 := Op.binOp BinOp.neq 36 (tmp 87) (tmp 88) 36
        exact x_neq rfl e87 e88
      intro a98 hE e89 kp
      refine wpList_nil ?_
      replace e0 := hE.eval 0 (by rfl) e0
      replace e3 := hE.eval 3 (by rfl) e3
      replace e4 := hE.eval 4 (by rfl) e4
      replace e5 := hE.eval 5 (by rfl) e5
      replace e6 := hE.eval 6 (by rfl) e6
      replace k := k.env hE
      clear hE e8 e9
      refine then_n ?_
      refine cond_f e89 rfl ?_
      refine wp_skip ?_
      refine block_n ?_
      replace O : OwnT _ _ ([tOB pb F1 (ofQ U) (ofQ V), tBlk ub 29 #[.slice B1 U.length cap1, v2], tRow 35 4 (.slice B1 U.length cap1) U.length (U.flatMap qC), tRow 35 4 (v2) V.length (V.flatMap qC), tBlk xb 33 #[.int .i64 1, .int .i64 c, .int .i64 y1, .int .i64 y2, .int .i64 y3]]) w84 := OwnT.pick O [0, 1, 2, 3, 4] (by decide)
      exact hQ _ _ _ _ _ _ _ k e0 e3 e4 e5 e6 O ⟨hG.su, hG.sv, hG.ru, Nat.le_succ_of_le hG.lu, Nat.le_succ_of_le hG.lv⟩
set_option maxRecDepth 100000 in
set_option maxHeartbeats 4000000 in
theorem ownE_deed2 {H : Nat} {A0 : World} {pb ub xb qb : Nat} {F : List Nat} {v1 v2 : Value} {U V : List QD} {c y1 y2 y3 : Int} {m : Nat} {A : Option Addr} {len cap i : Nat} {Q : Exit → Act → World → Prop} (a : Act) (w : World) (k : Fr 273 a)
    (e0 : a.eval (.tmp 0) = .slice A len cap) (e3 : a.eval (.tmp 3) = .pointer (some ⟨pb, 0, none⟩)) (e4 : a.eval (.tmp 4) = .pointer (some ⟨ub, 0, none⟩)) (e5 : a.eval (.tmp 5) = .int .i64 ↑i) (e6 : a.eval (.tmp 6) = .pointer (some ⟨xb, 0, none⟩)) (e7 : a.eval (.tmp 7) = .pointer (some ⟨qb, 0, none⟩)) (e43 : a.eval (.tmp 43) = .int .i64 2)
    (O : OwnT H A0 [tOB pb F (ofQ U) (ofQ V), tBlk ub 29 #[v1, v2], tRow 35 4 (v1) U.length (U.flatMap qC), tRow 35 4 (v2) V.length (V.flatMap qC), tBlk xb 33 #[.int .i64 2, .int .i64 c, .int .i64 y1, .int .i64 y2, .int .i64 y3], tBlk qb 35 #[.int .i64 c, .int .i64 y1, .int .i64 y2, .int .i64 y3]] w) (hG : ExG U V m) (hm : m ≤ 1000) (hwf : wfV c) 
    (hQ : ∀ a w F' u1 u2 U' V', Fr 273 a → a.eval (.tmp 0) = .slice A len cap → a.eval (.tmp 3) = .pointer (some ⟨pb, 0, none⟩) → a.eval (.tmp 4) = .pointer (some ⟨ub, 0, none⟩) → a.eval (.tmp 5) = .int .i64 ↑i → a.eval (.tmp 6) = .pointer (some ⟨xb, 0, none⟩) → OwnT H A0 [tOB pb F' (ofQ U') (ofQ V'), tBlk ub 29 #[u1, u2], tRow 35 4 (u1) U'.length (U'.flatMap qC), tRow 35 4 (u2) V'.length (V'.flatMap qC), tBlk xb 33 #[.int .i64 2, .int .i64 c, .int .i64 y1, .int .i64 y2, .int .i64 y3]] w → ExG U' V' (m + 1) → Q .normal a w) :
    Code.wp Try.prog (codeAt [1, 1, 1, 1, 0, 1, 0, 0, 1, 0, 0, 1, 1, 0, 1] (Try.f3.body.getD .skip)) Q a w := by
  conv => arg 2; whnf
  have hlU : U.length ≤ 1000000 := by have := hG.lu; omega
  have hlV : V.length ≤ 1000000 := by have := hG.lv; omega
  obtain ⟨B1, cap1, rfl, hk1, hm1, -, -⟩ := ownsRow_Row qC_len (by decide) (OwnT.get O 2 rfl : World.ownsRow _ 0 35 4 v1 U.length (U.flatMap qC))
  
  by_cases hcr : 1 ≤ c ∧ c ≤ 1023
  · obtain ⟨hc1, hc2⟩ := hcr
    by_cases hin : (c, y1, y2, y3) ∈ U
    · have hin' := hin
      refine wp_block ?_
      refine wp_seq ?_
      refine wp_seq ?_
      refine wp_region_lit ?_   -- region 13
      have hE := Env.refl a [56, 55]
      apply sq_det 56 hE k rfl (by rfl) (by rfl) rfl
      case h =>   -- 0: t56 := Op.binOp BinOp.eql 3 (tmp 43) (const (Value.int IntKind.i64 1)) 3
        exact x_eql rfl (hE.eval 43 (by rfl) e43) rfl
      intro a1 hE e56 kp
      apply sq_det 55 hE k rfl (by rfl) (by rfl) rfl
      case h =>   -- 1: t55 := Op.assign (tmp 56)
        exact x_assign rfl e56
      intro a2 hE e55 kp
      refine wpList_nil ?_
      replace e0 := hE.eval 0 (by rfl) e0
      replace e3 := hE.eval 3 (by rfl) e3
      replace e4 := hE.eval 4 (by rfl) e4
      replace e5 := hE.eval 5 (by rfl) e5
      replace e6 := hE.eval 6 (by rfl) e6
      replace e7 := hE.eval 7 (by rfl) e7
      replace e43 := hE.eval 43 (by rfl) e43
      replace k := k.env hE
      clear hE
      refine then_n ?_
      refine cond_f e55 rfl ?_
      refine wp_region_lit ?_   -- region 14
      have hE := Env.refl a2 [57, 55]
      apply sq_det 57 hE k rfl (by rfl) (by rfl) rfl
      case h =>   -- 0: t57 := Op.binOp BinOp.eql 3 (tmp 43) (const (Value.int IntKind.i64 2)) 3
        exact x_eql rfl (hE.eval 43 (by rfl) e43) rfl
      intro a3 hE e57 kp
      apply sq_det 55 hE k rfl (by rfl) (by rfl) rfl
      case h =>   -- 1: t55 := Op.assign (tmp 57)
        exact x_assign rfl e57
      intro a4 hE e55 kp
      refine wpList_nil ?_
      replace e0 := hE.eval 0 (by rfl) e0
      replace e3 := hE.eval 3 (by rfl) e3
      replace e4 := hE.eval 4 (by rfl) e4
      replace e5 := hE.eval 5 (by rfl) e5
      replace e6 := hE.eval 6 (by rfl) e6
      replace e7 := hE.eval 7 (by rfl) e7
      replace e43 := hE.eval 43 (by rfl) e43
      replace k := k.env hE
      clear hE
      refine then_n ?_
      refine cond_t e55 rfl ?_
      refine wp_seq ?_
      refine wp_region_lit ?_   -- region 15
      have hE := Env.refl a4 [58, 59, 60, 61, 62, 63, 8]
      apply sq_det 58 hE k rfl (by rfl) (by rfl) rfl
      case h =>   -- 0: t58 := Op.move (tmp 3)
        exact x_move rfl (hE.eval 3 (by rfl) e3)
      intro a5 hE e58 kp
      apply sq_det 59 hE k rfl (by rfl) (by rfl) rfl
      case h =>   -- 1: t59 := Op.fieldAddr 33 (tmp 6) 1
        simp [go_sem, BigFrame.eval_const, BigFrame.eval_global, BigFrame.eval_func, ↓IntWalk.iteOmega, ev (hE.eval 6 (by rfl) e6)]
        with_reducible rfl
      intro a6 hE e59 kp
      replace e58 := (kp 58 rfl).trans e58
      apply sq_det 60 hE k rfl (by rfl) (by rfl) rfl
      case h =>   -- 2: t60 := Op.load 3 (tmp 59)
        have q0 : w.cell? ⟨xb, 1, none⟩ = some (.int .i64 c) := (OwnT.blk O 4 rfl).cell 1
        simp [go_sem, BigFrame.eval_const, BigFrame.eval_global, BigFrame.eval_func, ↓IntWalk.iteOmega, ev e59, q0]
        with_reducible rfl
      intro a7 hE e60 kp
      replace e58 := (kp 58 rfl).trans e58
      apply sq_det 61 hE k rfl (by rfl) (by rfl) rfl
      case h =>   -- 3: t61 := Op.fieldAddr 33 (tmp 6) 2
        simp [go_sem, BigFrame.eval_const, BigFrame.eval_global, BigFrame.eval_func, ↓IntWalk.iteOmega, ev (hE.eval 6 (by rfl) e6)]
        with_reducible rfl
      intro a8 hE e61 kp
      replace e58 := (kp 58 rfl).trans e58
      replace e60 := (kp 60 rfl).trans e60
      apply sq_det 62 hE k rfl (by rfl) (by rfl) rfl
      case h =>   -- 4: t62 := Op.load 31 (tmp 61)
        have q0 : w.cell? ⟨xb, 2, none⟩ = some (.int .i64 y1) := (OwnT.blk O 4 rfl).cell 2
        have q1 : w.cell? ⟨xb, 3, none⟩ = some (.int .i64 y2) := (OwnT.blk O 4 rfl).cell 3
        have q2 : w.cell? ⟨xb, 4, none⟩ = some (.int .i64 y3) := (OwnT.blk O 4 rfl).cell 4
        simp [go_sem, BigFrame.eval_const, BigFrame.eval_global, BigFrame.eval_func, ↓IntWalk.iteOmega, ev e61, q0, q1, q2]
        with_reducible rfl
      intro a9 hE e62 kp
      replace e58 := (kp 58 rfl).trans e58
      replace e60 := (kp 60 rfl).trans e60
      apply sq_call 63 hE k rfl (by rfl) (by rfl) rfl
      case h =>   -- (*tierce/owners.Book).Add
        simp [go_sem, BigFrame.eval_const, BigFrame.eval_global, BigFrame.eval_func, ↓IntWalk.iteOmega, ev e58, ev e60, ev e62]
        with_reducible exact ⟨rfl, rfl⟩
      case hc => exact add_all pb _ _ _ c (y1, y2, y3) _ O (Nat.le_trans (hG.n c) (by omega))
      clear O
      rintro e w11 ⟨he, F1, O⟩
      rw [addE_has hc1 hc2 hin] at he
      rw [addL_has hin] at O
      refine ⟨_, he, ?_⟩
      intro a10 hE e63 kp
      apply sq_det 8 hE k rfl (by rfl) (by rfl) rfl
      case h =>   -- 6: t8 := Op.assign (tmp 63)
        exact x_assign rfl e63
      intro a12 hE e8 kp
      refine wpList_nil ?_
      replace e0 := hE.eval 0 (by rfl) e0
      replace e3 := hE.eval 3 (by rfl) e3
      replace e4 := hE.eval 4 (by rfl) e4
      replace e5 := hE.eval 5 (by rfl) e5
      replace e6 := hE.eval 6 (by rfl) e6
      replace e7 := hE.eval 7 (by rfl) e7
      replace k := k.env hE
      clear hE e43 e55
      refine then_n ?_
      refine wp_seq ?_
      refine wp_region_lit ?_   -- region 16
      have hE := Env.refl a12 [9]
      apply sq_det 9 hE k rfl (by rfl) (by rfl) rfl
      case h =>   -- 0: t9 := Op.assign (const (Value.int IntKind.i64 0))
        exact x_assign rfl rfl
      intro a13 hE e9 kp
      refine wpList_nil ?_
      replace e0 := hE.eval 0 (by rfl) e0
      replace e3 := hE.eval 3 (by rfl) e3
      replace e4 := hE.eval 4 (by rfl) e4
      replace e5 := hE.eval 5 (by rfl) e5
      replace e6 := hE.eval 6 (by rfl) e6
      replace e7 := hE.eval 7 (by rfl) e7
      replace e8 := hE.eval 8 (by rfl) e8
      replace k := k.env hE
      clear hE
      refine then_n ?_
      refine wp_seq ?_
      refine wp_seq ?_
      refine wp_region_lit ?_   -- region 17
      have hE := Env.refl a13 [64, 65, 66, 67, 68, 69, 70, 71]
      apply sq_det 64 hE k rfl (by rfl) (by rfl) rfl
      case h =>   -- 0: t64 := Op.fieldAddr 33 (tmp 6) 1
        simp [go_sem, BigFrame.eval_const, BigFrame.eval_global, BigFrame.eval_func, ↓IntWalk.iteOmega, ev (hE.eval 6 (by rfl) e6)]
        with_reducible rfl
      intro a14 hE e64 kp
      apply sq_det 65 hE k rfl (by rfl) (by rfl) rfl
      case h =>   -- 1: t65 := Op.load 3 (tmp 64)
        have q0 : w11.cell? ⟨xb, 1, none⟩ = some (.int .i64 c) := (OwnT.blk O 4 rfl).cell 1
        simp [go_sem, BigFrame.eval_const, BigFrame.eval_global, BigFrame.eval_func, ↓IntWalk.iteOmega, ev e64, q0]
        with_reducible rfl
      intro a15 hE e65 kp
      apply sq_det 66 hE k rfl (by rfl) (by rfl) rfl
      case h =>   -- 2: t66 := Op.binOp BinOp.lss 3 (tmp 65) (const (Value.int IntKind.i64 1)) 3
        exact x_dec (x_lss rfl e65 rfl) (decide_eq_false (by omega))
      intro a16 hE e66 kp
      apply sq_det 67 hE k rfl (by rfl) (by rfl) rfl
      case h =>   -- 3: t67 := Op.move (tmp 66)
        exact x_move rfl e66
      intro a17 hE e67 kp
      apply sq_detg 68 hE k rfl (by rfl) (by rfl) rfl rfl e67
      case h =>   -- 4: t68 := Op.fieldAddr 33 (tmp 6) 1
        simp [go_sem, BigFrame.eval_const, BigFrame.eval_global, BigFrame.eval_func, ↓IntWalk.iteOmega, ev (hE.eval 6 (by rfl) e6)]
        with_reducible rfl
      intro a18 hE e68 kp
      replace e67 := (kp 67 rfl).trans e67
      apply sq_detg 69 hE k rfl (by rfl) (by rfl) rfl rfl e67
      case h =>   -- 5: t69 := Op.load 3 (tmp 68)
        have q0 : w11.cell? ⟨xb, 1, none⟩ = some (.int .i64 c) := (OwnT.blk O 4 rfl).cell 1
        simp [go_sem, BigFrame.eval_const, BigFrame.eval_global, BigFrame.eval_func, ↓IntWalk.iteOmega, ev e68, q0]
        with_reducible rfl
      intro a19 hE e69 kp
      replace e67 := (kp 67 rfl).trans e67
      apply sq_detg 70 hE k rfl (by rfl) (by rfl) rfl rfl e67
      case h =>   -- 6: t70 := Op.binOp BinOp.gtr 3 (tmp 69) (const (Value.int IntKind.i64 1023)) 3
        exact x_dec (x_gtr rfl e69 rfl) (decide_eq_false (by omega))
      intro a20 hE e70 kp
      replace e67 := (kp 67 rfl).trans e67
      apply sq_det 71 hE k rfl (by rfl) (by rfl) rfl
      case h =>   -- 7: t71 := Op.pick (tmp 67) (const (Value.bool true)) (tmp 70)
        exact x_pick_f rfl e67 e70
      intro a21 hE e71 kp
      refine wpList_nil ?_
      replace e0 := hE.eval 0 (by rfl) e0
      replace e3 := hE.eval 3 (by rfl) e3
      replace e4 := hE.eval 4 (by rfl) e4
      replace e5 := hE.eval 5 (by rfl) e5
      replace e6 := hE.eval 6 (by rfl) e6
      replace e7 := hE.eval 7 (by rfl) e7
      replace e8 := hE.eval 8 (by rfl) e8
      replace e9 := hE.eval 9 (by rfl) e9
      replace k := k.env hE
      clear hE
      refine then_n ?_
      refine cond_f e71 rfl ?_
      refine wp_seq ?_
      refine wp_typed (R := Ext) (w0 := w11) [[], [0], [0, 1], [0, 1, 2], [], [0, 1, 2, 3, 4]] [72, 73, 74, 75, 76, 77] Ext.refl (fun _ _ _ => Ext.trans) (Ext.drew _) (by kernel_rfl) ?_   -- region 19
      apply Build.det 72 Ext.refl (by rfl) (by rw [k.size]; rfl) rfl
      case h =>   -- 0: t72 := Op.move (tmp 4)
        intro ax wx hE hR hF
        exact x_move rfl (hE.eval 4 (by rfl) e4)
      apply Build.det 73 Ext.refl (by rfl) (by rw [k.size]; rfl) rfl
      case h =>   -- 1: t73 := Op.nilCheck (tmp 72)
        intro ax wx hE hR hF
        have e72 : ax.eval (.tmp 72) = _ := hF 0 (det 72 _) (by decide) (.head _)
        exact x_nil rfl e72
      apply Build.det 74 Ext.refl (by rfl) (by rw [k.size]; rfl) rfl
      case h =>   -- 2: t74 := Op.fieldAddr 29 (tmp 73) 0
        intro ax wx hE hR hF
        have e73 : ax.eval (.tmp 73) = _ := hF 1 (det 73 _) (by decide) (.head _)
        simp [go_sem, BigFrame.eval_const, BigFrame.eval_global, BigFrame.eval_func, ↓IntWalk.iteOmega, ev e73]
        with_reducible rfl
      apply Build.det 75 Ext.refl (by rfl) (by rw [k.size]; rfl) rfl
      case h =>   -- 3: t75 := Op.load 27 (tmp 74)
        intro ax wx hE hR hF
        have e74 : ax.eval (.tmp 74) = _ := hF 2 (det 74 _) (by decide) (.head _)
        have q0 : wx.cell? ⟨ub, 0, none⟩ = some (.slice B1 U.length cap1) := (OwnT.blk (OwnT.ext O hR) 1 rfl).cell 0
        simp [go_sem, BigFrame.eval_const, BigFrame.eval_global, BigFrame.eval_func, ↓IntWalk.iteOmega, ev e74, q0]
        with_reducible rfl
      apply Build.det 76 Ext.refl (by rfl) (by rw [k.size]; rfl) rfl
      case h =>   -- 4: t76 := Op.load 35 (tmp 7)
        intro ax wx hE hR hF
        have q0 : wx.cell? ⟨qb, 0, none⟩ = some (.int .i64 c) := (OwnT.blk (OwnT.ext O hR) 5 rfl).cell 0
        have q1 : wx.cell? ⟨qb, 1, none⟩ = some (.int .i64 y1) := (OwnT.blk (OwnT.ext O hR) 5 rfl).cell 1
        have q2 : wx.cell? ⟨qb, 2, none⟩ = some (.int .i64 y2) := (OwnT.blk (OwnT.ext O hR) 5 rfl).cell 2
        have q3 : wx.cell? ⟨qb, 3, none⟩ = some (.int .i64 y3) := (OwnT.blk (OwnT.ext O hR) 5 rfl).cell 3
        simp [go_sem, BigFrame.eval_const, BigFrame.eval_global, BigFrame.eval_func, ↓IntWalk.iteOmega, ev (hE.eval 7 (by rfl) e7), q0, q1, q2, q3]
        with_reducible rfl
      apply Build.call 77 Ext.refl (by rfl) (by rw [k.size]; rfl) rfl
      case h =>   -- 5: t77 := tierce/tierceref13.Has
        intro ax wx hE hR hF
        have e75 : ax.eval (.tmp 75) = _ := hF 3 (det 75 _) (by decide) (.tail _ (.head _))
        have e76 : ax.eval (.tmp 76) = _ := hF 4 (det 76 _) (by decide) (.head _)
        simp [go_sem, BigFrame.eval_const, BigFrame.eval_global, BigFrame.eval_func, ↓IntWalk.iteOmega, ev e75, ev e76]
        with_reducible exact ⟨rfl, rfl⟩
      case hc => intro wx hR; exact (show Calls _ _ _ _ (fun e w' => e = .returned (.bool true) ∧ Ext wx w') from (has_any B1 U.length cap1 U (c, y1, y2, y3) wx rfl (by omega) (rowQ_of (OwnT.get (OwnT.ext O hR) 2 rfl : World.ownsRow _ 0 35 4 _ U.length (U.flatMap qC))).2).mono (fun e w' h => ⟨h.1.trans (by rw [decide_eq_true hin]), h.2⟩))
      apply Build.stop
      refine ⟨by kernel_rfl, .inl ⟨rfl, ?_⟩⟩
      intro a22 w23 hE R hF
      have e77 : a22.eval (.tmp 77) = _ := hF 5 (det 77 _) (.head _)
      clear hF
      replace O := OwnT.ext O R
      clear R
      replace e0 := hE.eval 0 (by rfl) e0
      replace e3 := hE.eval 3 (by rfl) e3
      replace e4 := hE.eval 4 (by rfl) e4
      replace e5 := hE.eval 5 (by rfl) e5
      replace e6 := hE.eval 6 (by rfl) e6
      replace e7 := hE.eval 7 (by rfl) e7
      replace e8 := hE.eval 8 (by rfl) e8
      replace e9 := hE.eval 9 (by rfl) e9
      replace k := k.env hE
      clear hE e71
      refine then_n ?_
      refine cond_t e77 rfl ?_
      refine wp_region_lit ?_   -- region 20
      have hE := Env.refl a22 [9]
      apply sq_det 9 hE k rfl (by rfl) (by rfl) rfl
      case h =>   -- 0: t9 := Op.assign (const (Value.int IntKind.i64 8))
        exact x_assign rfl rfl
      intro a24 hE e9 kp
      refine wpList_nil ?_
      replace e0 := hE.eval 0 (by rfl) e0
      replace e3 := hE.eval 3 (by rfl) e3
      replace e4 := hE.eval 4 (by rfl) e4
      replace e5 := hE.eval 5 (by rfl) e5
      replace e6 := hE.eval 6 (by rfl) e6
      replace e8 := hE.eval 8 (by rfl) e8
      replace k := k.env hE
      clear hE e7 e77
      refine then_n ?_
      refine wp_seq ?_
      refine wp_region_lit ?_   -- region 22
      have hE := Env.refl a24 [87, 88, 89]
      apply sq_det 87 hE k rfl (by rfl) (by rfl) rfl
      case h =>   -- 0: t87 := Op.move (tmp 8)
        exact x_move rfl (hE.eval 8 (by rfl) e8)
      intro a25 hE e87 kp
      apply sq_det 88 hE k rfl (by rfl) (by rfl) rfl
      case h =>   -- 1: t88 := Op.move (tmp 9)
        exact x_move rfl (hE.eval 9 (by rfl) e9)
      intro a26 hE e88 kp
      replace e87 := (kp 87 rfl).trans e87
      apply sq_det 89 hE k rfl (by rfl) (by rfl) rfl
      case h =>   -- 2: t89 := Op.binOp BinOp.neq 36 (tmp 87) (tmp 88) 36
        exact x_neq rfl e87 e88
      intro a27 hE e89 kp
      refine wpList_nil ?_
      replace e0 := hE.eval 0 (by rfl) e0
      replace e3 := hE.eval 3 (by rfl) e3
      replace e4 := hE.eval 4 (by rfl) e4
      replace e5 := hE.eval 5 (by rfl) e5
      replace e6 := hE.eval 6 (by rfl) e6
      replace k := k.env hE
      clear hE e8 e9
      refine then_n ?_
      refine cond_f e89 rfl ?_
      refine wp_skip ?_
      refine block_n ?_
      replace O : OwnT _ _ ([tOB pb F1 (ofQ U) (ofQ V), tBlk ub 29 #[.slice B1 U.length cap1, v2], tRow 35 4 (.slice B1 U.length cap1) U.length (U.flatMap qC), tRow 35 4 (v2) V.length (V.flatMap qC), tBlk xb 33 #[.int .i64 2, .int .i64 c, .int .i64 y1, .int .i64 y2, .int .i64 y3]]) w23 := OwnT.pick O [0, 1, 2, 3, 4] (by decide)
      exact hQ _ _ _ _ _ _ _ k e0 e3 e4 e5 e6 O ⟨hG.su, hG.sv, hG.ru, Nat.le_succ_of_le hG.lu, Nat.le_succ_of_le hG.lv⟩
    · have hin' := hin
      refine wp_block ?_
      refine wp_seq ?_
      refine wp_seq ?_
      refine wp_region_lit ?_   -- region 13
      have hE := Env.refl a [56, 55]
      apply sq_det 56 hE k rfl (by rfl) (by rfl) rfl
      case h =>   -- 0: t56 := Op.binOp BinOp.eql 3 (tmp 43) (const (Value.int IntKind.i64 1)) 3
        exact x_eql rfl (hE.eval 43 (by rfl) e43) rfl
      intro a28 hE e56 kp
      apply sq_det 55 hE k rfl (by rfl) (by rfl) rfl
      case h =>   -- 1: t55 := Op.assign (tmp 56)
        exact x_assign rfl e56
      intro a29 hE e55 kp
      refine wpList_nil ?_
      replace e0 := hE.eval 0 (by rfl) e0
      replace e3 := hE.eval 3 (by rfl) e3
      replace e4 := hE.eval 4 (by rfl) e4
      replace e5 := hE.eval 5 (by rfl) e5
      replace e6 := hE.eval 6 (by rfl) e6
      replace e7 := hE.eval 7 (by rfl) e7
      replace e43 := hE.eval 43 (by rfl) e43
      replace k := k.env hE
      clear hE
      refine then_n ?_
      refine cond_f e55 rfl ?_
      refine wp_region_lit ?_   -- region 14
      have hE := Env.refl a29 [57, 55]
      apply sq_det 57 hE k rfl (by rfl) (by rfl) rfl
      case h =>   -- 0: t57 := Op.binOp BinOp.eql 3 (tmp 43) (const (Value.int IntKind.i64 2)) 3
        exact x_eql rfl (hE.eval 43 (by rfl) e43) rfl
      intro a30 hE e57 kp
      apply sq_det 55 hE k rfl (by rfl) (by rfl) rfl
      case h =>   -- 1: t55 := Op.assign (tmp 57)
        exact x_assign rfl e57
      intro a31 hE e55 kp
      refine wpList_nil ?_
      replace e0 := hE.eval 0 (by rfl) e0
      replace e3 := hE.eval 3 (by rfl) e3
      replace e4 := hE.eval 4 (by rfl) e4
      replace e5 := hE.eval 5 (by rfl) e5
      replace e6 := hE.eval 6 (by rfl) e6
      replace e7 := hE.eval 7 (by rfl) e7
      replace e43 := hE.eval 43 (by rfl) e43
      replace k := k.env hE
      clear hE
      refine then_n ?_
      refine cond_t e55 rfl ?_
      refine wp_seq ?_
      refine wp_region_lit ?_   -- region 15
      have hE := Env.refl a31 [58, 59, 60, 61, 62, 63, 8]
      apply sq_det 58 hE k rfl (by rfl) (by rfl) rfl
      case h =>   -- 0: t58 := Op.move (tmp 3)
        exact x_move rfl (hE.eval 3 (by rfl) e3)
      intro a32 hE e58 kp
      apply sq_det 59 hE k rfl (by rfl) (by rfl) rfl
      case h =>   -- 1: t59 := Op.fieldAddr 33 (tmp 6) 1
        simp [go_sem, BigFrame.eval_const, BigFrame.eval_global, BigFrame.eval_func, ↓IntWalk.iteOmega, ev (hE.eval 6 (by rfl) e6)]
        with_reducible rfl
      intro a33 hE e59 kp
      replace e58 := (kp 58 rfl).trans e58
      apply sq_det 60 hE k rfl (by rfl) (by rfl) rfl
      case h =>   -- 2: t60 := Op.load 3 (tmp 59)
        have q0 : w.cell? ⟨xb, 1, none⟩ = some (.int .i64 c) := (OwnT.blk O 4 rfl).cell 1
        simp [go_sem, BigFrame.eval_const, BigFrame.eval_global, BigFrame.eval_func, ↓IntWalk.iteOmega, ev e59, q0]
        with_reducible rfl
      intro a34 hE e60 kp
      replace e58 := (kp 58 rfl).trans e58
      apply sq_det 61 hE k rfl (by rfl) (by rfl) rfl
      case h =>   -- 3: t61 := Op.fieldAddr 33 (tmp 6) 2
        simp [go_sem, BigFrame.eval_const, BigFrame.eval_global, BigFrame.eval_func, ↓IntWalk.iteOmega, ev (hE.eval 6 (by rfl) e6)]
        with_reducible rfl
      intro a35 hE e61 kp
      replace e58 := (kp 58 rfl).trans e58
      replace e60 := (kp 60 rfl).trans e60
      apply sq_det 62 hE k rfl (by rfl) (by rfl) rfl
      case h =>   -- 4: t62 := Op.load 31 (tmp 61)
        have q0 : w.cell? ⟨xb, 2, none⟩ = some (.int .i64 y1) := (OwnT.blk O 4 rfl).cell 2
        have q1 : w.cell? ⟨xb, 3, none⟩ = some (.int .i64 y2) := (OwnT.blk O 4 rfl).cell 3
        have q2 : w.cell? ⟨xb, 4, none⟩ = some (.int .i64 y3) := (OwnT.blk O 4 rfl).cell 4
        simp [go_sem, BigFrame.eval_const, BigFrame.eval_global, BigFrame.eval_func, ↓IntWalk.iteOmega, ev e61, q0, q1, q2]
        with_reducible rfl
      intro a36 hE e62 kp
      replace e58 := (kp 58 rfl).trans e58
      replace e60 := (kp 60 rfl).trans e60
      apply sq_call 63 hE k rfl (by rfl) (by rfl) rfl
      case h =>   -- (*tierce/owners.Book).Add
        simp [go_sem, BigFrame.eval_const, BigFrame.eval_global, BigFrame.eval_func, ↓IntWalk.iteOmega, ev e58, ev e60, ev e62]
        with_reducible exact ⟨rfl, rfl⟩
      case hc => exact add_all pb _ _ _ c (y1, y2, y3) _ O (Nat.le_trans (hG.n c) (by omega))
      clear O
      rintro e w38 ⟨he, F1, O⟩
      rw [addE_new hc1 hc2 hin] at he
      rw [addL_new hG.su hc1 hc2 hin] at O
      refine ⟨_, he, ?_⟩
      intro a37 hE e63 kp
      apply sq_det 8 hE k rfl (by rfl) (by rfl) rfl
      case h =>   -- 6: t8 := Op.assign (tmp 63)
        exact x_assign rfl e63
      intro a39 hE e8 kp
      refine wpList_nil ?_
      replace e0 := hE.eval 0 (by rfl) e0
      replace e3 := hE.eval 3 (by rfl) e3
      replace e4 := hE.eval 4 (by rfl) e4
      replace e5 := hE.eval 5 (by rfl) e5
      replace e6 := hE.eval 6 (by rfl) e6
      replace e7 := hE.eval 7 (by rfl) e7
      replace k := k.env hE
      clear hE e43 e55
      refine then_n ?_
      refine wp_seq ?_
      refine wp_region_lit ?_   -- region 16
      have hE := Env.refl a39 [9]
      apply sq_det 9 hE k rfl (by rfl) (by rfl) rfl
      case h =>   -- 0: t9 := Op.assign (const (Value.int IntKind.i64 0))
        exact x_assign rfl rfl
      intro a40 hE e9 kp
      refine wpList_nil ?_
      replace e0 := hE.eval 0 (by rfl) e0
      replace e3 := hE.eval 3 (by rfl) e3
      replace e4 := hE.eval 4 (by rfl) e4
      replace e5 := hE.eval 5 (by rfl) e5
      replace e6 := hE.eval 6 (by rfl) e6
      replace e7 := hE.eval 7 (by rfl) e7
      replace e8 := hE.eval 8 (by rfl) e8
      replace k := k.env hE
      clear hE
      refine then_n ?_
      refine wp_seq ?_
      refine wp_seq ?_
      refine wp_region_lit ?_   -- region 17
      have hE := Env.refl a40 [64, 65, 66, 67, 68, 69, 70, 71]
      apply sq_det 64 hE k rfl (by rfl) (by rfl) rfl
      case h =>   -- 0: t64 := Op.fieldAddr 33 (tmp 6) 1
        simp [go_sem, BigFrame.eval_const, BigFrame.eval_global, BigFrame.eval_func, ↓IntWalk.iteOmega, ev (hE.eval 6 (by rfl) e6)]
        with_reducible rfl
      intro a41 hE e64 kp
      apply sq_det 65 hE k rfl (by rfl) (by rfl) rfl
      case h =>   -- 1: t65 := Op.load 3 (tmp 64)
        have q0 : w38.cell? ⟨xb, 1, none⟩ = some (.int .i64 c) := (OwnT.blk O 4 rfl).cell 1
        simp [go_sem, BigFrame.eval_const, BigFrame.eval_global, BigFrame.eval_func, ↓IntWalk.iteOmega, ev e64, q0]
        with_reducible rfl
      intro a42 hE e65 kp
      apply sq_det 66 hE k rfl (by rfl) (by rfl) rfl
      case h =>   -- 2: t66 := Op.binOp BinOp.lss 3 (tmp 65) (const (Value.int IntKind.i64 1)) 3
        exact x_dec (x_lss rfl e65 rfl) (decide_eq_false (by omega))
      intro a43 hE e66 kp
      apply sq_det 67 hE k rfl (by rfl) (by rfl) rfl
      case h =>   -- 3: t67 := Op.move (tmp 66)
        exact x_move rfl e66
      intro a44 hE e67 kp
      apply sq_detg 68 hE k rfl (by rfl) (by rfl) rfl rfl e67
      case h =>   -- 4: t68 := Op.fieldAddr 33 (tmp 6) 1
        simp [go_sem, BigFrame.eval_const, BigFrame.eval_global, BigFrame.eval_func, ↓IntWalk.iteOmega, ev (hE.eval 6 (by rfl) e6)]
        with_reducible rfl
      intro a45 hE e68 kp
      replace e67 := (kp 67 rfl).trans e67
      apply sq_detg 69 hE k rfl (by rfl) (by rfl) rfl rfl e67
      case h =>   -- 5: t69 := Op.load 3 (tmp 68)
        have q0 : w38.cell? ⟨xb, 1, none⟩ = some (.int .i64 c) := (OwnT.blk O 4 rfl).cell 1
        simp [go_sem, BigFrame.eval_const, BigFrame.eval_global, BigFrame.eval_func, ↓IntWalk.iteOmega, ev e68, q0]
        with_reducible rfl
      intro a46 hE e69 kp
      replace e67 := (kp 67 rfl).trans e67
      apply sq_detg 70 hE k rfl (by rfl) (by rfl) rfl rfl e67
      case h =>   -- 6: t70 := Op.binOp BinOp.gtr 3 (tmp 69) (const (Value.int IntKind.i64 1023)) 3
        exact x_dec (x_gtr rfl e69 rfl) (decide_eq_false (by omega))
      intro a47 hE e70 kp
      replace e67 := (kp 67 rfl).trans e67
      apply sq_det 71 hE k rfl (by rfl) (by rfl) rfl
      case h =>   -- 7: t71 := Op.pick (tmp 67) (const (Value.bool true)) (tmp 70)
        exact x_pick_f rfl e67 e70
      intro a48 hE e71 kp
      refine wpList_nil ?_
      replace e0 := hE.eval 0 (by rfl) e0
      replace e3 := hE.eval 3 (by rfl) e3
      replace e4 := hE.eval 4 (by rfl) e4
      replace e5 := hE.eval 5 (by rfl) e5
      replace e6 := hE.eval 6 (by rfl) e6
      replace e7 := hE.eval 7 (by rfl) e7
      replace e8 := hE.eval 8 (by rfl) e8
      replace e9 := hE.eval 9 (by rfl) e9
      replace k := k.env hE
      clear hE
      refine then_n ?_
      refine cond_f e71 rfl ?_
      refine wp_seq ?_
      refine wp_typed (R := Ext) (w0 := w38) [[], [0], [0, 1], [0, 1, 2], [], [0, 1, 2, 3, 4]] [72, 73, 74, 75, 76, 77] Ext.refl (fun _ _ _ => Ext.trans) (Ext.drew _) (by kernel_rfl) ?_   -- region 19
      apply Build.det 72 Ext.refl (by rfl) (by rw [k.size]; rfl) rfl
      case h =>   -- 0: t72 := Op.move (tmp 4)
        intro ax wx hE hR hF
        exact x_move rfl (hE.eval 4 (by rfl) e4)
      apply Build.det 73 Ext.refl (by rfl) (by rw [k.size]; rfl) rfl
      case h =>   -- 1: t73 := Op.nilCheck (tmp 72)
        intro ax wx hE hR hF
        have e72 : ax.eval (.tmp 72) = _ := hF 0 (det 72 _) (by decide) (.head _)
        exact x_nil rfl e72
      apply Build.det 74 Ext.refl (by rfl) (by rw [k.size]; rfl) rfl
      case h =>   -- 2: t74 := Op.fieldAddr 29 (tmp 73) 0
        intro ax wx hE hR hF
        have e73 : ax.eval (.tmp 73) = _ := hF 1 (det 73 _) (by decide) (.head _)
        simp [go_sem, BigFrame.eval_const, BigFrame.eval_global, BigFrame.eval_func, ↓IntWalk.iteOmega, ev e73]
        with_reducible rfl
      apply Build.det 75 Ext.refl (by rfl) (by rw [k.size]; rfl) rfl
      case h =>   -- 3: t75 := Op.load 27 (tmp 74)
        intro ax wx hE hR hF
        have e74 : ax.eval (.tmp 74) = _ := hF 2 (det 74 _) (by decide) (.head _)
        have q0 : wx.cell? ⟨ub, 0, none⟩ = some (.slice B1 U.length cap1) := (OwnT.blk (OwnT.ext O hR) 1 rfl).cell 0
        simp [go_sem, BigFrame.eval_const, BigFrame.eval_global, BigFrame.eval_func, ↓IntWalk.iteOmega, ev e74, q0]
        with_reducible rfl
      apply Build.det 76 Ext.refl (by rfl) (by rw [k.size]; rfl) rfl
      case h =>   -- 4: t76 := Op.load 35 (tmp 7)
        intro ax wx hE hR hF
        have q0 : wx.cell? ⟨qb, 0, none⟩ = some (.int .i64 c) := (OwnT.blk (OwnT.ext O hR) 5 rfl).cell 0
        have q1 : wx.cell? ⟨qb, 1, none⟩ = some (.int .i64 y1) := (OwnT.blk (OwnT.ext O hR) 5 rfl).cell 1
        have q2 : wx.cell? ⟨qb, 2, none⟩ = some (.int .i64 y2) := (OwnT.blk (OwnT.ext O hR) 5 rfl).cell 2
        have q3 : wx.cell? ⟨qb, 3, none⟩ = some (.int .i64 y3) := (OwnT.blk (OwnT.ext O hR) 5 rfl).cell 3
        simp [go_sem, BigFrame.eval_const, BigFrame.eval_global, BigFrame.eval_func, ↓IntWalk.iteOmega, ev (hE.eval 7 (by rfl) e7), q0, q1, q2, q3]
        with_reducible rfl
      apply Build.call 77 Ext.refl (by rfl) (by rw [k.size]; rfl) rfl
      case h =>   -- 5: t77 := tierce/tierceref13.Has
        intro ax wx hE hR hF
        have e75 : ax.eval (.tmp 75) = _ := hF 3 (det 75 _) (by decide) (.tail _ (.head _))
        have e76 : ax.eval (.tmp 76) = _ := hF 4 (det 76 _) (by decide) (.head _)
        simp [go_sem, BigFrame.eval_const, BigFrame.eval_global, BigFrame.eval_func, ↓IntWalk.iteOmega, ev e75, ev e76]
        with_reducible exact ⟨rfl, rfl⟩
      case hc => intro wx hR; exact (show Calls _ _ _ _ (fun e w' => e = .returned (.bool false) ∧ Ext wx w') from (has_any B1 U.length cap1 U (c, y1, y2, y3) wx rfl (by omega) (rowQ_of (OwnT.get (OwnT.ext O hR) 2 rfl : World.ownsRow _ 0 35 4 _ U.length (U.flatMap qC))).2).mono (fun e w' h => ⟨h.1.trans (by rw [decide_eq_false hin]), h.2⟩))
      apply Build.stop
      refine ⟨by kernel_rfl, .inl ⟨rfl, ?_⟩⟩
      intro a49 w50 hE R hF
      have e77 : a49.eval (.tmp 77) = _ := hF 5 (det 77 _) (.head _)
      clear hF
      replace O := OwnT.ext O R
      clear R
      replace e0 := hE.eval 0 (by rfl) e0
      replace e3 := hE.eval 3 (by rfl) e3
      replace e4 := hE.eval 4 (by rfl) e4
      replace e5 := hE.eval 5 (by rfl) e5
      replace e6 := hE.eval 6 (by rfl) e6
      replace e7 := hE.eval 7 (by rfl) e7
      replace e8 := hE.eval 8 (by rfl) e8
      replace e9 := hE.eval 9 (by rfl) e9
      replace k := k.env hE
      clear hE e71
      refine then_n ?_
      refine cond_f e77 rfl ?_
      refine wp_typed (R := Ext) (w0 := w50) [[], [], [1], [1, 2], [1, 2, 3], [], [1, 2, 3, 4, 5], [0, 1, 2, 3, 4, 5, 6], [0, 1, 2, 3, 4, 5, 6, 7], [0, 1, 2, 3, 4, 5, 6, 7, 8]] [78, 79, 80, 81, 82, 83, 84, 85, 86] Ext.refl (fun _ _ _ => Ext.trans) (Ext.drew _) (by kernel_rfl) ?_   -- region 21
      apply Build.det 78 Ext.refl (by rfl) (by rw [k.size]; rfl) rfl
      case h =>   -- 0: t78 := Op.move (tmp 4)
        intro ax wx hE hR hF
        exact x_move rfl (hE.eval 4 (by rfl) e4)
      apply Build.det 79 Ext.refl (by rfl) (by rw [k.size]; rfl) rfl
      case h =>   -- 1: t79 := Op.move (tmp 4)
        intro ax wx hE hR hF
        exact x_move rfl (hE.eval 4 (by rfl) e4)
      apply Build.det 80 Ext.refl (by rfl) (by rw [k.size]; rfl) rfl
      case h =>   -- 2: t80 := Op.nilCheck (tmp 79)
        intro ax wx hE hR hF
        have e79 : ax.eval (.tmp 79) = _ := hF 1 (det 79 _) (by decide) (.head _)
        exact x_nil rfl e79
      apply Build.det 81 Ext.refl (by rfl) (by rw [k.size]; rfl) rfl
      case h =>   -- 3: t81 := Op.fieldAddr 29 (tmp 80) 0
        intro ax wx hE hR hF
        have e80 : ax.eval (.tmp 80) = _ := hF 2 (det 80 _) (by decide) (.head _)
        simp [go_sem, BigFrame.eval_const, BigFrame.eval_global, BigFrame.eval_func, ↓IntWalk.iteOmega, ev e80]
        with_reducible rfl
      apply Build.det 82 Ext.refl (by rfl) (by rw [k.size]; rfl) rfl
      case h =>   -- 4: t82 := Op.load 27 (tmp 81)
        intro ax wx hE hR hF
        have e81 : ax.eval (.tmp 81) = _ := hF 3 (det 81 _) (by decide) (.head _)
        have q0 : wx.cell? ⟨ub, 0, none⟩ = some (.slice B1 U.length cap1) := (OwnT.blk (OwnT.ext O hR) 1 rfl).cell 0
        simp [go_sem, BigFrame.eval_const, BigFrame.eval_global, BigFrame.eval_func, ↓IntWalk.iteOmega, ev e81, q0]
        with_reducible rfl
      apply Build.det 83 Ext.refl (by rfl) (by rw [k.size]; rfl) rfl
      case h =>   -- 5: t83 := Op.load 35 (tmp 7)
        intro ax wx hE hR hF
        have q0 : wx.cell? ⟨qb, 0, none⟩ = some (.int .i64 c) := (OwnT.blk (OwnT.ext O hR) 5 rfl).cell 0
        have q1 : wx.cell? ⟨qb, 1, none⟩ = some (.int .i64 y1) := (OwnT.blk (OwnT.ext O hR) 5 rfl).cell 1
        have q2 : wx.cell? ⟨qb, 2, none⟩ = some (.int .i64 y2) := (OwnT.blk (OwnT.ext O hR) 5 rfl).cell 2
        have q3 : wx.cell? ⟨qb, 3, none⟩ = some (.int .i64 y3) := (OwnT.blk (OwnT.ext O hR) 5 rfl).cell 3
        simp [go_sem, BigFrame.eval_const, BigFrame.eval_global, BigFrame.eval_func, ↓IntWalk.iteOmega, ev (hE.eval 7 (by rfl) e7), q0, q1, q2, q3]
        with_reducible rfl
      apply Build.callnew 84 (fun v w => World.ownsRow w w50.heap.size 35 4 v (insQ (c, y1, y2, y3) U).length ((insQ (c, y1, y2, y3) U).flatMap qC)) (fun v w w' hR h => ownsRow_extB h hR) Ext.refl (by rfl) (by rw [k.size]; rfl) rfl
      case h =>   -- 6: t84 := tierce/tierceref13.Add
        intro ax wx hE hR hF
        have e82 : ax.eval (.tmp 82) = _ := hF 4 (det 82 _) (by decide) (.tail _ (.head _))
        have e83 : ax.eval (.tmp 83) = _ := hF 5 (det 83 _) (by decide) (.head _)
        simp [go_sem, BigFrame.eval_const, BigFrame.eval_global, BigFrame.eval_func, ↓IntWalk.iteOmega, ev e82, ev e83]
        with_reducible exact ⟨rfl, rfl⟩
      case hc => exact fun wx hR => (addq_any B1 U.length cap1 U (c, y1, y2, y3) wx rfl (by omega) (rowQ_of (OwnT.get (OwnT.ext O hR) 2 rfl : World.ownsRow _ 0 35 4 _ U.length (U.flatMap qC))).2).mono (fun e w' ⟨v, h1, h2, h3⟩ => ⟨v, h1, h3, ownsRow_low h2 hR.size⟩)
      apply Build.det 85 Ext.refl (by rfl) (by rw [k.size]; rfl) rfl
      case h =>   -- 7: t85 := Op.nilCheck (tmp 78)
        intro ax wx hE hR hF
        have e78 : ax.eval (.tmp 78) = _ := hF 0 (det 78 _) (by decide) (.tail _ (.tail _ (.tail _ (.tail _ (.tail _ (.tail _ (.head _)))))))
        exact x_nil rfl e78
      apply Build.det 86 Ext.refl (by rfl) (by rw [k.size]; rfl) rfl
      case h =>   -- 8: t86 := Op.fieldAddr 29 (tmp 85) 0
        intro ax wx hE hR hF
        have e85 : ax.eval (.tmp 85) = _ := hF 7 (det 85 _) (by decide) (.head _)
        simp [go_sem, BigFrame.eval_const, BigFrame.eval_global, BigFrame.eval_func, ↓IntWalk.iteOmega, ev e85]
        with_reducible rfl
      apply Build.stop
      refine ⟨by kernel_rfl, .inr ⟨by kernel_rfl, _, rfl, rfl, ?_⟩⟩
      intro a51 w52 hE R hF
      have f84 := hF 6 _ (.tail _ (.tail _ (.head _)))
      have e86 : a51.eval (.tmp 86) = _ := hF 8 (det 86 _) (.head _)
      clear hF
      obtain ⟨v3, e84, hrow⟩ : ∃ v3, a51.eval (.tmp 84) = v3 ∧ World.ownsRow w52 w50.heap.size 35 4 v3 (insQ (c, y1, y2, y3) U).length ((insQ (c, y1, y2, y3) U).flatMap qC) := ⟨_, rfl, f84⟩
      clear f84
      obtain ⟨B3, cap3, rfl, hk3, hm3, -, -⟩ := ownsRow_Row qC_len (by decide) hrow
      replace O := OwnT.newRow O R hrow
      clear R
      have q0 : w52.cell? ⟨ub, 0, none⟩ = some (.slice B1 U.length cap1) := (OwnT.blk O 2 rfl).cell 0
      have q1 : w52.frozen? ⟨ub, 0, none⟩ = false := (OwnT.blk O 2 rfl).frozen 0
      refine last_store (off := 0) (v := .slice B3 ((insQ (c, y1, y2, y3) U).length) cap3) O 2 rfl rfl (by simp [go_sem, BigFrame.eval_const, BigFrame.eval_global, BigFrame.eval_func, ↓IntWalk.iteOmega, ev e84, ev e86, q0, q1]) ?_
      clear q0 q1
      clear O
      intro w53 O
      replace O : OwnT _ _ ([tRow 35 4 (.slice B3 ((insQ (c, y1, y2, y3) U).length) cap3) (insQ (c, y1, y2, y3) U).length ((insQ (c, y1, y2, y3) U).flatMap qC), tOB pb F1 (ofQ (insQ (c, y1, y2, y3) U)) (ofQ V), tBlk ub 29 #[.slice B3 ((insQ (c, y1, y2, y3) U).length) cap3, v2], tRow 35 4 (.slice B1 U.length cap1) U.length (U.flatMap qC), tRow 35 4 (v2) V.length (V.flatMap qC), tBlk xb 33 #[.int .i64 2, .int .i64 c, .int .i64 y1, .int .i64 y2, .int .i64 y3], tBlk qb 35 #[.int .i64 c, .int .i64 y1, .int .i64 y2, .int .i64 y3]]) w53 := O
      replace e0 := hE.eval 0 (by rfl) e0
      replace e3 := hE.eval 3 (by rfl) e3
      replace e4 := hE.eval 4 (by rfl) e4
      replace e5 := hE.eval 5 (by rfl) e5
      replace e6 := hE.eval 6 (by rfl) e6
      replace e8 := hE.eval 8 (by rfl) e8
      replace e9 := hE.eval 9 (by rfl) e9
      replace k := k.env hE
      clear hE e7 e77 e84 e86
      refine then_n ?_
      refine wp_seq ?_
      refine wp_region_lit ?_   -- region 22
      have hE := Env.refl a51 [87, 88, 89]
      apply sq_det 87 hE k rfl (by rfl) (by rfl) rfl
      case h =>   -- 0: t87 := Op.move (tmp 8)
        exact x_move rfl (hE.eval 8 (by rfl) e8)
      intro a54 hE e87 kp
      apply sq_det 88 hE k rfl (by rfl) (by rfl) rfl
      case h =>   -- 1: t88 := Op.move (tmp 9)
        exact x_move rfl (hE.eval 9 (by rfl) e9)
      intro a55 hE e88 kp
      replace e87 := (kp 87 rfl).trans e87
      apply sq_det 89 hE k rfl (by rfl) (by rfl) rfl
      case h =>   -- 2: t89 := Op.binOp BinOp.neq 36 (tmp 87) (tmp 88) 36
        exact x_neq rfl e87 e88
      intro a56 hE e89 kp
      refine wpList_nil ?_
      replace e0 := hE.eval 0 (by rfl) e0
      replace e3 := hE.eval 3 (by rfl) e3
      replace e4 := hE.eval 4 (by rfl) e4
      replace e5 := hE.eval 5 (by rfl) e5
      replace e6 := hE.eval 6 (by rfl) e6
      replace k := k.env hE
      clear hE e8 e9
      refine then_n ?_
      refine cond_f e89 rfl ?_
      refine wp_skip ?_
      refine block_n ?_
      replace O : OwnT _ _ ([tOB pb F1 (ofQ (insQ (c, y1, y2, y3) U)) (ofQ V), tBlk ub 29 #[.slice B3 ((insQ (c, y1, y2, y3) U).length) cap3, v2], tRow 35 4 (.slice B3 ((insQ (c, y1, y2, y3) U).length) cap3) (insQ (c, y1, y2, y3) U).length ((insQ (c, y1, y2, y3) U).flatMap qC), tRow 35 4 (v2) V.length (V.flatMap qC), tBlk xb 33 #[.int .i64 2, .int .i64 c, .int .i64 y1, .int .i64 y2, .int .i64 y3]]) w53 := OwnT.pick O [1, 2, 0, 4, 5] (by decide)
      exact hQ _ _ _ _ _ _ _ k e0 e3 e4 e5 e6 O ⟨insQ_sorted _ _ hG.su hin, hG.sv, insQ_range hG.ru hc1 hc2, by rw [insQ_len]; exact Nat.succ_le_succ hG.lu, Nat.le_succ_of_le hG.lv⟩
  · by_cases hc1 : c < 1
    · have hcr' := hcr
      refine wp_block ?_
      refine wp_seq ?_
      refine wp_seq ?_
      refine wp_region_lit ?_   -- region 13
      have hE := Env.refl a [56, 55]
      apply sq_det 56 hE k rfl (by rfl) (by rfl) rfl
      case h =>   -- 0: t56 := Op.binOp BinOp.eql 3 (tmp 43) (const (Value.int IntKind.i64 1)) 3
        exact x_eql rfl (hE.eval 43 (by rfl) e43) rfl
      intro a57 hE e56 kp
      apply sq_det 55 hE k rfl (by rfl) (by rfl) rfl
      case h =>   -- 1: t55 := Op.assign (tmp 56)
        exact x_assign rfl e56
      intro a58 hE e55 kp
      refine wpList_nil ?_
      replace e0 := hE.eval 0 (by rfl) e0
      replace e3 := hE.eval 3 (by rfl) e3
      replace e4 := hE.eval 4 (by rfl) e4
      replace e5 := hE.eval 5 (by rfl) e5
      replace e6 := hE.eval 6 (by rfl) e6
      replace e7 := hE.eval 7 (by rfl) e7
      replace e43 := hE.eval 43 (by rfl) e43
      replace k := k.env hE
      clear hE
      refine then_n ?_
      refine cond_f e55 rfl ?_
      refine wp_region_lit ?_   -- region 14
      have hE := Env.refl a58 [57, 55]
      apply sq_det 57 hE k rfl (by rfl) (by rfl) rfl
      case h =>   -- 0: t57 := Op.binOp BinOp.eql 3 (tmp 43) (const (Value.int IntKind.i64 2)) 3
        exact x_eql rfl (hE.eval 43 (by rfl) e43) rfl
      intro a59 hE e57 kp
      apply sq_det 55 hE k rfl (by rfl) (by rfl) rfl
      case h =>   -- 1: t55 := Op.assign (tmp 57)
        exact x_assign rfl e57
      intro a60 hE e55 kp
      refine wpList_nil ?_
      replace e0 := hE.eval 0 (by rfl) e0
      replace e3 := hE.eval 3 (by rfl) e3
      replace e4 := hE.eval 4 (by rfl) e4
      replace e5 := hE.eval 5 (by rfl) e5
      replace e6 := hE.eval 6 (by rfl) e6
      replace e7 := hE.eval 7 (by rfl) e7
      replace e43 := hE.eval 43 (by rfl) e43
      replace k := k.env hE
      clear hE
      refine then_n ?_
      refine cond_t e55 rfl ?_
      refine wp_seq ?_
      refine wp_region_lit ?_   -- region 15
      have hE := Env.refl a60 [58, 59, 60, 61, 62, 63, 8]
      apply sq_det 58 hE k rfl (by rfl) (by rfl) rfl
      case h =>   -- 0: t58 := Op.move (tmp 3)
        exact x_move rfl (hE.eval 3 (by rfl) e3)
      intro a61 hE e58 kp
      apply sq_det 59 hE k rfl (by rfl) (by rfl) rfl
      case h =>   -- 1: t59 := Op.fieldAddr 33 (tmp 6) 1
        simp [go_sem, BigFrame.eval_const, BigFrame.eval_global, BigFrame.eval_func, ↓IntWalk.iteOmega, ev (hE.eval 6 (by rfl) e6)]
        with_reducible rfl
      intro a62 hE e59 kp
      replace e58 := (kp 58 rfl).trans e58
      apply sq_det 60 hE k rfl (by rfl) (by rfl) rfl
      case h =>   -- 2: t60 := Op.load 3 (tmp 59)
        have q0 : w.cell? ⟨xb, 1, none⟩ = some (.int .i64 c) := (OwnT.blk O 4 rfl).cell 1
        simp [go_sem, BigFrame.eval_const, BigFrame.eval_global, BigFrame.eval_func, ↓IntWalk.iteOmega, ev e59, q0]
        with_reducible rfl
      intro a63 hE e60 kp
      replace e58 := (kp 58 rfl).trans e58
      apply sq_det 61 hE k rfl (by rfl) (by rfl) rfl
      case h =>   -- 3: t61 := Op.fieldAddr 33 (tmp 6) 2
        simp [go_sem, BigFrame.eval_const, BigFrame.eval_global, BigFrame.eval_func, ↓IntWalk.iteOmega, ev (hE.eval 6 (by rfl) e6)]
        with_reducible rfl
      intro a64 hE e61 kp
      replace e58 := (kp 58 rfl).trans e58
      replace e60 := (kp 60 rfl).trans e60
      apply sq_det 62 hE k rfl (by rfl) (by rfl) rfl
      case h =>   -- 4: t62 := Op.load 31 (tmp 61)
        have q0 : w.cell? ⟨xb, 2, none⟩ = some (.int .i64 y1) := (OwnT.blk O 4 rfl).cell 2
        have q1 : w.cell? ⟨xb, 3, none⟩ = some (.int .i64 y2) := (OwnT.blk O 4 rfl).cell 3
        have q2 : w.cell? ⟨xb, 4, none⟩ = some (.int .i64 y3) := (OwnT.blk O 4 rfl).cell 4
        simp [go_sem, BigFrame.eval_const, BigFrame.eval_global, BigFrame.eval_func, ↓IntWalk.iteOmega, ev e61, q0, q1, q2]
        with_reducible rfl
      intro a65 hE e62 kp
      replace e58 := (kp 58 rfl).trans e58
      replace e60 := (kp 60 rfl).trans e60
      apply sq_call 63 hE k rfl (by rfl) (by rfl) rfl
      case h =>   -- (*tierce/owners.Book).Add
        simp [go_sem, BigFrame.eval_const, BigFrame.eval_global, BigFrame.eval_func, ↓IntWalk.iteOmega, ev e58, ev e60, ev e62]
        with_reducible exact ⟨rfl, rfl⟩
      case hc => exact add_all pb _ _ _ c (y1, y2, y3) _ O (Nat.le_trans (hG.n c) (by omega))
      clear O
      rintro e w67 ⟨he, F1, O⟩
      rw [addE_out hcr] at he
      rw [addL_out hcr] at O
      refine ⟨_, he, ?_⟩
      intro a66 hE e63 kp
      apply sq_det 8 hE k rfl (by rfl) (by rfl) rfl
      case h =>   -- 6: t8 := Op.assign (tmp 63)
        exact x_assign rfl e63
      intro a68 hE e8 kp
      refine wpList_nil ?_
      replace e0 := hE.eval 0 (by rfl) e0
      replace e3 := hE.eval 3 (by rfl) e3
      replace e4 := hE.eval 4 (by rfl) e4
      replace e5 := hE.eval 5 (by rfl) e5
      replace e6 := hE.eval 6 (by rfl) e6
      replace e7 := hE.eval 7 (by rfl) e7
      replace k := k.env hE
      clear hE e43 e55
      refine then_n ?_
      refine wp_seq ?_
      refine wp_region_lit ?_   -- region 16
      have hE := Env.refl a68 [9]
      apply sq_det 9 hE k rfl (by rfl) (by rfl) rfl
      case h =>   -- 0: t9 := Op.assign (const (Value.int IntKind.i64 0))
        exact x_assign rfl rfl
      intro a69 hE e9 kp
      refine wpList_nil ?_
      replace e0 := hE.eval 0 (by rfl) e0
      replace e3 := hE.eval 3 (by rfl) e3
      replace e4 := hE.eval 4 (by rfl) e4
      replace e5 := hE.eval 5 (by rfl) e5
      replace e6 := hE.eval 6 (by rfl) e6
      replace e7 := hE.eval 7 (by rfl) e7
      replace e8 := hE.eval 8 (by rfl) e8
      replace k := k.env hE
      clear hE
      refine then_n ?_
      refine wp_seq ?_
      refine wp_seq ?_
      refine wp_region_lit ?_   -- region 17
      have hE := Env.refl a69 [64, 65, 66, 67, 68, 69, 70, 71]
      apply sq_det 64 hE k rfl (by rfl) (by rfl) rfl
      case h =>   -- 0: t64 := Op.fieldAddr 33 (tmp 6) 1
        simp [go_sem, BigFrame.eval_const, BigFrame.eval_global, BigFrame.eval_func, ↓IntWalk.iteOmega, ev (hE.eval 6 (by rfl) e6)]
        with_reducible rfl
      intro a70 hE e64 kp
      apply sq_det 65 hE k rfl (by rfl) (by rfl) rfl
      case h =>   -- 1: t65 := Op.load 3 (tmp 64)
        have q0 : w67.cell? ⟨xb, 1, none⟩ = some (.int .i64 c) := (OwnT.blk O 4 rfl).cell 1
        simp [go_sem, BigFrame.eval_const, BigFrame.eval_global, BigFrame.eval_func, ↓IntWalk.iteOmega, ev e64, q0]
        with_reducible rfl
      intro a71 hE e65 kp
      apply sq_det 66 hE k rfl (by rfl) (by rfl) rfl
      case h =>   -- 2: t66 := Op.binOp BinOp.lss 3 (tmp 65) (const (Value.int IntKind.i64 1)) 3
        exact x_dec (x_lss rfl e65 rfl) (decide_eq_true (by omega))
      intro a72 hE e66 kp
      apply sq_det 67 hE k rfl (by rfl) (by rfl) rfl
      case h =>   -- 3: t67 := Op.move (tmp 66)
        exact x_move rfl e66
      intro a73 hE e67 kp
      refine sq_skipg 68 hE k rfl (by rfl) (by rfl) rfl rfl (.inl e67) ?_
      intro a74 hE e68 kp
      replace e67 := (kp 67 rfl).trans e67
      refine sq_skipg 69 hE k rfl (by rfl) (by rfl) rfl rfl (.inl e67) ?_
      intro a75 hE e69 kp
      replace e67 := (kp 67 rfl).trans e67
      refine sq_skipg 70 hE k rfl (by rfl) (by rfl) rfl rfl (.inl e67) ?_
      intro a76 hE e70 kp
      replace e67 := (kp 67 rfl).trans e67
      apply sq_det 71 hE k rfl (by rfl) (by rfl) rfl
      case h =>   -- 7: t71 := Op.pick (tmp 67) (const (Value.bool true)) (tmp 70)
        exact x_pick_t rfl e67 rfl
      intro a77 hE e71 kp
      refine wpList_nil ?_
      replace e0 := hE.eval 0 (by rfl) e0
      replace e3 := hE.eval 3 (by rfl) e3
      replace e4 := hE.eval 4 (by rfl) e4
      replace e5 := hE.eval 5 (by rfl) e5
      replace e6 := hE.eval 6 (by rfl) e6
      replace e7 := hE.eval 7 (by rfl) e7
      replace e8 := hE.eval 8 (by rfl) e8
      replace e9 := hE.eval 9 (by rfl) e9
      replace k := k.env hE
      clear hE
      refine then_n ?_
      refine cond_t e71 rfl ?_
      refine wp_region_lit ?_   -- region 18
      have hE := Env.refl a77 [9]
      apply sq_det 9 hE k rfl (by rfl) (by rfl) rfl
      case h =>   -- 0: t9 := Op.assign (const (Value.int IntKind.i64 1))
        exact x_assign rfl rfl
      intro a78 hE e9 kp
      refine wpList_nil ?_
      replace e0 := hE.eval 0 (by rfl) e0
      replace e3 := hE.eval 3 (by rfl) e3
      replace e4 := hE.eval 4 (by rfl) e4
      replace e5 := hE.eval 5 (by rfl) e5
      replace e6 := hE.eval 6 (by rfl) e6
      replace e8 := hE.eval 8 (by rfl) e8
      replace k := k.env hE
      clear hE e7 e71
      refine then_n ?_
      refine wp_seq ?_
      refine wp_region_lit ?_   -- region 22
      have hE := Env.refl a78 [87, 88, 89]
      apply sq_det 87 hE k rfl (by rfl) (by rfl) rfl
      case h =>   -- 0: t87 := Op.move (tmp 8)
        exact x_move rfl (hE.eval 8 (by rfl) e8)
      intro a79 hE e87 kp
      apply sq_det 88 hE k rfl (by rfl) (by rfl) rfl
      case h =>   -- 1: t88 := Op.move (tmp 9)
        exact x_move rfl (hE.eval 9 (by rfl) e9)
      intro a80 hE e88 kp
      replace e87 := (kp 87 rfl).trans e87
      apply sq_det 89 hE k rfl (by rfl) (by rfl) rfl
      case h =>   -- 2: t89 := Op.binOp BinOp.neq 36 (tmp 87) (tmp 88) 36
        exact x_neq rfl e87 e88
      intro a81 hE e89 kp
      refine wpList_nil ?_
      replace e0 := hE.eval 0 (by rfl) e0
      replace e3 := hE.eval 3 (by rfl) e3
      replace e4 := hE.eval 4 (by rfl) e4
      replace e5 := hE.eval 5 (by rfl) e5
      replace e6 := hE.eval 6 (by rfl) e6
      replace k := k.env hE
      clear hE e8 e9
      refine then_n ?_
      refine cond_f e89 rfl ?_
      refine wp_skip ?_
      refine block_n ?_
      replace O : OwnT _ _ ([tOB pb F1 (ofQ U) (ofQ V), tBlk ub 29 #[.slice B1 U.length cap1, v2], tRow 35 4 (.slice B1 U.length cap1) U.length (U.flatMap qC), tRow 35 4 (v2) V.length (V.flatMap qC), tBlk xb 33 #[.int .i64 2, .int .i64 c, .int .i64 y1, .int .i64 y2, .int .i64 y3]]) w67 := OwnT.pick O [0, 1, 2, 3, 4] (by decide)
      exact hQ _ _ _ _ _ _ _ k e0 e3 e4 e5 e6 O ⟨hG.su, hG.sv, hG.ru, Nat.le_succ_of_le hG.lu, Nat.le_succ_of_le hG.lv⟩
    · have hc2 : 1023 < c := by omega
      refine wp_block ?_
      refine wp_seq ?_
      refine wp_seq ?_
      refine wp_region_lit ?_   -- region 13
      have hE := Env.refl a [56, 55]
      apply sq_det 56 hE k rfl (by rfl) (by rfl) rfl
      case h =>   -- 0: t56 := Op.binOp BinOp.eql 3 (tmp 43) (const (Value.int IntKind.i64 1)) 3
        exact x_eql rfl (hE.eval 43 (by rfl) e43) rfl
      intro a82 hE e56 kp
      apply sq_det 55 hE k rfl (by rfl) (by rfl) rfl
      case h =>   -- 1: t55 := Op.assign (tmp 56)
        exact x_assign rfl e56
      intro a83 hE e55 kp
      refine wpList_nil ?_
      replace e0 := hE.eval 0 (by rfl) e0
      replace e3 := hE.eval 3 (by rfl) e3
      replace e4 := hE.eval 4 (by rfl) e4
      replace e5 := hE.eval 5 (by rfl) e5
      replace e6 := hE.eval 6 (by rfl) e6
      replace e7 := hE.eval 7 (by rfl) e7
      replace e43 := hE.eval 43 (by rfl) e43
      replace k := k.env hE
      clear hE
      refine then_n ?_
      refine cond_f e55 rfl ?_
      refine wp_region_lit ?_   -- region 14
      have hE := Env.refl a83 [57, 55]
      apply sq_det 57 hE k rfl (by rfl) (by rfl) rfl
      case h =>   -- 0: t57 := Op.binOp BinOp.eql 3 (tmp 43) (const (Value.int IntKind.i64 2)) 3
        exact x_eql rfl (hE.eval 43 (by rfl) e43) rfl
      intro a84 hE e57 kp
      apply sq_det 55 hE k rfl (by rfl) (by rfl) rfl
      case h =>   -- 1: t55 := Op.assign (tmp 57)
        exact x_assign rfl e57
      intro a85 hE e55 kp
      refine wpList_nil ?_
      replace e0 := hE.eval 0 (by rfl) e0
      replace e3 := hE.eval 3 (by rfl) e3
      replace e4 := hE.eval 4 (by rfl) e4
      replace e5 := hE.eval 5 (by rfl) e5
      replace e6 := hE.eval 6 (by rfl) e6
      replace e7 := hE.eval 7 (by rfl) e7
      replace e43 := hE.eval 43 (by rfl) e43
      replace k := k.env hE
      clear hE
      refine then_n ?_
      refine cond_t e55 rfl ?_
      refine wp_seq ?_
      refine wp_region_lit ?_   -- region 15
      have hE := Env.refl a85 [58, 59, 60, 61, 62, 63, 8]
      apply sq_det 58 hE k rfl (by rfl) (by rfl) rfl
      case h =>   -- 0: t58 := Op.move (tmp 3)
        exact x_move rfl (hE.eval 3 (by rfl) e3)
      intro a86 hE e58 kp
      apply sq_det 59 hE k rfl (by rfl) (by rfl) rfl
      case h =>   -- 1: t59 := Op.fieldAddr 33 (tmp 6) 1
        simp [go_sem, BigFrame.eval_const, BigFrame.eval_global, BigFrame.eval_func, ↓IntWalk.iteOmega, ev (hE.eval 6 (by rfl) e6)]
        with_reducible rfl
      intro a87 hE e59 kp
      replace e58 := (kp 58 rfl).trans e58
      apply sq_det 60 hE k rfl (by rfl) (by rfl) rfl
      case h =>   -- 2: t60 := Op.load 3 (tmp 59)
        have q0 : w.cell? ⟨xb, 1, none⟩ = some (.int .i64 c) := (OwnT.blk O 4 rfl).cell 1
        simp [go_sem, BigFrame.eval_const, BigFrame.eval_global, BigFrame.eval_func, ↓IntWalk.iteOmega, ev e59, q0]
        with_reducible rfl
      intro a88 hE e60 kp
      replace e58 := (kp 58 rfl).trans e58
      apply sq_det 61 hE k rfl (by rfl) (by rfl) rfl
      case h =>   -- 3: t61 := Op.fieldAddr 33 (tmp 6) 2
        simp [go_sem, BigFrame.eval_const, BigFrame.eval_global, BigFrame.eval_func, ↓IntWalk.iteOmega, ev (hE.eval 6 (by rfl) e6)]
        with_reducible rfl
      intro a89 hE e61 kp
      replace e58 := (kp 58 rfl).trans e58
      replace e60 := (kp 60 rfl).trans e60
      apply sq_det 62 hE k rfl (by rfl) (by rfl) rfl
      case h =>   -- 4: t62 := Op.load 31 (tmp 61)
        have q0 : w.cell? ⟨xb, 2, none⟩ = some (.int .i64 y1) := (OwnT.blk O 4 rfl).cell 2
        have q1 : w.cell? ⟨xb, 3, none⟩ = some (.int .i64 y2) := (OwnT.blk O 4 rfl).cell 3
        have q2 : w.cell? ⟨xb, 4, none⟩ = some (.int .i64 y3) := (OwnT.blk O 4 rfl).cell 4
        simp [go_sem, BigFrame.eval_const, BigFrame.eval_global, BigFrame.eval_func, ↓IntWalk.iteOmega, ev e61, q0, q1, q2]
        with_reducible rfl
      intro a90 hE e62 kp
      replace e58 := (kp 58 rfl).trans e58
      replace e60 := (kp 60 rfl).trans e60
      apply sq_call 63 hE k rfl (by rfl) (by rfl) rfl
      case h =>   -- (*tierce/owners.Book).Add
        simp [go_sem, BigFrame.eval_const, BigFrame.eval_global, BigFrame.eval_func, ↓IntWalk.iteOmega, ev e58, ev e60, ev e62]
        with_reducible exact ⟨rfl, rfl⟩
      case hc => exact add_all pb _ _ _ c (y1, y2, y3) _ O (Nat.le_trans (hG.n c) (by omega))
      clear O
      rintro e w92 ⟨he, F1, O⟩
      rw [addE_out hcr] at he
      rw [addL_out hcr] at O
      refine ⟨_, he, ?_⟩
      intro a91 hE e63 kp
      apply sq_det 8 hE k rfl (by rfl) (by rfl) rfl
      case h =>   -- 6: t8 := Op.assign (tmp 63)
        exact x_assign rfl e63
      intro a93 hE e8 kp
      refine wpList_nil ?_
      replace e0 := hE.eval 0 (by rfl) e0
      replace e3 := hE.eval 3 (by rfl) e3
      replace e4 := hE.eval 4 (by rfl) e4
      replace e5 := hE.eval 5 (by rfl) e5
      replace e6 := hE.eval 6 (by rfl) e6
      replace e7 := hE.eval 7 (by rfl) e7
      replace k := k.env hE
      clear hE e43 e55
      refine then_n ?_
      refine wp_seq ?_
      refine wp_region_lit ?_   -- region 16
      have hE := Env.refl a93 [9]
      apply sq_det 9 hE k rfl (by rfl) (by rfl) rfl
      case h =>   -- 0: t9 := Op.assign (const (Value.int IntKind.i64 0))
        exact x_assign rfl rfl
      intro a94 hE e9 kp
      refine wpList_nil ?_
      replace e0 := hE.eval 0 (by rfl) e0
      replace e3 := hE.eval 3 (by rfl) e3
      replace e4 := hE.eval 4 (by rfl) e4
      replace e5 := hE.eval 5 (by rfl) e5
      replace e6 := hE.eval 6 (by rfl) e6
      replace e7 := hE.eval 7 (by rfl) e7
      replace e8 := hE.eval 8 (by rfl) e8
      replace k := k.env hE
      clear hE
      refine then_n ?_
      refine wp_seq ?_
      refine wp_seq ?_
      refine wp_region_lit ?_   -- region 17
      have hE := Env.refl a94 [64, 65, 66, 67, 68, 69, 70, 71]
      apply sq_det 64 hE k rfl (by rfl) (by rfl) rfl
      case h =>   -- 0: t64 := Op.fieldAddr 33 (tmp 6) 1
        simp [go_sem, BigFrame.eval_const, BigFrame.eval_global, BigFrame.eval_func, ↓IntWalk.iteOmega, ev (hE.eval 6 (by rfl) e6)]
        with_reducible rfl
      intro a95 hE e64 kp
      apply sq_det 65 hE k rfl (by rfl) (by rfl) rfl
      case h =>   -- 1: t65 := Op.load 3 (tmp 64)
        have q0 : w92.cell? ⟨xb, 1, none⟩ = some (.int .i64 c) := (OwnT.blk O 4 rfl).cell 1
        simp [go_sem, BigFrame.eval_const, BigFrame.eval_global, BigFrame.eval_func, ↓IntWalk.iteOmega, ev e64, q0]
        with_reducible rfl
      intro a96 hE e65 kp
      apply sq_det 66 hE k rfl (by rfl) (by rfl) rfl
      case h =>   -- 2: t66 := Op.binOp BinOp.lss 3 (tmp 65) (const (Value.int IntKind.i64 1)) 3
        exact x_dec (x_lss rfl e65 rfl) (decide_eq_false (by omega))
      intro a97 hE e66 kp
      apply sq_det 67 hE k rfl (by rfl) (by rfl) rfl
      case h =>   -- 3: t67 := Op.move (tmp 66)
        exact x_move rfl e66
      intro a98 hE e67 kp
      apply sq_detg 68 hE k rfl (by rfl) (by rfl) rfl rfl e67
      case h =>   -- 4: t68 := Op.fieldAddr 33 (tmp 6) 1
        simp [go_sem, BigFrame.eval_const, BigFrame.eval_global, BigFrame.eval_func, ↓IntWalk.iteOmega, ev (hE.eval 6 (by rfl) e6)]
        with_reducible rfl
      intro a99 hE e68 kp
      replace e67 := (kp 67 rfl).trans e67
      apply sq_detg 69 hE k rfl (by rfl) (by rfl) rfl rfl e67
      case h =>   -- 5: t69 := Op.load 3 (tmp 68)
        have q0 : w92.cell? ⟨xb, 1, none⟩ = some (.int .i64 c) := (OwnT.blk O 4 rfl).cell 1
        simp [go_sem, BigFrame.eval_const, BigFrame.eval_global, BigFrame.eval_func, ↓IntWalk.iteOmega, ev e68, q0]
        with_reducible rfl
      intro a100 hE e69 kp
      replace e67 := (kp 67 rfl).trans e67
      apply sq_detg 70 hE k rfl (by rfl) (by rfl) rfl rfl e67
      case h =>   -- 6: t70 := Op.binOp BinOp.gtr 3 (tmp 69) (const (Value.int IntKind.i64 1023)) 3
        exact x_dec (x_gtr rfl e69 rfl) (decide_eq_true (by omega))
      intro a101 hE e70 kp
      replace e67 := (kp 67 rfl).trans e67
      apply sq_det 71 hE k rfl (by rfl) (by rfl) rfl
      case h =>   -- 7: t71 := Op.pick (tmp 67) (const (Value.bool true)) (tmp 70)
        exact x_pick_f rfl e67 e70
      intro a102 hE e71 kp
      refine wpList_nil ?_
      replace e0 := hE.eval 0 (by rfl) e0
      replace e3 := hE.eval 3 (by rfl) e3
      replace e4 := hE.eval 4 (by rfl) e4
      replace e5 := hE.eval 5 (by rfl) e5
      replace e6 := hE.eval 6 (by rfl) e6
      replace e7 := hE.eval 7 (by rfl) e7
      replace e8 := hE.eval 8 (by rfl) e8
      replace e9 := hE.eval 9 (by rfl) e9
      replace k := k.env hE
      clear hE
      refine then_n ?_
      refine cond_t e71 rfl ?_
      refine wp_region_lit ?_   -- region 18
      have hE := Env.refl a102 [9]
      apply sq_det 9 hE k rfl (by rfl) (by rfl) rfl
      case h =>   -- 0: t9 := Op.assign (const (Value.int IntKind.i64 1))
        exact x_assign rfl rfl
      intro a103 hE e9 kp
      refine wpList_nil ?_
      replace e0 := hE.eval 0 (by rfl) e0
      replace e3 := hE.eval 3 (by rfl) e3
      replace e4 := hE.eval 4 (by rfl) e4
      replace e5 := hE.eval 5 (by rfl) e5
      replace e6 := hE.eval 6 (by rfl) e6
      replace e8 := hE.eval 8 (by rfl) e8
      replace k := k.env hE
      clear hE e7 e71
      refine then_n ?_
      refine wp_seq ?_
      refine wp_region_lit ?_   -- region 22
      have hE := Env.refl a103 [87, 88, 89]
      apply sq_det 87 hE k rfl (by rfl) (by rfl) rfl
      case h =>   -- 0: t87 := Op.move (tmp 8)
        exact x_move rfl (hE.eval 8 (by rfl) e8)
      intro a104 hE e87 kp
      apply sq_det 88 hE k rfl (by rfl) (by rfl) rfl
      case h =>   -- 1: t88 := Op.move (tmp 9)
        exact x_move rfl (hE.eval 9 (by rfl) e9)
      intro a105 hE e88 kp
      replace e87 := (kp 87 rfl).trans e87
      apply sq_det 89 hE k rfl (by rfl) (by rfl) rfl
      case h =>   -- 2: t89 := Op.binOp BinOp.neq 36 (tmp 87) (tmp 88) 36
        exact x_neq rfl e87 e88
      intro a106 hE e89 kp
      refine wpList_nil ?_
      replace e0 := hE.eval 0 (by rfl) e0
      replace e3 := hE.eval 3 (by rfl) e3
      replace e4 := hE.eval 4 (by rfl) e4
      replace e5 := hE.eval 5 (by rfl) e5
      replace e6 := hE.eval 6 (by rfl) e6
      replace k := k.env hE
      clear hE e8 e9
      refine then_n ?_
      refine cond_f e89 rfl ?_
      refine wp_skip ?_
      refine block_n ?_
      replace O : OwnT _ _ ([tOB pb F1 (ofQ U) (ofQ V), tBlk ub 29 #[.slice B1 U.length cap1, v2], tRow 35 4 (.slice B1 U.length cap1) U.length (U.flatMap qC), tRow 35 4 (v2) V.length (V.flatMap qC), tBlk xb 33 #[.int .i64 2, .int .i64 c, .int .i64 y1, .int .i64 y2, .int .i64 y3]]) w92 := OwnT.pick O [0, 1, 2, 3, 4] (by decide)
      exact hQ _ _ _ _ _ _ _ k e0 e3 e4 e5 e6 O ⟨hG.su, hG.sv, hG.ru, Nat.le_succ_of_le hG.lu, Nat.le_succ_of_le hG.lv⟩
set_option maxRecDepth 100000 in
set_option maxHeartbeats 4000000 in
theorem ownE_deed3 {H : Nat} {A0 : World} {pb ub xb qb : Nat} {F : List Nat} {v1 v2 : Value} {U V : List QD} {c y1 y2 y3 : Int} {m : Nat} {A : Option Addr} {len cap i : Nat} {Q : Exit → Act → World → Prop} (a : Act) (w : World) (k : Fr 273 a)
    (e0 : a.eval (.tmp 0) = .slice A len cap) (e3 : a.eval (.tmp 3) = .pointer (some ⟨pb, 0, none⟩)) (e4 : a.eval (.tmp 4) = .pointer (some ⟨ub, 0, none⟩)) (e5 : a.eval (.tmp 5) = .int .i64 ↑i) (e6 : a.eval (.tmp 6) = .pointer (some ⟨xb, 0, none⟩)) (e7 : a.eval (.tmp 7) = .pointer (some ⟨qb, 0, none⟩)) (e43 : a.eval (.tmp 43) = .int .i64 3)
    (O : OwnT H A0 [tOB pb F (ofQ U) (ofQ V), tBlk ub 29 #[v1, v2], tRow 35 4 (v1) U.length (U.flatMap qC), tRow 35 4 (v2) V.length (V.flatMap qC), tBlk xb 33 #[.int .i64 3, .int .i64 c, .int .i64 y1, .int .i64 y2, .int .i64 y3], tBlk qb 35 #[.int .i64 c, .int .i64 y1, .int .i64 y2, .int .i64 y3]] w) (hG : ExG U V m) (hm : m ≤ 1000) (hwf : wfV c) 
    (hQ : ∀ a w F' u1 u2 U' V', Fr 273 a → a.eval (.tmp 0) = .slice A len cap → a.eval (.tmp 3) = .pointer (some ⟨pb, 0, none⟩) → a.eval (.tmp 4) = .pointer (some ⟨ub, 0, none⟩) → a.eval (.tmp 5) = .int .i64 ↑i → a.eval (.tmp 6) = .pointer (some ⟨xb, 0, none⟩) → OwnT H A0 [tOB pb F' (ofQ U') (ofQ V'), tBlk ub 29 #[u1, u2], tRow 35 4 (u1) U'.length (U'.flatMap qC), tRow 35 4 (u2) V'.length (V'.flatMap qC), tBlk xb 33 #[.int .i64 3, .int .i64 c, .int .i64 y1, .int .i64 y2, .int .i64 y3]] w → ExG U' V' (m + 1) → Q .normal a w) :
    Code.wp Try.prog (codeAt [1, 1, 1, 1, 0, 1, 0, 0, 1, 0, 0, 1, 1, 0, 1] (Try.f3.body.getD .skip)) Q a w := by
  conv => arg 2; whnf
  have hlU : U.length ≤ 1000000 := by have := hG.lu; omega
  have hlV : V.length ≤ 1000000 := by have := hG.lv; omega
  obtain ⟨B1, cap1, rfl, hk1, hm1, -, -⟩ := ownsRow_Row qC_len (by decide) (OwnT.get O 2 rfl : World.ownsRow _ 0 35 4 v1 U.length (U.flatMap qC))
  
  by_cases hin : (c, y1, y2, y3) ∈ U
  · obtain ⟨nl, hnl⟩ : ∃ nl, (ofQ (remQ U (c, y1, y2, y3)) c).length = nl := ⟨_, rfl⟩
    obtain ⟨z, hz⟩ : ∃ z, decide (nl = 0) = z := ⟨_, rfl⟩
    have hnb : nl ≤ 1000000 := by rw [← hnl]; exact Nat.le_trans (ofQ_len _ _) (Nat.le_trans (remQ_len U _) (by omega))
    refine wp_block ?_
    refine wp_seq ?_
    refine wp_seq ?_
    refine wp_region_lit ?_   -- region 13
    have hE := Env.refl a [56, 55]
    apply sq_det 56 hE k rfl (by rfl) (by rfl) rfl
    case h =>   -- 0: t56 := Op.binOp BinOp.eql 3 (tmp 43) (const (Value.int IntKind.i64 1)) 3
      exact x_eql rfl (hE.eval 43 (by rfl) e43) rfl
    intro a1 hE e56 kp
    apply sq_det 55 hE k rfl (by rfl) (by rfl) rfl
    case h =>   -- 1: t55 := Op.assign (tmp 56)
      exact x_assign rfl e56
    intro a2 hE e55 kp
    refine wpList_nil ?_
    replace e0 := hE.eval 0 (by rfl) e0
    replace e3 := hE.eval 3 (by rfl) e3
    replace e4 := hE.eval 4 (by rfl) e4
    replace e5 := hE.eval 5 (by rfl) e5
    replace e6 := hE.eval 6 (by rfl) e6
    replace e7 := hE.eval 7 (by rfl) e7
    replace e43 := hE.eval 43 (by rfl) e43
    replace k := k.env hE
    clear hE
    refine then_n ?_
    refine cond_f e55 rfl ?_
    refine wp_region_lit ?_   -- region 14
    have hE := Env.refl a2 [57, 55]
    apply sq_det 57 hE k rfl (by rfl) (by rfl) rfl
    case h =>   -- 0: t57 := Op.binOp BinOp.eql 3 (tmp 43) (const (Value.int IntKind.i64 2)) 3
      exact x_eql rfl (hE.eval 43 (by rfl) e43) rfl
    intro a3 hE e57 kp
    apply sq_det 55 hE k rfl (by rfl) (by rfl) rfl
    case h =>   -- 1: t55 := Op.assign (tmp 57)
      exact x_assign rfl e57
    intro a4 hE e55 kp
    refine wpList_nil ?_
    replace e0 := hE.eval 0 (by rfl) e0
    replace e3 := hE.eval 3 (by rfl) e3
    replace e4 := hE.eval 4 (by rfl) e4
    replace e5 := hE.eval 5 (by rfl) e5
    replace e6 := hE.eval 6 (by rfl) e6
    replace e7 := hE.eval 7 (by rfl) e7
    replace e43 := hE.eval 43 (by rfl) e43
    replace k := k.env hE
    clear hE
    refine then_n ?_
    refine cond_f e55 rfl ?_
    refine wp_seq ?_
    refine wp_region_lit ?_   -- region 24
    have hE := Env.refl a4 [91, 90]
    apply sq_det 91 hE k rfl (by rfl) (by rfl) rfl
    case h =>   -- 0: t91 := Op.binOp BinOp.eql 3 (tmp 43) (const (Value.int IntKind.i64 3)) 3
      exact x_eql rfl (hE.eval 43 (by rfl) e43) rfl
    intro a5 hE e91 kp
    apply sq_det 90 hE k rfl (by rfl) (by rfl) rfl
    case h =>   -- 1: t90 := Op.assign (tmp 91)
      exact x_assign rfl e91
    intro a6 hE e90 kp
    refine wpList_nil ?_
    replace e0 := hE.eval 0 (by rfl) e0
    replace e3 := hE.eval 3 (by rfl) e3
    replace e4 := hE.eval 4 (by rfl) e4
    replace e5 := hE.eval 5 (by rfl) e5
    replace e6 := hE.eval 6 (by rfl) e6
    replace e7 := hE.eval 7 (by rfl) e7
    replace k := k.env hE
    clear hE e43 e55
    refine then_n ?_
    refine cond_t e90 rfl ?_
    refine wp_seq ?_
    refine wp_region_lit ?_   -- region 25
    have hE := Env.refl a6 [93, 94, 95, 96, 97, 98, 92, 99, 100, 10, 11]
    apply sq_det 93 hE k rfl (by rfl) (by rfl) rfl
    case h =>   -- 0: t93 := Op.move (tmp 3)
      exact x_move rfl (hE.eval 3 (by rfl) e3)
    intro a7 hE e93 kp
    apply sq_det 94 hE k rfl (by rfl) (by rfl) rfl
    case h =>   -- 1: t94 := Op.fieldAddr 33 (tmp 6) 1
      simp [go_sem, BigFrame.eval_const, BigFrame.eval_global, BigFrame.eval_func, ↓IntWalk.iteOmega, ev (hE.eval 6 (by rfl) e6)]
      with_reducible rfl
    intro a8 hE e94 kp
    replace e93 := (kp 93 rfl).trans e93
    apply sq_det 95 hE k rfl (by rfl) (by rfl) rfl
    case h =>   -- 2: t95 := Op.load 3 (tmp 94)
      have q0 : w.cell? ⟨xb, 1, none⟩ = some (.int .i64 c) := (OwnT.blk O 4 rfl).cell 1
      simp [go_sem, BigFrame.eval_const, BigFrame.eval_global, BigFrame.eval_func, ↓IntWalk.iteOmega, ev e94, q0]
      with_reducible rfl
    intro a9 hE e95 kp
    replace e93 := (kp 93 rfl).trans e93
    apply sq_det 96 hE k rfl (by rfl) (by rfl) rfl
    case h =>   -- 3: t96 := Op.fieldAddr 33 (tmp 6) 2
      simp [go_sem, BigFrame.eval_const, BigFrame.eval_global, BigFrame.eval_func, ↓IntWalk.iteOmega, ev (hE.eval 6 (by rfl) e6)]
      with_reducible rfl
    intro a10 hE e96 kp
    replace e93 := (kp 93 rfl).trans e93
    replace e95 := (kp 95 rfl).trans e95
    apply sq_det 97 hE k rfl (by rfl) (by rfl) rfl
    case h =>   -- 4: t97 := Op.load 31 (tmp 96)
      have q0 : w.cell? ⟨xb, 2, none⟩ = some (.int .i64 y1) := (OwnT.blk O 4 rfl).cell 2
      have q1 : w.cell? ⟨xb, 3, none⟩ = some (.int .i64 y2) := (OwnT.blk O 4 rfl).cell 3
      have q2 : w.cell? ⟨xb, 4, none⟩ = some (.int .i64 y3) := (OwnT.blk O 4 rfl).cell 4
      simp [go_sem, BigFrame.eval_const, BigFrame.eval_global, BigFrame.eval_func, ↓IntWalk.iteOmega, ev e96, q0, q1, q2]
      with_reducible rfl
    intro a11 hE e97 kp
    replace e93 := (kp 93 rfl).trans e93
    replace e95 := (kp 95 rfl).trans e95
    apply sq_call 98 hE k rfl (by rfl) (by rfl) rfl
    case h =>   -- (*tierce/owners.Book).Remove
      simp [go_sem, BigFrame.eval_const, BigFrame.eval_global, BigFrame.eval_func, ↓IntWalk.iteOmega, ev e93, ev e95, ev e97]
      with_reducible exact ⟨rfl, rfl⟩
    case hc => exact rem_all pb _ _ _ c (y1, y2, y3) _ O hwf (Nat.le_trans (hG.n c) (by omega))
    clear O
    rintro e w13 ⟨he, F1, O⟩
    rw [remE_has hin, remB_has hG.su hin] at he
    rw [remL_has hG.su hin] at O
    rw [hnl, hz] at he
    refine ⟨_, he, ?_⟩
    intro a12 hE e98 kp
    apply sq_det 92 hE k rfl (by rfl) (by rfl) rfl
    case h =>   -- 6: t92 := Op.move (tmp 98)
      exact x_move rfl e98
    intro a14 hE e92 kp
    apply sq_det 99 hE k rfl (by rfl) (by rfl) rfl
    case h =>   -- 7: t99 := Op.extract (tmp 92) 0
      simp [go_sem, BigFrame.eval_const, BigFrame.eval_global, BigFrame.eval_func, ↓IntWalk.iteOmega, ev e92]
      with_reducible rfl
    intro a15 hE e99 kp
    replace e92 := (kp 92 rfl).trans e92
    apply sq_det 100 hE k rfl (by rfl) (by rfl) rfl
    case h =>   -- 8: t100 := Op.extract (tmp 92) 1
      simp [go_sem, BigFrame.eval_const, BigFrame.eval_global, BigFrame.eval_func, ↓IntWalk.iteOmega, ev e92]
      with_reducible rfl
    intro a16 hE e100 kp
    replace e99 := (kp 99 rfl).trans e99
    apply sq_det 10 hE k rfl (by rfl) (by rfl) rfl
    case h =>   -- 9: t10 := Op.assign (tmp 99)
      exact x_assign rfl e99
    intro a17 hE e10 kp
    replace e100 := (kp 100 rfl).trans e100
    apply sq_det 11 hE k rfl (by rfl) (by rfl) rfl
    case h =>   -- 10: t11 := Op.assign (tmp 100)
      exact x_assign rfl e100
    intro a18 hE e11 kp
    replace e10 := (kp 10 rfl).trans e10
    refine wpList_nil ?_
    replace e0 := hE.eval 0 (by rfl) e0
    replace e3 := hE.eval 3 (by rfl) e3
    replace e4 := hE.eval 4 (by rfl) e4
    replace e5 := hE.eval 5 (by rfl) e5
    replace e6 := hE.eval 6 (by rfl) e6
    replace e7 := hE.eval 7 (by rfl) e7
    replace k := k.env hE
    clear hE e90
    refine then_n ?_
    refine wp_seq ?_
    refine wp_typed (R := Ext) (w0 := w13) [[], [0], [0, 1], [0, 1, 2], [], [0, 1, 2, 3, 4], [0, 1, 2, 3, 4, 5]] [101, 102, 103, 104, 105, 106, 107] Ext.refl (fun _ _ _ => Ext.trans) (Ext.drew _) (by kernel_rfl) ?_   -- region 26
    apply Build.det 101 Ext.refl (by rfl) (by rw [k.size]; rfl) rfl
    case h =>   -- 0: t101 := Op.move (tmp 4)
      intro ax wx hE hR hF
      exact x_move rfl (hE.eval 4 (by rfl) e4)
    apply Build.det 102 Ext.refl (by rfl) (by rw [k.size]; rfl) rfl
    case h =>   -- 1: t102 := Op.nilCheck (tmp 101)
      intro ax wx hE hR hF
      have e101 : ax.eval (.tmp 101) = _ := hF 0 (det 101 _) (by decide) (.head _)
      exact x_nil rfl e101
    apply Build.det 103 Ext.refl (by rfl) (by rw [k.size]; rfl) rfl
    case h =>   -- 2: t103 := Op.fieldAddr 29 (tmp 102) 0
      intro ax wx hE hR hF
      have e102 : ax.eval (.tmp 102) = _ := hF 1 (det 102 _) (by decide) (.head _)
      simp [go_sem, BigFrame.eval_const, BigFrame.eval_global, BigFrame.eval_func, ↓IntWalk.iteOmega, ev e102]
      with_reducible rfl
    apply Build.det 104 Ext.refl (by rfl) (by rw [k.size]; rfl) rfl
    case h =>   -- 3: t104 := Op.load 27 (tmp 103)
      intro ax wx hE hR hF
      have e103 : ax.eval (.tmp 103) = _ := hF 2 (det 103 _) (by decide) (.head _)
      have q0 : wx.cell? ⟨ub, 0, none⟩ = some (.slice B1 U.length cap1) := (OwnT.blk (OwnT.ext O hR) 1 rfl).cell 0
      simp [go_sem, BigFrame.eval_const, BigFrame.eval_global, BigFrame.eval_func, ↓IntWalk.iteOmega, ev e103, q0]
      with_reducible rfl
    apply Build.det 105 Ext.refl (by rfl) (by rw [k.size]; rfl) rfl
    case h =>   -- 4: t105 := Op.load 35 (tmp 7)
      intro ax wx hE hR hF
      have q0 : wx.cell? ⟨qb, 0, none⟩ = some (.int .i64 c) := (OwnT.blk (OwnT.ext O hR) 5 rfl).cell 0
      have q1 : wx.cell? ⟨qb, 1, none⟩ = some (.int .i64 y1) := (OwnT.blk (OwnT.ext O hR) 5 rfl).cell 1
      have q2 : wx.cell? ⟨qb, 2, none⟩ = some (.int .i64 y2) := (OwnT.blk (OwnT.ext O hR) 5 rfl).cell 2
      have q3 : wx.cell? ⟨qb, 3, none⟩ = some (.int .i64 y3) := (OwnT.blk (OwnT.ext O hR) 5 rfl).cell 3
      simp [go_sem, BigFrame.eval_const, BigFrame.eval_global, BigFrame.eval_func, ↓IntWalk.iteOmega, ev (hE.eval 7 (by rfl) e7), q0, q1, q2, q3]
      with_reducible rfl
    apply Build.call 106 Ext.refl (by rfl) (by rw [k.size]; rfl) rfl
    case h =>   -- 5: t106 := tierce/tierceref13.Has
      intro ax wx hE hR hF
      have e104 : ax.eval (.tmp 104) = _ := hF 3 (det 104 _) (by decide) (.tail _ (.head _))
      have e105 : ax.eval (.tmp 105) = _ := hF 4 (det 105 _) (by decide) (.head _)
      simp [go_sem, BigFrame.eval_const, BigFrame.eval_global, BigFrame.eval_func, ↓IntWalk.iteOmega, ev e104, ev e105]
      with_reducible exact ⟨rfl, rfl⟩
    case hc => intro wx hR; exact (show Calls _ _ _ _ (fun e w' => e = .returned (.bool true) ∧ Ext wx w') from (has_any B1 U.length cap1 U (c, y1, y2, y3) wx rfl (by omega) (rowQ_of (OwnT.get (OwnT.ext O hR) 2 rfl : World.ownsRow _ 0 35 4 _ U.length (U.flatMap qC))).2).mono (fun e w' h => ⟨h.1.trans (by rw [decide_eq_true hin]), h.2⟩))
    apply Build.det 107 Ext.refl (by rfl) (by rw [k.size]; rfl) rfl
    case h =>   -- 6: t107 := Op.unOp UnOp.not 4 (tmp 106)
      intro ax wx hE hR hF
      have e106 : ax.eval (.tmp 106) = _ := hF 5 (det 106 _) (by decide) (.head _)
      exact x_not rfl e106
    apply Build.stop
    refine ⟨by kernel_rfl, .inl ⟨rfl, ?_⟩⟩
    intro a19 w20 hE R hF
    have e107 : a19.eval (.tmp 107) = _ := hF 6 (det 107 _) (.head _)
    clear hF
    replace O := OwnT.ext O R
    clear R
    replace e0 := hE.eval 0 (by rfl) e0
    replace e3 := hE.eval 3 (by rfl) e3
    replace e4 := hE.eval 4 (by rfl) e4
    replace e5 := hE.eval 5 (by rfl) e5
    replace e6 := hE.eval 6 (by rfl) e6
    replace e7 := hE.eval 7 (by rfl) e7
    replace e10 := hE.eval 10 (by rfl) e10
    replace e11 := hE.eval 11 (by rfl) e11
    replace k := k.env hE
    clear hE
    refine then_n ?_
    refine cond_f e107 rfl ?_
    refine wp_seq ?_
    refine wp_typed (R := Ext) (w0 := w20) [[], [], [1], [1, 2], [1, 2, 3], [], [1, 2, 3, 4, 5], [0, 1, 2, 3, 4, 5, 6], [0, 1, 2, 3, 4, 5, 6, 7], [0, 1, 2, 3, 4, 5, 6, 7, 8]] [113, 114, 115, 116, 117, 118, 119, 120, 121] Ext.refl (fun _ _ _ => Ext.trans) (Ext.drew _) (by kernel_rfl) ?_   -- region 29
    apply Build.det 113 Ext.refl (by rfl) (by rw [k.size]; rfl) rfl
    case h =>   -- 0: t113 := Op.move (tmp 4)
      intro ax wx hE hR hF
      exact x_move rfl (hE.eval 4 (by rfl) e4)
    apply Build.det 114 Ext.refl (by rfl) (by rw [k.size]; rfl) rfl
    case h =>   -- 1: t114 := Op.move (tmp 4)
      intro ax wx hE hR hF
      exact x_move rfl (hE.eval 4 (by rfl) e4)
    apply Build.det 115 Ext.refl (by rfl) (by rw [k.size]; rfl) rfl
    case h =>   -- 2: t115 := Op.nilCheck (tmp 114)
      intro ax wx hE hR hF
      have e114 : ax.eval (.tmp 114) = _ := hF 1 (det 114 _) (by decide) (.head _)
      exact x_nil rfl e114
    apply Build.det 116 Ext.refl (by rfl) (by rw [k.size]; rfl) rfl
    case h =>   -- 3: t116 := Op.fieldAddr 29 (tmp 115) 0
      intro ax wx hE hR hF
      have e115 : ax.eval (.tmp 115) = _ := hF 2 (det 115 _) (by decide) (.head _)
      simp [go_sem, BigFrame.eval_const, BigFrame.eval_global, BigFrame.eval_func, ↓IntWalk.iteOmega, ev e115]
      with_reducible rfl
    apply Build.det 117 Ext.refl (by rfl) (by rw [k.size]; rfl) rfl
    case h =>   -- 4: t117 := Op.load 27 (tmp 116)
      intro ax wx hE hR hF
      have e116 : ax.eval (.tmp 116) = _ := hF 3 (det 116 _) (by decide) (.head _)
      have q0 : wx.cell? ⟨ub, 0, none⟩ = some (.slice B1 U.length cap1) := (OwnT.blk (OwnT.ext O hR) 1 rfl).cell 0
      simp [go_sem, BigFrame.eval_const, BigFrame.eval_global, BigFrame.eval_func, ↓IntWalk.iteOmega, ev e116, q0]
      with_reducible rfl
    apply Build.det 118 Ext.refl (by rfl) (by rw [k.size]; rfl) rfl
    case h =>   -- 5: t118 := Op.load 35 (tmp 7)
      intro ax wx hE hR hF
      have q0 : wx.cell? ⟨qb, 0, none⟩ = some (.int .i64 c) := (OwnT.blk (OwnT.ext O hR) 5 rfl).cell 0
      have q1 : wx.cell? ⟨qb, 1, none⟩ = some (.int .i64 y1) := (OwnT.blk (OwnT.ext O hR) 5 rfl).cell 1
      have q2 : wx.cell? ⟨qb, 2, none⟩ = some (.int .i64 y2) := (OwnT.blk (OwnT.ext O hR) 5 rfl).cell 2
      have q3 : wx.cell? ⟨qb, 3, none⟩ = some (.int .i64 y3) := (OwnT.blk (OwnT.ext O hR) 5 rfl).cell 3
      simp [go_sem, BigFrame.eval_const, BigFrame.eval_global, BigFrame.eval_func, ↓IntWalk.iteOmega, ev (hE.eval 7 (by rfl) e7), q0, q1, q2, q3]
      with_reducible rfl
    apply Build.callnew 119 (fun v w => World.ownsRow w w20.heap.size 35 4 v (remQ U (c, y1, y2, y3)).length ((remQ U (c, y1, y2, y3)).flatMap qC)) (fun v w w' hR h => ownsRow_extB h hR) Ext.refl (by rfl) (by rw [k.size]; rfl) rfl
    case h =>   -- 6: t119 := tierce/tierceref13.Remove
      intro ax wx hE hR hF
      have e117 : ax.eval (.tmp 117) = _ := hF 4 (det 117 _) (by decide) (.tail _ (.head _))
      have e118 : ax.eval (.tmp 118) = _ := hF 5 (det 118 _) (by decide) (.head _)
      simp [go_sem, BigFrame.eval_const, BigFrame.eval_global, BigFrame.eval_func, ↓IntWalk.iteOmega, ev e117, ev e118]
      with_reducible exact ⟨rfl, rfl⟩
    case hc => exact fun wx hR => (remq_any B1 U.length cap1 U (c, y1, y2, y3) wx rfl (by omega) (rowQ_of (OwnT.get (OwnT.ext O hR) 2 rfl : World.ownsRow _ 0 35 4 _ U.length (U.flatMap qC))).2).mono (fun e w' ⟨v, h1, h2, h3⟩ => ⟨v, h1, h3, ownsRow_low h2 hR.size⟩)
    apply Build.det 120 Ext.refl (by rfl) (by rw [k.size]; rfl) rfl
    case h =>   -- 7: t120 := Op.nilCheck (tmp 113)
      intro ax wx hE hR hF
      have e113 : ax.eval (.tmp 113) = _ := hF 0 (det 113 _) (by decide) (.tail _ (.tail _ (.tail _ (.tail _ (.tail _ (.tail _ (.head _)))))))
      exact x_nil rfl e113
    apply Build.det 121 Ext.refl (by rfl) (by rw [k.size]; rfl) rfl
    case h =>   -- 8: t121 := Op.fieldAddr 29 (tmp 120) 0
      intro ax wx hE hR hF
      have e120 : ax.eval (.tmp 120) = _ := hF 7 (det 120 _) (by decide) (.head _)
      simp [go_sem, BigFrame.eval_const, BigFrame.eval_global, BigFrame.eval_func, ↓IntWalk.iteOmega, ev e120]
      with_reducible rfl
    apply Build.stop
    refine ⟨by kernel_rfl, .inr ⟨by kernel_rfl, _, rfl, rfl, ?_⟩⟩
    intro a21 w22 hE R hF
    have f119 := hF 6 _ (.tail _ (.tail _ (.head _)))
    have e121 : a21.eval (.tmp 121) = _ := hF 8 (det 121 _) (.head _)
    clear hF
    obtain ⟨v3, e119, hrow⟩ : ∃ v3, a21.eval (.tmp 119) = v3 ∧ World.ownsRow w22 w20.heap.size 35 4 v3 (remQ U (c, y1, y2, y3)).length ((remQ U (c, y1, y2, y3)).flatMap qC) := ⟨_, rfl, f119⟩
    clear f119
    obtain ⟨B3, cap3, rfl, hk3, hm3, -, -⟩ := ownsRow_Row qC_len (by decide) hrow
    replace O := OwnT.newRow O R hrow
    clear R
    have q0 : w22.cell? ⟨ub, 0, none⟩ = some (.slice B1 U.length cap1) := (OwnT.blk O 2 rfl).cell 0
    have q1 : w22.frozen? ⟨ub, 0, none⟩ = false := (OwnT.blk O 2 rfl).frozen 0
    refine last_store (off := 0) (v := .slice B3 ((remQ U (c, y1, y2, y3)).length) cap3) O 2 rfl rfl (by simp [go_sem, BigFrame.eval_const, BigFrame.eval_global, BigFrame.eval_func, ↓IntWalk.iteOmega, ev e119, ev e121, q0, q1]) ?_
    clear q0 q1
    clear O
    intro w23 O
    replace O : OwnT _ _ ([tRow 35 4 (.slice B3 ((remQ U (c, y1, y2, y3)).length) cap3) (remQ U (c, y1, y2, y3)).length ((remQ U (c, y1, y2, y3)).flatMap qC), tOB pb F1 (ofQ (remQ U (c, y1, y2, y3))) (ofQ V), tBlk ub 29 #[.slice B3 ((remQ U (c, y1, y2, y3)).length) cap3, v2], tRow 35 4 (.slice B1 U.length cap1) U.length (U.flatMap qC), tRow 35 4 (v2) V.length (V.flatMap qC), tBlk xb 33 #[.int .i64 3, .int .i64 c, .int .i64 y1, .int .i64 y2, .int .i64 y3], tBlk qb 35 #[.int .i64 c, .int .i64 y1, .int .i64 y2, .int .i64 y3]]) w23 := O
    replace e0 := hE.eval 0 (by rfl) e0
    replace e3 := hE.eval 3 (by rfl) e3
    replace e4 := hE.eval 4 (by rfl) e4
    replace e5 := hE.eval 5 (by rfl) e5
    replace e6 := hE.eval 6 (by rfl) e6
    replace e10 := hE.eval 10 (by rfl) e10
    replace e11 := hE.eval 11 (by rfl) e11
    replace k := k.env hE
    clear hE e7 e107 e119 e121
    refine then_n ?_
    have hz' : (!(z == decide (nl = 0))) = false := by rw [← hz]; by_cases e : nl = 0 <;> simp [e]
    refine wp_seq ?_
    refine wp_typed (R := Ext) (w0 := w23) [[], [0], [0, 1], [0, 1, 2], [0, 1, 2], [0, 1, 2, 4], [0, 1, 2, 4, 5], [0, 1, 2, 4, 5, 6], [0, 1, 2], [0, 1, 2, 8], [0, 1, 2, 4, 5, 6, 7, 8, 9], [0, 1, 2, 4, 5, 6, 7, 8, 9, 10], [0, 1, 2, 4, 5, 6, 7, 8, 9, 10, 11], [0, 1, 2, 3, 4, 5, 6, 7, 8, 9, 10, 11, 12], [0, 1, 2, 3, 4, 5, 6, 7, 8, 9, 10, 11, 12, 13]] [122, 123, 124, 125, 126, 127, 128, 129, 130, 131, 132, 133, 134, 135, 136] Ext.refl (fun _ _ _ => Ext.trans) (Ext.drew _) (by kernel_rfl) ?_   -- region 30
    apply Build.det 122 Ext.refl (by rfl) (by rw [k.size]; rfl) rfl
    case h =>   -- 0: t122 := Op.move (tmp 11)
      intro ax wx hE hR hF
      exact x_move rfl (hE.eval 11 (by rfl) e11)
    apply Build.det 123 Ext.refl (by rfl) (by rw [k.size]; rfl) rfl
    case h =>   -- 1: t123 := Op.binOp BinOp.neq 36 (tmp 122) (const (Value.int IntKind.i64 0)) 36
      intro ax wx hE hR hF
      have e122 : ax.eval (.tmp 122) = _ := hF 0 (det 122 _) (by decide) (.head _)
      exact x_neq rfl e122 rfl
    apply Build.det 124 Ext.refl (by rfl) (by rw [k.size]; rfl) rfl
    case h =>   -- 2: t124 := Op.move (tmp 123)
      intro ax wx hE hR hF
      have e123 : ax.eval (.tmp 123) = _ := hF 1 (det 123 _) (by decide) (.head _)
      exact x_move rfl e123
    apply Build.detg 125 Ext.refl (by rfl) (by rw [k.size]; rfl) rfl rfl
    case h =>   -- 3: t125 := Op.move (tmp 10)
      intro ax wx hE hR hF
      have e124 : ax.eval (.tmp 124) = _ := hF 2 (det 124 _) (by decide) (.head _)
      refine ⟨e124, ?_⟩
      exact x_move rfl (hE.eval 10 (by rfl) e10)
    apply Build.detg 126 Ext.refl (by rfl) (by rw [k.size]; rfl) rfl rfl
    case h =>   -- 4: t126 := Op.move (tmp 4)
      intro ax wx hE hR hF
      have e124 : ax.eval (.tmp 124) = _ := hF 2 (det 124 _) (by decide) (.tail _ (.head _))
      refine ⟨e124, ?_⟩
      exact x_move rfl (hE.eval 4 (by rfl) e4)
    apply Build.detg 127 Ext.refl (by rfl) (by rw [k.size]; rfl) rfl rfl
    case h =>   -- 5: t127 := Op.nilCheck (tmp 126)
      intro ax wx hE hR hF
      have e126 : ax.eval (.tmp 126) = _ := hF 4 (det 126 _) (by decide) (.head _)
      have e124 : ax.eval (.tmp 124) = _ := hF 2 (det 124 _) (by decide) (.tail _ (.tail _ (.head _)))
      refine ⟨e124, ?_⟩
      exact x_nil rfl e126
    apply Build.detg 128 Ext.refl (by rfl) (by rw [k.size]; rfl) rfl rfl
    case h =>   -- 6: t128 := Op.fieldAddr 29 (tmp 127) 0
      intro ax wx hE hR hF
      have e127 : ax.eval (.tmp 127) = _ := hF 5 (det 127 _) (by decide) (.head _)
      have e124 : ax.eval (.tmp 124) = _ := hF 2 (det 124 _) (by decide) (.tail _ (.tail _ (.tail _ (.head _))))
      refine ⟨e124, ?_⟩
      simp [go_sem, BigFrame.eval_const, BigFrame.eval_global, BigFrame.eval_func, ↓IntWalk.iteOmega, ev e127]
      with_reducible rfl
    apply Build.detg 129 Ext.refl (by rfl) (by rw [k.size]; rfl) rfl rfl
    case h =>   -- 7: t129 := Op.load 27 (tmp 128)
      intro ax wx hE hR hF
      have e128 : ax.eval (.tmp 128) = _ := hF 6 (det 128 _) (by decide) (.head _)
      have e124 : ax.eval (.tmp 124) = _ := hF 2 (det 124 _) (by decide) (.tail _ (.tail _ (.tail _ (.tail _ (.head _)))))
      refine ⟨e124, ?_⟩
      have q0 : wx.cell? ⟨ub, 0, none⟩ = some (.slice B3 ((remQ U (c, y1, y2, y3)).length) cap3) := (OwnT.blk (OwnT.ext O hR) 2 rfl).cell 0
      simp [go_sem, BigFrame.eval_const, BigFrame.eval_global, BigFrame.eval_func, ↓IntWalk.iteOmega, ev e128, q0]
      with_reducible rfl
    apply Build.detg 130 Ext.refl (by rfl) (by rw [k.size]; rfl) rfl rfl
    case h =>   -- 8: t130 := Op.fieldAddr 33 (tmp 6) 1
      intro ax wx hE hR hF
      have e124 : ax.eval (.tmp 124) = _ := hF 2 (det 124 _) (by decide) (.tail _ (.tail _ (.tail _ (.tail _ (.tail _ (.head _))))))
      refine ⟨e124, ?_⟩
      simp [go_sem, BigFrame.eval_const, BigFrame.eval_global, BigFrame.eval_func, ↓IntWalk.iteOmega, ev (hE.eval 6 (by rfl) e6)]
      with_reducible rfl
    apply Build.detg 131 Ext.refl (by rfl) (by rw [k.size]; rfl) rfl rfl
    case h =>   -- 9: t131 := Op.load 3 (tmp 130)
      intro ax wx hE hR hF
      have e130 : ax.eval (.tmp 130) = _ := hF 8 (det 130 _) (by decide) (.head _)
      have e124 : ax.eval (.tmp 124) = _ := hF 2 (det 124 _) (by decide) (.tail _ (.tail _ (.tail _ (.tail _ (.tail _ (.tail _ (.head _)))))))
      refine ⟨e124, ?_⟩
      have q0 : wx.cell? ⟨xb, 1, none⟩ = some (.int .i64 c) := (OwnT.blk (OwnT.ext O hR) 5 rfl).cell 1
      simp [go_sem, BigFrame.eval_const, BigFrame.eval_global, BigFrame.eval_func, ↓IntWalk.iteOmega, ev e130, q0]
      with_reducible rfl
    apply Build.callnewg 132 (fun v w => ∃ B cap, v = .slice B nl cap) (fun v w w' hR h => h) Ext.refl (by rfl) (by rw [k.size]; rfl) rfl rfl
    case h =>   -- 10: t132 := tierce/tierceref13.Of
      intro ax wx hE hR hF
      have e129 : ax.eval (.tmp 129) = _ := hF 7 (det 129 _) (by decide) (.tail _ (.tail _ (.head _)))
      have e131 : ax.eval (.tmp 131) = _ := hF 9 (det 131 _) (by decide) (.head _)
      have e124 : ax.eval (.tmp 124) = _ := hF 2 (det 124 _) (by decide) (.tail _ (.tail _ (.tail _ (.tail _ (.tail _ (.tail _ (.tail _ (.head _))))))))
      refine ⟨e124, ?_⟩
      simp [go_sem, BigFrame.eval_const, BigFrame.eval_global, BigFrame.eval_func, ↓IntWalk.iteOmega, ev e129, ev e131]
      with_reducible exact ⟨rfl, rfl⟩
    case hc => exact fun wx hR => (hnl ▸ ofU_any (U := remQ U (c, y1, y2, y3)) c (OwnT.get (OwnT.ext O hR) 0 rfl) (Nat.le_trans (remQ_len U _) (by omega))).mono (fun e w' ⟨B, cap, h1, h2, h3, h4, h5⟩ => ⟨_, h1, h5, B, cap, rfl⟩)
    apply Build.detg 133 Ext.refl (by rfl) (by rw [k.size]; rfl) rfl rfl
    case h =>   -- 11: t133 := Op.call {callee := Callee.builtin Builtin.len, args := #[tmp 132], arg
      intro ax wx hE hR hF
      have f132 := hF 10 _ (by decide) (.head _)
      have e124 : ax.eval (.tmp 124) = _ := hF 2 (det 124 _) (by decide) (.tail _ (.tail _ (.tail _ (.tail _ (.tail _ (.tail _ (.tail _ (.tail _ (.head _)))))))))
      refine ⟨e124, ?_⟩
      obtain ⟨_, _, e132⟩ := f132
      exact x_len Try.underlying42 rfl e132
    apply Build.detg 134 Ext.refl (by rfl) (by rw [k.size]; rfl) rfl rfl
    case h =>   -- 12: t134 := Op.binOp BinOp.eql 3 (tmp 133) (const (Value.int IntKind.i64 0)) 3
      intro ax wx hE hR hF
      have e133 : ax.eval (.tmp 133) = _ := hF 11 (det 133 _) (by decide) (.head _)
      have e124 : ax.eval (.tmp 124) = _ := hF 2 (det 124 _) (by decide) (.tail _ (.tail _ (.tail _ (.tail _ (.tail _ (.tail _ (.tail _ (.tail _ (.tail _ (.head _))))))))))
      refine ⟨e124, ?_⟩
      exact x_eql rfl e133 rfl
    apply Build.detg 135 Ext.refl (by rfl) (by rw [k.size]; rfl) rfl rfl
    case h =>   -- 13: t135 := Op.binOp BinOp.neq 4 (tmp 125) (tmp 134) 4
      intro ax wx hE hR hF
      have e125 : ax.eval (.tmp 125) = _ := hF 3 (det 125 _) (by decide) (.tail _ (.tail _ (.tail _ (.tail _ (.tail _ (.tail _ (.tail _ (.tail _ (.tail _ (.head _))))))))))
      have e134 : ax.eval (.tmp 134) = _ := hF 12 (det 134 _) (by decide) (.head _)
      have e124 : ax.eval (.tmp 124) = _ := hF 2 (det 124 _) (by decide) (.tail _ (.tail _ (.tail _ (.tail _ (.tail _ (.tail _ (.tail _ (.tail _ (.tail _ (.tail _ (.head _)))))))))))
      refine ⟨e124, ?_⟩
      simp [go_sem, BigFrame.eval_const, BigFrame.eval_global, BigFrame.eval_func, ↓IntWalk.iteOmega, ev e125, ev e134, hz']
      with_reducible rfl
    apply Build.det 136 Ext.refl (by rfl) (by rw [k.size]; rfl) rfl
    case h =>   -- 14: t136 := Op.pick (tmp 124) (const (Value.bool true)) (tmp 135)
      intro ax wx hE hR hF
      have e124 : ax.eval (.tmp 124) = _ := hF 2 (det 124 _) (by decide) (.tail _ (.tail _ (.tail _ (.tail _ (.tail _ (.tail _ (.tail _ (.tail _ (.tail _ (.tail _ (.tail _ (.head _))))))))))))
      have e135 : ax.eval (.tmp 135) = _ := hF 13 (det 135 _) (by decide) (.head _)
      exact x_pick_f rfl e124 e135
    apply Build.stop
    refine ⟨by kernel_rfl, .inl ⟨rfl, ?_⟩⟩
    intro a24 w25 hE R hF
    have e136 : a24.eval (.tmp 136) = _ := hF 14 (det 136 _) (.head _)
    clear hF
    replace O := OwnT.ext O R
    clear R
    replace e0 := hE.eval 0 (by rfl) e0
    replace e3 := hE.eval 3 (by rfl) e3
    replace e4 := hE.eval 4 (by rfl) e4
    replace e5 := hE.eval 5 (by rfl) e5
    replace e6 := hE.eval 6 (by rfl) e6
    replace k := k.env hE
    clear hE e10 e11
    refine then_n ?_
    refine cond_f e136 rfl ?_
    refine wp_skip ?_
    refine block_n ?_
    replace O : OwnT _ _ ([tOB pb F1 (ofQ (remQ U (c, y1, y2, y3))) (ofQ V), tBlk ub 29 #[.slice B3 ((remQ U (c, y1, y2, y3)).length) cap3, v2], tRow 35 4 (.slice B3 ((remQ U (c, y1, y2, y3)).length) cap3) (remQ U (c, y1, y2, y3)).length ((remQ U (c, y1, y2, y3)).flatMap qC), tRow 35 4 (v2) V.length (V.flatMap qC), tBlk xb 33 #[.int .i64 3, .int .i64 c, .int .i64 y1, .int .i64 y2, .int .i64 y3]]) w25 := OwnT.pick O [1, 2, 0, 4, 5] (by decide)
    exact hQ _ _ _ _ _ _ _ k e0 e3 e4 e5 e6 O ⟨remQ_sorted _ hG.su, hG.sv, fun x hx => hG.ru x ((remQ_mem _ _ _).1 hx).1, Nat.le_trans (remQ_len U _) (Nat.le_succ_of_le hG.lu), Nat.le_succ_of_le hG.lv⟩
  · have hin' := hin
    refine wp_block ?_
    refine wp_seq ?_
    refine wp_seq ?_
    refine wp_region_lit ?_   -- region 13
    have hE := Env.refl a [56, 55]
    apply sq_det 56 hE k rfl (by rfl) (by rfl) rfl
    case h =>   -- 0: t56 := Op.binOp BinOp.eql 3 (tmp 43) (const (Value.int IntKind.i64 1)) 3
      exact x_eql rfl (hE.eval 43 (by rfl) e43) rfl
    intro a26 hE e56 kp
    apply sq_det 55 hE k rfl (by rfl) (by rfl) rfl
    case h =>   -- 1: t55 := Op.assign (tmp 56)
      exact x_assign rfl e56
    intro a27 hE e55 kp
    refine wpList_nil ?_
    replace e0 := hE.eval 0 (by rfl) e0
    replace e3 := hE.eval 3 (by rfl) e3
    replace e4 := hE.eval 4 (by rfl) e4
    replace e5 := hE.eval 5 (by rfl) e5
    replace e6 := hE.eval 6 (by rfl) e6
    replace e7 := hE.eval 7 (by rfl) e7
    replace e43 := hE.eval 43 (by rfl) e43
    replace k := k.env hE
    clear hE
    refine then_n ?_
    refine cond_f e55 rfl ?_
    refine wp_region_lit ?_   -- region 14
    have hE := Env.refl a27 [57, 55]
    apply sq_det 57 hE k rfl (by rfl) (by rfl) rfl
    case h =>   -- 0: t57 := Op.binOp BinOp.eql 3 (tmp 43) (const (Value.int IntKind.i64 2)) 3
      exact x_eql rfl (hE.eval 43 (by rfl) e43) rfl
    intro a28 hE e57 kp
    apply sq_det 55 hE k rfl (by rfl) (by rfl) rfl
    case h =>   -- 1: t55 := Op.assign (tmp 57)
      exact x_assign rfl e57
    intro a29 hE e55 kp
    refine wpList_nil ?_
    replace e0 := hE.eval 0 (by rfl) e0
    replace e3 := hE.eval 3 (by rfl) e3
    replace e4 := hE.eval 4 (by rfl) e4
    replace e5 := hE.eval 5 (by rfl) e5
    replace e6 := hE.eval 6 (by rfl) e6
    replace e7 := hE.eval 7 (by rfl) e7
    replace e43 := hE.eval 43 (by rfl) e43
    replace k := k.env hE
    clear hE
    refine then_n ?_
    refine cond_f e55 rfl ?_
    refine wp_seq ?_
    refine wp_region_lit ?_   -- region 24
    have hE := Env.refl a29 [91, 90]
    apply sq_det 91 hE k rfl (by rfl) (by rfl) rfl
    case h =>   -- 0: t91 := Op.binOp BinOp.eql 3 (tmp 43) (const (Value.int IntKind.i64 3)) 3
      exact x_eql rfl (hE.eval 43 (by rfl) e43) rfl
    intro a30 hE e91 kp
    apply sq_det 90 hE k rfl (by rfl) (by rfl) rfl
    case h =>   -- 1: t90 := Op.assign (tmp 91)
      exact x_assign rfl e91
    intro a31 hE e90 kp
    refine wpList_nil ?_
    replace e0 := hE.eval 0 (by rfl) e0
    replace e3 := hE.eval 3 (by rfl) e3
    replace e4 := hE.eval 4 (by rfl) e4
    replace e5 := hE.eval 5 (by rfl) e5
    replace e6 := hE.eval 6 (by rfl) e6
    replace e7 := hE.eval 7 (by rfl) e7
    replace k := k.env hE
    clear hE e43 e55
    refine then_n ?_
    refine cond_t e90 rfl ?_
    refine wp_seq ?_
    refine wp_region_lit ?_   -- region 25
    have hE := Env.refl a31 [93, 94, 95, 96, 97, 98, 92, 99, 100, 10, 11]
    apply sq_det 93 hE k rfl (by rfl) (by rfl) rfl
    case h =>   -- 0: t93 := Op.move (tmp 3)
      exact x_move rfl (hE.eval 3 (by rfl) e3)
    intro a32 hE e93 kp
    apply sq_det 94 hE k rfl (by rfl) (by rfl) rfl
    case h =>   -- 1: t94 := Op.fieldAddr 33 (tmp 6) 1
      simp [go_sem, BigFrame.eval_const, BigFrame.eval_global, BigFrame.eval_func, ↓IntWalk.iteOmega, ev (hE.eval 6 (by rfl) e6)]
      with_reducible rfl
    intro a33 hE e94 kp
    replace e93 := (kp 93 rfl).trans e93
    apply sq_det 95 hE k rfl (by rfl) (by rfl) rfl
    case h =>   -- 2: t95 := Op.load 3 (tmp 94)
      have q0 : w.cell? ⟨xb, 1, none⟩ = some (.int .i64 c) := (OwnT.blk O 4 rfl).cell 1
      simp [go_sem, BigFrame.eval_const, BigFrame.eval_global, BigFrame.eval_func, ↓IntWalk.iteOmega, ev e94, q0]
      with_reducible rfl
    intro a34 hE e95 kp
    replace e93 := (kp 93 rfl).trans e93
    apply sq_det 96 hE k rfl (by rfl) (by rfl) rfl
    case h =>   -- 3: t96 := Op.fieldAddr 33 (tmp 6) 2
      simp [go_sem, BigFrame.eval_const, BigFrame.eval_global, BigFrame.eval_func, ↓IntWalk.iteOmega, ev (hE.eval 6 (by rfl) e6)]
      with_reducible rfl
    intro a35 hE e96 kp
    replace e93 := (kp 93 rfl).trans e93
    replace e95 := (kp 95 rfl).trans e95
    apply sq_det 97 hE k rfl (by rfl) (by rfl) rfl
    case h =>   -- 4: t97 := Op.load 31 (tmp 96)
      have q0 : w.cell? ⟨xb, 2, none⟩ = some (.int .i64 y1) := (OwnT.blk O 4 rfl).cell 2
      have q1 : w.cell? ⟨xb, 3, none⟩ = some (.int .i64 y2) := (OwnT.blk O 4 rfl).cell 3
      have q2 : w.cell? ⟨xb, 4, none⟩ = some (.int .i64 y3) := (OwnT.blk O 4 rfl).cell 4
      simp [go_sem, BigFrame.eval_const, BigFrame.eval_global, BigFrame.eval_func, ↓IntWalk.iteOmega, ev e96, q0, q1, q2]
      with_reducible rfl
    intro a36 hE e97 kp
    replace e93 := (kp 93 rfl).trans e93
    replace e95 := (kp 95 rfl).trans e95
    apply sq_call 98 hE k rfl (by rfl) (by rfl) rfl
    case h =>   -- (*tierce/owners.Book).Remove
      simp [go_sem, BigFrame.eval_const, BigFrame.eval_global, BigFrame.eval_func, ↓IntWalk.iteOmega, ev e93, ev e95, ev e97]
      with_reducible exact ⟨rfl, rfl⟩
    case hc => exact rem_all pb _ _ _ c (y1, y2, y3) _ O hwf (Nat.le_trans (hG.n c) (by omega))
    clear O
    rintro e w38 ⟨he, F1, O⟩
    rw [remE_no hin, remB_no hin] at he
    rw [remL_no hin] at O
    refine ⟨_, he, ?_⟩
    intro a37 hE e98 kp
    apply sq_det 92 hE k rfl (by rfl) (by rfl) rfl
    case h =>   -- 6: t92 := Op.move (tmp 98)
      exact x_move rfl e98
    intro a39 hE e92 kp
    apply sq_det 99 hE k rfl (by rfl) (by rfl) rfl
    case h =>   -- 7: t99 := Op.extract (tmp 92) 0
      simp [go_sem, BigFrame.eval_const, BigFrame.eval_global, BigFrame.eval_func, ↓IntWalk.iteOmega, ev e92]
      with_reducible rfl
    intro a40 hE e99 kp
    replace e92 := (kp 92 rfl).trans e92
    apply sq_det 100 hE k rfl (by rfl) (by rfl) rfl
    case h =>   -- 8: t100 := Op.extract (tmp 92) 1
      simp [go_sem, BigFrame.eval_const, BigFrame.eval_global, BigFrame.eval_func, ↓IntWalk.iteOmega, ev e92]
      with_reducible rfl
    intro a41 hE e100 kp
    replace e99 := (kp 99 rfl).trans e99
    apply sq_det 10 hE k rfl (by rfl) (by rfl) rfl
    case h =>   -- 9: t10 := Op.assign (tmp 99)
      exact x_assign rfl e99
    intro a42 hE e10 kp
    replace e100 := (kp 100 rfl).trans e100
    apply sq_det 11 hE k rfl (by rfl) (by rfl) rfl
    case h =>   -- 10: t11 := Op.assign (tmp 100)
      exact x_assign rfl e100
    intro a43 hE e11 kp
    replace e10 := (kp 10 rfl).trans e10
    refine wpList_nil ?_
    replace e0 := hE.eval 0 (by rfl) e0
    replace e3 := hE.eval 3 (by rfl) e3
    replace e4 := hE.eval 4 (by rfl) e4
    replace e5 := hE.eval 5 (by rfl) e5
    replace e6 := hE.eval 6 (by rfl) e6
    replace e7 := hE.eval 7 (by rfl) e7
    replace k := k.env hE
    clear hE e90
    refine then_n ?_
    refine wp_seq ?_
    refine wp_typed (R := Ext) (w0 := w38) [[], [0], [0, 1], [0, 1, 2], [], [0, 1, 2, 3, 4], [0, 1, 2, 3, 4, 5]] [101, 102, 103, 104, 105, 106, 107] Ext.refl (fun _ _ _ => Ext.trans) (Ext.drew _) (by kernel_rfl) ?_   -- region 26
    apply Build.det 101 Ext.refl (by rfl) (by rw [k.size]; rfl) rfl
    case h =>   -- 0: t101 := Op.move (tmp 4)
      intro ax wx hE hR hF
      exact x_move rfl (hE.eval 4 (by rfl) e4)
    apply Build.det 102 Ext.refl (by rfl) (by rw [k.size]; rfl) rfl
    case h =>   -- 1: t102 := Op.nilCheck (tmp 101)
      intro ax wx hE hR hF
      have e101 : ax.eval (.tmp 101) = _ := hF 0 (det 101 _) (by decide) (.head _)
      exact x_nil rfl e101
    apply Build.det 103 Ext.refl (by rfl) (by rw [k.size]; rfl) rfl
    case h =>   -- 2: t103 := Op.fieldAddr 29 (tmp 102) 0
      intro ax wx hE hR hF
      have e102 : ax.eval (.tmp 102) = _ := hF 1 (det 102 _) (by decide) (.head _)
      simp [go_sem, BigFrame.eval_const, BigFrame.eval_global, BigFrame.eval_func, ↓IntWalk.iteOmega, ev e102]
      with_reducible rfl
    apply Build.det 104 Ext.refl (by rfl) (by rw [k.size]; rfl) rfl
    case h =>   -- 3: t104 := Op.load 27 (tmp 103)
      intro ax wx hE hR hF
      have e103 : ax.eval (.tmp 103) = _ := hF 2 (det 103 _) (by decide) (.head _)
      have q0 : wx.cell? ⟨ub, 0, none⟩ = some (.slice B1 U.length cap1) := (OwnT.blk (OwnT.ext O hR) 1 rfl).cell 0
      simp [go_sem, BigFrame.eval_const, BigFrame.eval_global, BigFrame.eval_func, ↓IntWalk.iteOmega, ev e103, q0]
      with_reducible rfl
    apply Build.det 105 Ext.refl (by rfl) (by rw [k.size]; rfl) rfl
    case h =>   -- 4: t105 := Op.load 35 (tmp 7)
      intro ax wx hE hR hF
      have q0 : wx.cell? ⟨qb, 0, none⟩ = some (.int .i64 c) := (OwnT.blk (OwnT.ext O hR) 5 rfl).cell 0
      have q1 : wx.cell? ⟨qb, 1, none⟩ = some (.int .i64 y1) := (OwnT.blk (OwnT.ext O hR) 5 rfl).cell 1
      have q2 : wx.cell? ⟨qb, 2, none⟩ = some (.int .i64 y2) := (OwnT.blk (OwnT.ext O hR) 5 rfl).cell 2
      have q3 : wx.cell? ⟨qb, 3, none⟩ = some (.int .i64 y3) := (OwnT.blk (OwnT.ext O hR) 5 rfl).cell 3
      simp [go_sem, BigFrame.eval_const, BigFrame.eval_global, BigFrame.eval_func, ↓IntWalk.iteOmega, ev (hE.eval 7 (by rfl) e7), q0, q1, q2, q3]
      with_reducible rfl
    apply Build.call 106 Ext.refl (by rfl) (by rw [k.size]; rfl) rfl
    case h =>   -- 5: t106 := tierce/tierceref13.Has
      intro ax wx hE hR hF
      have e104 : ax.eval (.tmp 104) = _ := hF 3 (det 104 _) (by decide) (.tail _ (.head _))
      have e105 : ax.eval (.tmp 105) = _ := hF 4 (det 105 _) (by decide) (.head _)
      simp [go_sem, BigFrame.eval_const, BigFrame.eval_global, BigFrame.eval_func, ↓IntWalk.iteOmega, ev e104, ev e105]
      with_reducible exact ⟨rfl, rfl⟩
    case hc => intro wx hR; exact (show Calls _ _ _ _ (fun e w' => e = .returned (.bool false) ∧ Ext wx w') from (has_any B1 U.length cap1 U (c, y1, y2, y3) wx rfl (by omega) (rowQ_of (OwnT.get (OwnT.ext O hR) 2 rfl : World.ownsRow _ 0 35 4 _ U.length (U.flatMap qC))).2).mono (fun e w' h => ⟨h.1.trans (by rw [decide_eq_false hin]), h.2⟩))
    apply Build.det 107 Ext.refl (by rfl) (by rw [k.size]; rfl) rfl
    case h =>   -- 6: t107 := Op.unOp UnOp.not 4 (tmp 106)
      intro ax wx hE hR hF
      have e106 : ax.eval (.tmp 106) = _ := hF 5 (det 106 _) (by decide) (.head _)
      exact x_not rfl e106
    apply Build.stop
    refine ⟨by kernel_rfl, .inl ⟨rfl, ?_⟩⟩
    intro a44 w45 hE R hF
    have e107 : a44.eval (.tmp 107) = _ := hF 6 (det 107 _) (.head _)
    clear hF
    replace O := OwnT.ext O R
    clear R
    replace e0 := hE.eval 0 (by rfl) e0
    replace e3 := hE.eval 3 (by rfl) e3
    replace e4 := hE.eval 4 (by rfl) e4
    replace e5 := hE.eval 5 (by rfl) e5
    replace e6 := hE.eval 6 (by rfl) e6
    replace e7 := hE.eval 7 (by rfl) e7
    replace e10 := hE.eval 10 (by rfl) e10
    replace e11 := hE.eval 11 (by rfl) e11
    replace k := k.env hE
    clear hE
    refine then_n ?_
    refine cond_t e107 rfl ?_
    refine wp_seq ?_
    refine wp_region_lit ?_   -- region 27
    have hE := Env.refl a44 [108, 109, 110, 111, 112]
    apply sq_det 108 hE k rfl (by rfl) (by rfl) rfl
    case h =>   -- 0: t108 := Op.move (tmp 10)
      exact x_move rfl (hE.eval 10 (by rfl) e10)
    intro a46 hE e108 kp
    apply sq_det 109 hE k rfl (by rfl) (by rfl) rfl
    case h =>   -- 1: t109 := Op.move (tmp 108)
      exact x_move rfl e108
    intro a47 hE e109 kp
    apply sq_detg 110 hE k rfl (by rfl) (by rfl) rfl rfl e109
    case h =>   -- 2: t110 := Op.move (tmp 11)
      exact x_move rfl (hE.eval 11 (by rfl) e11)
    intro a48 hE e110 kp
    replace e109 := (kp 109 rfl).trans e109
    apply sq_detg 111 hE k rfl (by rfl) (by rfl) rfl rfl e109
    case h =>   -- 3: t111 := Op.binOp BinOp.neq 36 (tmp 110) (const (Value.int IntKind.i64 7)) 36
      exact x_neq rfl e110 rfl
    intro a49 hE e111 kp
    replace e109 := (kp 109 rfl).trans e109
    apply sq_det 112 hE k rfl (by rfl) (by rfl) rfl
    case h =>   -- 4: t112 := Op.pick (tmp 109) (const (Value.bool true)) (tmp 111)
      exact x_pick_f rfl e109 e111
    intro a50 hE e112 kp
    refine wpList_nil ?_
    replace e0 := hE.eval 0 (by rfl) e0
    replace e3 := hE.eval 3 (by rfl) e3
    replace e4 := hE.eval 4 (by rfl) e4
    replace e5 := hE.eval 5 (by rfl) e5
    replace e6 := hE.eval 6 (by rfl) e6
    replace k := k.env hE
    clear hE e7 e10 e11 e107
    refine then_n ?_
    refine cond_f e112 rfl ?_
    refine wp_skip ?_
    refine block_n ?_
    replace O : OwnT _ _ ([tOB pb F1 (ofQ U) (ofQ V), tBlk ub 29 #[.slice B1 U.length cap1, v2], tRow 35 4 (.slice B1 U.length cap1) U.length (U.flatMap qC), tRow 35 4 (v2) V.length (V.flatMap qC), tBlk xb 33 #[.int .i64 3, .int .i64 c, .int .i64 y1, .int .i64 y2, .int .i64 y3]]) w45 := OwnT.pick O [0, 1, 2, 3, 4] (by decide)
    exact hQ _ _ _ _ _ _ _ k e0 e3 e4 e5 e6 O ⟨hG.su, hG.sv, hG.ru, Nat.le_succ_of_le hG.lu, Nat.le_succ_of_le hG.lv⟩
set_option maxRecDepth 100000 in
set_option maxHeartbeats 4000000 in
theorem ownE_deed4 {H : Nat} {A0 : World} {pb ub xb qb : Nat} {F : List Nat} {v1 v2 : Value} {U V : List QD} {K c y1 y2 y3 : Int} {m : Nat} {A : Option Addr} {len cap i : Nat} {Q : Exit → Act → World → Prop} (a : Act) (w : World) (k : Fr 273 a)
    (e0 : a.eval (.tmp 0) = .slice A len cap) (e3 : a.eval (.tmp 3) = .pointer (some ⟨pb, 0, none⟩)) (e4 : a.eval (.tmp 4) = .pointer (some ⟨ub, 0, none⟩)) (e5 : a.eval (.tmp 5) = .int .i64 ↑i) (e6 : a.eval (.tmp 6) = .pointer (some ⟨xb, 0, none⟩)) (e7 : a.eval (.tmp 7) = .pointer (some ⟨qb, 0, none⟩)) (e43 : a.eval (.tmp 43) = .int .i64 K)
    (O : OwnT H A0 [tOB pb F (ofQ U) (ofQ V), tBlk ub 29 #[v1, v2], tRow 35 4 (v1) U.length (U.flatMap qC), tRow 35 4 (v2) V.length (V.flatMap qC), tBlk xb 33 #[.int .i64 K, .int .i64 c, .int .i64 y1, .int .i64 y2, .int .i64 y3], tBlk qb 35 #[.int .i64 c, .int .i64 y1, .int .i64 y2, .int .i64 y3]] w) (hG : ExG U V m) (hm : m ≤ 1000) (hwf : wfV c) (h1 : K ≠ 1) (h2 : K ≠ 2) (h3 : K ≠ 3)
    (hQ : ∀ a w F' u1 u2 U' V', Fr 273 a → a.eval (.tmp 0) = .slice A len cap → a.eval (.tmp 3) = .pointer (some ⟨pb, 0, none⟩) → a.eval (.tmp 4) = .pointer (some ⟨ub, 0, none⟩) → a.eval (.tmp 5) = .int .i64 ↑i → a.eval (.tmp 6) = .pointer (some ⟨xb, 0, none⟩) → OwnT H A0 [tOB pb F' (ofQ U') (ofQ V'), tBlk ub 29 #[u1, u2], tRow 35 4 (u1) U'.length (U'.flatMap qC), tRow 35 4 (u2) V'.length (V'.flatMap qC), tBlk xb 33 #[.int .i64 K, .int .i64 c, .int .i64 y1, .int .i64 y2, .int .i64 y3]] w → ExG U' V' (m + 1) → Q .normal a w) :
    Code.wp Try.prog (codeAt [1, 1, 1, 1, 0, 1, 0, 0, 1, 0, 0, 1, 1, 0, 1] (Try.f3.body.getD .skip)) Q a w := by
  conv => arg 2; whnf
  have hlU : U.length ≤ 1000000 := by have := hG.lu; omega
  have hlV : V.length ≤ 1000000 := by have := hG.lv; omega
  obtain ⟨B1, cap1, rfl, hk1, hm1, -, -⟩ := ownsRow_Row qC_len (by decide) (OwnT.get O 2 rfl : World.ownsRow _ 0 35 4 v1 U.length (U.flatMap qC))
  
  refine wp_block ?_
  refine wp_seq ?_
  refine wp_seq ?_
  refine wp_region_lit ?_   -- region 13
  have hE := Env.refl a [56, 55]
  apply sq_det 56 hE k rfl (by rfl) (by rfl) rfl
  case h =>   -- 0: t56 := Op.binOp BinOp.eql 3 (tmp 43) (const (Value.int IntKind.i64 1)) 3
    exact x_dec (x_eql rfl (hE.eval 43 (by rfl) e43) rfl) (decide_eq_false (by omega))
  intro a1 hE e56 kp
  apply sq_det 55 hE k rfl (by rfl) (by rfl) rfl
  case h =>   -- 1: t55 := Op.assign (tmp 56)
    exact x_assign rfl e56
  intro a2 hE e55 kp
  refine wpList_nil ?_
  replace e0 := hE.eval 0 (by rfl) e0
  replace e3 := hE.eval 3 (by rfl) e3
  replace e4 := hE.eval 4 (by rfl) e4
  replace e5 := hE.eval 5 (by rfl) e5
  replace e6 := hE.eval 6 (by rfl) e6
  replace e7 := hE.eval 7 (by rfl) e7
  replace e43 := hE.eval 43 (by rfl) e43
  replace k := k.env hE
  clear hE
  refine then_n ?_
  refine cond_f e55 rfl ?_
  refine wp_region_lit ?_   -- region 14
  have hE := Env.refl a2 [57, 55]
  apply sq_det 57 hE k rfl (by rfl) (by rfl) rfl
  case h =>   -- 0: t57 := Op.binOp BinOp.eql 3 (tmp 43) (const (Value.int IntKind.i64 2)) 3
    exact x_dec (x_eql rfl (hE.eval 43 (by rfl) e43) rfl) (decide_eq_false (by omega))
  intro a3 hE e57 kp
  apply sq_det 55 hE k rfl (by rfl) (by rfl) rfl
  case h =>   -- 1: t55 := Op.assign (tmp 57)
    exact x_assign rfl e57
  intro a4 hE e55 kp
  refine wpList_nil ?_
  replace e0 := hE.eval 0 (by rfl) e0
  replace e3 := hE.eval 3 (by rfl) e3
  replace e4 := hE.eval 4 (by rfl) e4
  replace e5 := hE.eval 5 (by rfl) e5
  replace e6 := hE.eval 6 (by rfl) e6
  replace e7 := hE.eval 7 (by rfl) e7
  replace e43 := hE.eval 43 (by rfl) e43
  replace k := k.env hE
  clear hE
  refine then_n ?_
  refine cond_f e55 rfl ?_
  refine wp_seq ?_
  refine wp_region_lit ?_   -- region 24
  have hE := Env.refl a4 [91, 90]
  apply sq_det 91 hE k rfl (by rfl) (by rfl) rfl
  case h =>   -- 0: t91 := Op.binOp BinOp.eql 3 (tmp 43) (const (Value.int IntKind.i64 3)) 3
    exact x_dec (x_eql rfl (hE.eval 43 (by rfl) e43) rfl) (decide_eq_false (by omega))
  intro a5 hE e91 kp
  apply sq_det 90 hE k rfl (by rfl) (by rfl) rfl
  case h =>   -- 1: t90 := Op.assign (tmp 91)
    exact x_assign rfl e91
  intro a6 hE e90 kp
  refine wpList_nil ?_
  replace e0 := hE.eval 0 (by rfl) e0
  replace e3 := hE.eval 3 (by rfl) e3
  replace e4 := hE.eval 4 (by rfl) e4
  replace e5 := hE.eval 5 (by rfl) e5
  replace e6 := hE.eval 6 (by rfl) e6
  replace e7 := hE.eval 7 (by rfl) e7
  replace k := k.env hE
  clear hE e43 e55
  refine then_n ?_
  refine cond_f e90 rfl ?_
  refine wp_seq ?_
  refine wp_region_lit ?_   -- region 11
  have hE := Env.refl a6 [44, 45]
  apply sq_det 44 hE k rfl (by rfl) (by rfl) rfl
  case h =>   -- 0: t44 := Op.move (tmp 3)
    exact x_move rfl (hE.eval 3 (by rfl) e3)
  intro a7 hE e44 kp
  apply sq_call 45 hE k rfl (by rfl) (by rfl) rfl
  case h =>   -- (*tierce/owners.Book).Commit
    simp [go_sem, BigFrame.eval_const, BigFrame.eval_global, BigFrame.eval_func, ↓IntWalk.iteOmega, ev e44]
    with_reducible exact ⟨rfl, rfl⟩
  case hc => exact commitB pb _ _ _ _ O (fun c => Nat.le_trans (hG.n c) (by omega))
  clear O
  rintro e w9 ⟨rfl, F1, O⟩
  refine ⟨_, rfl, ?_⟩
  intro a8 hE e45 kp
  refine wpList_nil ?_
  replace e0 := hE.eval 0 (by rfl) e0
  replace e3 := hE.eval 3 (by rfl) e3
  replace e4 := hE.eval 4 (by rfl) e4
  replace e5 := hE.eval 5 (by rfl) e5
  replace e6 := hE.eval 6 (by rfl) e6
  replace k := k.env hE
  clear hE e7 e90 e45
  refine then_n ?_
  obtain ⟨B2, cap2, rfl, hk2, hm2, -, -⟩ := ownsRow_Row qC_len (by decide) (OwnT.get O 3 rfl : World.ownsRow _ 0 35 4 v2 V.length (V.flatMap qC))
  obtain ⟨v', w8, hrun, O8⟩ := OwnT.copyQ (U := U) O (OwnT.get O 2 rfl) (by omega)
  obtain ⟨B3, cap3, rfl, hk3, hm3, -, -⟩ := ownsRow_Row qC_len (by decide) (OwnT.get O8 0 rfl : World.ownsRow _ 0 35 4 v' U.length (U.flatMap qC))
  
  refine wp_region_lit ?_   -- region 12
  have hE := Env.refl a8 [46, 47, 48, 49, 50, 51, 52, 53, 54]
  apply sq_det 46 hE k rfl (by rfl) (by rfl) rfl
  case h =>   -- 0: t46 := Op.move (tmp 4)
    exact x_move rfl (hE.eval 4 (by rfl) e4)
  intro a10 hE e46 kp
  apply sq_val 47 hE k rfl (by rfl) (by rfl) rfl
  case h =>   -- 1: t47 := Op.buildSlice 27 0 #[]
    simp [go_sem, BigFrame.eval_const, BigFrame.eval_global, BigFrame.eval_func, ↓IntWalk.iteOmega]
    with_reducible exact ⟨rfl, rfl⟩
  intro a11 hE e47 kp
  replace e46 := (kp 46 rfl).trans e46
  replace O := OwnT.other O (.cells #[] 35)
  apply sq_det 48 hE k rfl (by rfl) (by rfl) rfl
  case h =>   -- 2: t48 := Op.move (tmp 4)
    exact x_move rfl (hE.eval 4 (by rfl) e4)
  intro a12 hE e48 kp
  replace e46 := (kp 46 rfl).trans e46
  replace e47 := (kp 47 rfl).trans e47
  apply sq_det 49 hE k rfl (by rfl) (by rfl) rfl
  case h =>   -- 3: t49 := Op.nilCheck (tmp 48)
    exact x_nil rfl e48
  intro a13 hE e49 kp
  replace e46 := (kp 46 rfl).trans e46
  replace e47 := (kp 47 rfl).trans e47
  apply sq_det 50 hE k rfl (by rfl) (by rfl) rfl
  case h =>   -- 4: t50 := Op.fieldAddr 29 (tmp 49) 0
    simp [go_sem, BigFrame.eval_const, BigFrame.eval_global, BigFrame.eval_func, ↓IntWalk.iteOmega, ev e49]
    with_reducible rfl
  intro a14 hE e50 kp
  replace e46 := (kp 46 rfl).trans e46
  replace e47 := (kp 47 rfl).trans e47
  apply sq_det 51 hE k rfl (by rfl) (by rfl) rfl
  case h =>   -- 5: t51 := Op.load 27 (tmp 50)
    have q0 : (w9.alloc (.cells #[] 35)).cell? ⟨ub, 0, none⟩ = some (.slice B1 U.length cap1) := (OwnT.blk O 1 rfl).cell 0
    simp [go_sem, BigFrame.eval_const, BigFrame.eval_global, BigFrame.eval_func, ↓IntWalk.iteOmega, ev e50, q0]
    with_reducible rfl
  intro a15 hE e51 kp
  replace e46 := (kp 46 rfl).trans e46
  replace e47 := (kp 47 rfl).trans e47
  apply sq_val 52 hE k rfl (by rfl) (by rfl) rfl
  case h =>   -- 6: t52 := Op.call {callee := Callee.builtin Builtin.append, args := #[tmp 47, tm
    exact x_append rfl e47 e51 (hrun _)
  intro a16 hE e52 kp
  replace e46 := (kp 46 rfl).trans e46
  replace O := O8
  apply sq_det 53 hE k rfl (by rfl) (by rfl) rfl
  case h =>   -- 7: t53 := Op.nilCheck (tmp 46)
    exact x_nil rfl e46
  intro a17 hE e53 kp
  replace e52 := (kp 52 rfl).trans e52
  apply sq_det 54 hE k rfl (by rfl) (by rfl) rfl
  case h =>   -- 8: t54 := Op.fieldAddr 29 (tmp 53) 1
    simp [go_sem, BigFrame.eval_const, BigFrame.eval_global, BigFrame.eval_func, ↓IntWalk.iteOmega, ev e53]
    with_reducible rfl
  intro a18 hE e54 kp
  replace e52 := (kp 52 rfl).trans e52
  have q0 : w8.cell? ⟨ub, 1, none⟩ = some (.slice B2 V.length cap2) := (OwnT.blk O 2 rfl).cell 1
  have q1 : w8.frozen? ⟨ub, 1, none⟩ = false := (OwnT.blk O 2 rfl).frozen 1
  refine sq_store (off := 1) (v := .slice B3 U.length cap3) O 2 rfl hE rfl rfl (by simp [go_sem, BigFrame.eval_const, BigFrame.eval_global, BigFrame.eval_func, ↓IntWalk.iteOmega, ev e52, ev e54, q0, q1]) ?_
  clear q0 q1
  clear O
  intro w19 O
  replace O : OwnT _ _ ([tRow 35 4 (.slice B3 U.length cap3) U.length (U.flatMap qC), tOB pb F1 (ofQ U) (ofQ U), tBlk ub 29 #[.slice B1 U.length cap1, .slice B3 U.length cap3], tRow 35 4 (.slice B1 U.length cap1) U.length (U.flatMap qC), tRow 35 4 (.slice B2 V.length cap2) V.length (V.flatMap qC), tBlk xb 33 #[.int .i64 K, .int .i64 c, .int .i64 y1, .int .i64 y2, .int .i64 y3], tBlk qb 35 #[.int .i64 c, .int .i64 y1, .int .i64 y2, .int .i64 y3]]) w19 := O
  refine wpList_nil ?_
  replace e0 := hE.eval 0 (by rfl) e0
  replace e3 := hE.eval 3 (by rfl) e3
  replace e4 := hE.eval 4 (by rfl) e4
  replace e5 := hE.eval 5 (by rfl) e5
  replace e6 := hE.eval 6 (by rfl) e6
  replace k := k.env hE
  clear hE e52 e54
  refine block_n ?_
  replace O : OwnT _ _ ([tOB pb F1 (ofQ U) (ofQ U), tBlk ub 29 #[.slice B1 U.length cap1, .slice B3 U.length cap3], tRow 35 4 (.slice B1 U.length cap1) U.length (U.flatMap qC), tRow 35 4 (.slice B3 U.length cap3) U.length (U.flatMap qC), tBlk xb 33 #[.int .i64 K, .int .i64 c, .int .i64 y1, .int .i64 y2, .int .i64 y3]]) w19 := OwnT.pick O [1, 2, 3, 0, 5] (by decide)
  exact hQ _ _ _ _ _ _ _ k e0 e3 e4 e5 e6 O ⟨hG.su, hG.su, hG.ru, Nat.le_succ_of_le hG.lu, Nat.le_succ_of_le hG.lu⟩
end Go.Proofs.Ytdpohbaeopidmaa
