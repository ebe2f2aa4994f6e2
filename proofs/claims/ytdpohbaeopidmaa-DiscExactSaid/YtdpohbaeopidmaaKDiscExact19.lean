/- disc's law: the reference's Of, List (printed by XRefB.gen.py). -/
import Derived.Test.YtdpohbaeopidmaaKDiscExact18
namespace Go.Proofs.Ytdpohbaeopidmaa
set_option linter.unusedVariables false
set_option linter.unusedSimpArgs false
open Go.RowKit Go.Maps

theorem cellB {W0 w : World} (hb : Below W0.heap.size W0 w) {b o : Nat} {v : Value} (h : W0.cell? ⟨b, o, none⟩ = some v) : w.cell? ⟨b, o, none⟩ = some v := by
  have hlt : b < W0.heap.size := by
    rcases Nat.lt_or_ge b W0.heap.size with h1 | h1
    · exact h1
    · simp [World.cell?, Array.getElem?_eq_none h1] at h
  rw [← h]
  exact hb.cell (p := ⟨b, o, none⟩) hlt
section
variable {H : Nat} {A w : World} {L : List Thing} {X Y Z U : Thing}
theorem OwnT.turn4 (h : OwnT H A (X :: Y :: Z :: U :: L) w) : OwnT H A (U :: X :: Y :: Z :: L) w := h.perm (((List.Perm.swap _ _ _).cons _).cons _ |>.trans (((List.Perm.swap _ _ _).cons _).trans (List.Perm.swap _ _ _)))
theorem OwnT.asRow0 {g k : Nat} {T : TypeId} (h : OwnT H A (tBlk g T #[] :: L) w) : OwnT H A (tRow T k (.slice (some ⟨g, 0, none⟩) 0 0) 0 [] :: L) w :=
  h.call (F := []) (Chg.refl [] w) (by simp) (tRow T k (.slice (some ⟨g, 0, none⟩) 0 0) 0 []) (row_of h.b0 (Nat.le_refl _) (by decide) (by simp) (by simp)) (fun i hi => .inl (by simpa [tRow, tBlk, Value.ownBlock] using hi))
end

set_option maxRecDepth 100000 in
set_option maxHeartbeats 4000000 in
theorem rof4_any {H : Nat} {A0 : World} {R : List Thing} (l : List UInt8) (w : World) (O : OwnT H A0 R w) (hl : l.length ≤ 100000) : Calls Try.prog 44 #[.string (sB l)] w fun e w' => ∃ ub B1 c1 B2 c2 B3 c3, e = .returned (.pointer (some ⟨ub, 0, none⟩)) ∧ OwnT H A0 (tBlk ub 80 #[.slice B1 ((l.length / 16)) c1, .slice B2 ((l.length / 16)) c2, .slice B3 ((l.length / 16)) c3] :: tRow 9 1 (.slice B1 ((l.length / 16)) c1) ((l.length / 16)) (strsV (secsL l (l.length / 16))) :: tRow 9 1 (.slice B2 ((l.length / 16)) c2) ((l.length / 16)) (strsV (secsL l (l.length / 16))) :: tRow 4 1 (.slice B3 ((l.length / 16)) c3) ((l.length / 16)) (boolsV (List.replicate (l.length / 16) false)) :: R) w' := by
  refine calls_F Try.func44 rfl 60 rfl (by rfl) ?_
  intro a1 k hargs
  have e0 : a1.eval (.tmp 0) = .string (sB l) := hargs 0 _ rfl
  clear hargs
  refine wp_seq ?_
  refine wp_region_lit ?_   -- region 0
  have hE := Env.refl a1 [2]
  apply sq_det 2 hE k rfl (by rfl) (by rfl) rfl
  case h =>   -- 0: t2 := Op.assign (const (Value.pointer none))
    exact x_assign rfl rfl
  intro a2 hE e2 kp
  refine wpList_nil ?_
  replace e0 := hE.eval 0 (by rfl) e0
  replace k := k.env hE
  clear hE e2
  refine then_n ?_
  refine wp_seq ?_
  refine wp_region_lit ?_   -- region 1
  have hE := Env.refl a2 [5, 6, 3]
  apply sq_det 5 hE k rfl (by rfl) (by rfl) rfl
  case h =>   -- 0: t5 := Op.build 80 #[]
    simp [go_sem, BigFrame.eval_const, BigFrame.eval_global, BigFrame.eval_func, ↓IntWalk.iteOmega]
    with_reducible rfl
  intro a3 hE e5 kp
  refine sq_new O (cs := #[.slice none 0 0, .slice none 0 0, .slice none 0 0]) (t := 80) 6 hE k rfl (by rfl) (by rfl) rfl (by simp [go_sem, BigFrame.eval_const, BigFrame.eval_global, BigFrame.eval_func, ↓IntWalk.iteOmega, ev e5]) ?_
  clear O
  intro ub a4 w5 O hE e6 kp
  apply sq_det 3 hE k rfl (by rfl) (by rfl) rfl
  case h =>   -- 2: t3 := Op.assign (tmp 6)
    exact x_assign rfl e6
  intro a6 hE e3 kp
  refine wpList_nil ?_
  replace e0 := hE.eval 0 (by rfl) e0
  replace k := k.env hE
  clear hE
  refine then_n ?_
  replace O := ((OwnT.nilRow O 4 1).nilRow 9 1).nilRow 9 1
  refine wp_seq ?_
  refine wp_seq ?_
  refine wp_region_lit ?_   -- region 2
  have hE := Env.refl a6 [4]
  apply sq_det 4 hE k rfl (by rfl) (by rfl) rfl
  case h =>   -- 0: t4 := Op.assign (const (Value.int IntKind.i64 0))
    exact x_assign rfl rfl
  intro a7 hE e4 kp
  refine wpList_nil ?_
  replace e0 := hE.eval 0 (by rfl) e0
  replace e3 := hE.eval 3 (by rfl) e3
  replace k := k.env hE
  clear hE
  refine then_n ?_
  refine wp_block ?_
  refine wp_loop (fun a w => Fr 60 a ∧ a.eval (.tmp 0) = .string (sB l) ∧ a.eval (.tmp 3) = .pointer (some ⟨ub, 0, none⟩) ∧ ∃ (j : Nat) (B1 B2 B3 : Option Addr) (c1 c2 c3 : Nat), a.eval (.tmp 4) = .int .i64 (↑(16 * j)) ∧ j ≤ l.length / 16 ∧ OwnT H A0 ((tRow 9 1 (.slice B1 j c1) j (strsV (secsL l j))) :: (tRow 9 1 (.slice B2 j c2) j (strsV (secsL l j))) :: (tRow 4 1 (.slice B3 j c3) j (boolsV (List.replicate j false))) :: (tBlk ub 80 #[.slice B1 j c1, .slice B2 j c2, .slice B3 j c3]) :: R) w) (fun a w => (↑l.length - intOf (a.eval (.tmp 4))).toNat) ?_ ?_
  · exact ⟨k, e0, e3, 0, none, none, none, 0, 0, 0, e4, Nat.zero_le _, O⟩
  intro a8 w9 hI
  clear k e0 e3
  obtain ⟨k, e0, e3, h_⟩ := hI
  clear O e4
  obtain ⟨j, B1, B2, B3, c1, c2, c3, e4, hj, O⟩ := h_
  have mj := e4
  by_cases hlt : j < l.length / 16
  · skip
    refine wp_seq ?_
    refine wp_seq ?_
    refine wp_region_lit ?_   -- region 3
    have hE := Env.refl a8 [7, 8, 9, 10, 11, 12, 13, 14, 15, 16, 17, 18, 19]
    apply sq_det 7 hE k rfl (by rfl) (by rfl) rfl
    case h =>   -- 0: t7 := Op.move (tmp 4)
      exact x_move rfl (hE.eval 4 (by rfl) e4)
    intro a10 hE e7 kp
    apply sq_det 8 hE k rfl (by rfl) (by rfl) rfl
    case h =>   -- 1: t8 := Op.binOp BinOp.add 3 (tmp 7) (const (Value.int IntKind.i64 16)) 3
      exact x_add rfl e7 rfl (by omega)
    intro a11 hE e8 kp
    apply sq_det 9 hE k rfl (by rfl) (by rfl) rfl
    case h =>   -- 2: t9 := Op.move (tmp 0)
      exact x_move rfl (hE.eval 0 (by rfl) e0)
    intro a12 hE e9 kp
    replace e8 := (kp 8 rfl).trans e8
    apply sq_det 10 hE k rfl (by rfl) (by rfl) rfl
    case h =>   -- 3: t10 := Op.call {callee := Callee.builtin Builtin.len, args := #[tmp 9], argTy
      exact x_len_l Try.underlying9 rfl e9
    intro a13 hE e10 kp
    replace e8 := (kp 8 rfl).trans e8
    apply sq_det 11 hE k rfl (by rfl) (by rfl) rfl
    case h =>   -- 4: t11 := Op.binOp BinOp.leq 3 (tmp 8) (tmp 10) 3
      exact x_dec (x_leq rfl e8 e10) (decide_eq_true (by omega))
    intro a14 hE e11 kp
    apply sq_det 12 hE k rfl (by rfl) (by rfl) rfl
    case h =>   -- 5: t12 := Op.move (tmp 11)
      exact x_move rfl e11
    intro a15 hE e12 kp
    apply sq_detg 13 hE k rfl (by rfl) (by rfl) rfl rfl e12
    case h =>   -- 6: t13 := Op.move (tmp 3)
      exact x_move rfl (hE.eval 3 (by rfl) e3)
    intro a16 hE e13 kp
    replace e12 := (kp 12 rfl).trans e12
    apply sq_detg 14 hE k rfl (by rfl) (by rfl) rfl rfl e12
    case h =>   -- 7: t14 := Op.nilCheck (tmp 13)
      exact x_nil rfl e13
    intro a17 hE e14 kp
    replace e12 := (kp 12 rfl).trans e12
    apply sq_detg 15 hE k rfl (by rfl) (by rfl) rfl rfl e12
    case h =>   -- 8: t15 := Op.fieldAddr 80 (tmp 14) 0
      simp [go_sem, BigFrame.eval_const, BigFrame.eval_global, BigFrame.eval_func, ↓IntWalk.iteOmega, ev e14]
      with_reducible rfl
    intro a18 hE e15 kp
    replace e12 := (kp 12 rfl).trans e12
    apply sq_detg 16 hE k rfl (by rfl) (by rfl) rfl rfl e12
    case h =>   -- 9: t16 := Op.load 77 (tmp 15)
      have q0 : w9.cell? ⟨ub, 0, none⟩ = some (.slice B1 j c1) := (OwnT.blk O 3 rfl).cell 0
      simp [go_sem, BigFrame.eval_const, BigFrame.eval_global, BigFrame.eval_func, ↓IntWalk.iteOmega, ev e15, q0]
      with_reducible rfl
    intro a19 hE e16 kp
    replace e12 := (kp 12 rfl).trans e12
    apply sq_detg 17 hE k rfl (by rfl) (by rfl) rfl rfl e12
    case h =>   -- 10: t17 := Op.call {callee := Callee.builtin Builtin.len, args := #[tmp 16], argT
      exact x_len Try.underlying77 rfl e16
    intro a20 hE e17 kp
    replace e12 := (kp 12 rfl).trans e12
    apply sq_detg 18 hE k rfl (by rfl) (by rfl) rfl rfl e12
    case h =>   -- 11: t18 := Op.binOp BinOp.lss 3 (tmp 17) (const (Value.int IntKind.i64 16384)) 3
      exact x_dec (x_lss rfl e17 rfl) (decide_eq_true (by omega))
    intro a21 hE e18 kp
    replace e12 := (kp 12 rfl).trans e12
    apply sq_det 19 hE k rfl (by rfl) (by rfl) rfl
    case h =>   -- 12: t19 := Op.pick (tmp 12) (tmp 18) (const (Value.bool false))
      exact x_pick_t rfl e12 e18
    intro a22 hE e19 kp
    refine wpList_nil ?_
    replace e0 := hE.eval 0 (by rfl) e0
    replace e3 := hE.eval 3 (by rfl) e3
    replace e4 := hE.eval 4 (by rfl) e4
    replace k := k.env hE
    clear hE
    refine then_n ?_
    refine cond_t e19 rfl ?_
    refine wp_skip ?_
    refine then_n ?_
    refine wp_seq ?_
    refine wp_block ?_
    refine wp_seq ?_
    obtain ⟨gs1, hgs1⟩ : ∃ z, w9.heap.size = z := ⟨_, rfl⟩
    refine wp_phasedL (fun l_ w_ w_' => if l_ 11 = true then Ext w_ w_' else True) (fun l_ w_ => AppI _ _ 9 1 (.slice B1 j c1) j (strsV (secsL l j)) gs1 [Value.string (sB (secOf l j))] ((tRow 9 1 (.slice B2 j c2) j (strsV (secsL l j))) :: (tRow 4 1 (.slice B3 j c3) j (boolsV (List.replicate j false))) :: (tBlk ub 80 #[.slice B1 j c1, .slice B2 j c2, .slice B3 j c3]) :: R) (l_ 10) (l_ 11) w_) [[], [], [1], [1, 2], [1, 2, 3], [], [], [], [7], [5, 6, 7, 8], [5, 6, 7, 8, 9], [1, 2, 3, 4, 5, 6, 7, 8, 9, 10], [0, 1, 2, 3, 4, 5, 6, 7, 8, 9, 10, 11], [0, 1, 2, 3, 4, 5, 6, 7, 8, 9, 10, 11, 12], [0, 1, 2, 3, 4, 5, 6, 7, 8, 9, 10, 11, 12, 13]] [22, 23, 24, 25, 26, 27, 28, 29, 30, 31, 32, 33, 34, 35] (fun l w => by split; exact Ext.refl _; exact True.intro) (by rw [← hgs1]; exact AppI.start O) (by kernel_rfl) ?_   -- region 5
    apply BuildL.det 22 (fun l w => by split; exact Ext.refl _; exact True.intro) (fun l w h => h) (by rfl) (by rw [k.size]; rfl) rfl
    case h =>   -- 0: t22 := Op.move (tmp 3)
      intro lx ax wx hE hR hF
      exact x_move rfl (hE.eval 3 (by rfl) e3)
    apply BuildL.det 23 (fun l w => by split; exact Ext.refl _; exact True.intro) (fun l w h => h) (by rfl) (by rw [k.size]; rfl) rfl
    case h =>   -- 1: t23 := Op.move (tmp 3)
      intro lx ax wx hE hR hF
      exact x_move rfl (hE.eval 3 (by rfl) e3)
    apply BuildL.det 24 (fun l w => by split; exact Ext.refl _; exact True.intro) (fun l w h => h) (by rfl) (by rw [k.size]; rfl) rfl
    case h =>   -- 2: t24 := Op.nilCheck (tmp 23)
      intro lx ax wx hE hR hF
      have e23 : ax.eval (.tmp 23) = _ := hF 1 (detL 1 23 _) (by decide) (.head _)
      exact x_nil rfl e23
    apply BuildL.det 25 (fun l w => by split; exact Ext.refl _; exact True.intro) (fun l w h => h) (by rfl) (by rw [k.size]; rfl) rfl
    case h =>   -- 3: t25 := Op.fieldAddr 80 (tmp 24) 0
      intro lx ax wx hE hR hF
      have e24 : ax.eval (.tmp 24) = _ := hF 2 (detL 2 24 _) (by decide) (.head _)
      simp [go_sem, BigFrame.eval_const, BigFrame.eval_global, BigFrame.eval_func, ↓IntWalk.iteOmega, ev e24]
      with_reducible rfl
    apply BuildL.det 26 (fun l w => by split; exact Ext.refl _; exact True.intro) (fun l w h => h) (by rfl) (by rw [k.size]; rfl) rfl
    case h =>   -- 4: t26 := Op.load 77 (tmp 25)
      intro lx ax wx hE hR hF
      have e25 : ax.eval (.tmp 25) = _ := hF 3 (detL 3 25 _) (by decide) (.head _)
      have q0 : wx.cell? ⟨ub, 0, none⟩ = some (.slice B1 j c1) := (OwnT.blk (AppI.own hR) 2 rfl).cell 0
      simp [go_sem, BigFrame.eval_const, BigFrame.eval_global, BigFrame.eval_func, ↓IntWalk.iteOmega, ev e25, q0]
      with_reducible rfl
    apply BuildL.det 27 (fun l w => by split; exact Ext.refl _; exact True.intro) (fun l w h => h) (by rfl) (by rw [k.size]; rfl) rfl
    case h =>   -- 5: t27 := Op.move (tmp 0)
      intro lx ax wx hE hR hF
      exact x_move rfl (hE.eval 0 (by rfl) e0)
    apply BuildL.det 28 (fun l w => by split; exact Ext.refl _; exact True.intro) (fun l w h => h) (by rfl) (by rw [k.size]; rfl) rfl
    case h =>   -- 6: t28 := Op.move (tmp 4)
      intro lx ax wx hE hR hF
      exact x_move rfl (hE.eval 4 (by rfl) e4)
    apply BuildL.det 29 (fun l w => by split; exact Ext.refl _; exact True.intro) (fun l w h => h) (by rfl) (by rw [k.size]; rfl) rfl
    case h =>   -- 7: t29 := Op.move (tmp 4)
      intro lx ax wx hE hR hF
      exact x_move rfl (hE.eval 4 (by rfl) e4)
    apply BuildL.det 30 (fun l w => by split; exact Ext.refl _; exact True.intro) (fun l w h => h) (by rfl) (by rw [k.size]; rfl) rfl
    case h =>   -- 8: t30 := Op.binOp BinOp.add 3 (tmp 29) (const (Value.int IntKind.i64 16)) 3
      intro lx ax wx hE hR hF
      have e29 : ax.eval (.tmp 29) = _ := hF 7 (detL 7 29 _) (by decide) (.head _)
      exact x_val (v := .int .i64 ((16 * j + 16 : Nat) : Int)) (x_add rfl e29 rfl (by omega)) (int_eq (by omega))
    apply BuildL.det 31 (fun l w => by split; exact Ext.refl _; exact True.intro) (fun l w h => h) (by rfl) (by rw [k.size]; rfl) rfl
    case h =>   -- 9: t31 := Op.slice 9 (tmp 27) (some (tmp 28)) (some (tmp 30)) none
      intro lx ax wx hE hR hF
      have e27 : ax.eval (.tmp 27) = _ := hF 5 (detL 5 27 _) (by decide) (.tail _ (.tail _ (.tail _ (.head _))))
      have e28 : ax.eval (.tmp 28) = _ := hF 6 (detL 6 28 _) (by decide) (.tail _ (.tail _ (.head _)))
      have e30 : ax.eval (.tmp 30) = _ := hF 8 (detL 8 30 _) (by decide) (.head _)
      exact x_val (v := .string (sB (secOf l j))) (x_cut_both (a := 16 * j) (b := 16 * j + 16) Try.underlying9 rfl e27 e28 e30 (by omega) (by omega)) (by rw [secOf_cut])
    refine BuildL.new 32 (fun v w => v = .slice (some ⟨gs1, 0, none⟩) 1 1) (fun l v w w' _ _ h => h) (by rfl) (by rw [k.size]; rfl) rfl ?_ ?_
    · intro lx ax wx hE hR hl hA hF
      have e31 : ax.eval (.tmp 31) = _ := hF 9 (detL 9 31 _) (by decide) (.head _)
      exact app_build hR hl (by decide) (by simp [go_sem, BigFrame.eval_const, BigFrame.eval_global, BigFrame.eval_func, ↓IntWalk.iteOmega, ev e31])
    refine BuildL.new 33 (fun v_ w_ => OwnT H A0 (tRow 9 1 v_ (j + 1) ((strsV (secsL l j)) ++ [Value.string (sB (secOf l j))]) :: tBlk gs1 9 #[Value.string (sB (secOf l j))] :: (tRow 9 1 (.slice B2 j c2) j (strsV (secsL l j))) :: (tRow 4 1 (.slice B3 j c3) j (boolsV (List.replicate j false))) :: (tBlk ub 80 #[.slice B1 j c1, .slice B2 j c2, .slice B3 j c3]) :: R) w_) (fun l_ v_ w_ w_' hl hR h => by rw [if_pos hl] at hR; exact h.ext hR) (by rfl) (by rw [k.size]; rfl) rfl ?_ ?_
    · intro lx ax wx hE hR hl hA hF
      have e26 : ax.eval (.tmp 26) = _ := hF 4 (detL 4 26 _) (by decide) (.tail _ (.tail _ (.tail _ (.tail _ (.tail _ (.tail _ (.head _)))))))
      have f32 := hF 10 _ (by decide) (.head _)
      exact app_grow hR hl (hA 10 (by decide)) (by decide) elemS (by decide) rfl (by intro u hu; simp at hu; subst hu; rfl) (by unfold maxLen; omega) (by omega) (fun r w' h => x_append rfl e26 f32 h)
    apply BuildL.det 34 (fun l w => by split; exact Ext.refl _; exact True.intro) (fun l w h => h) (by rfl) (by rw [k.size]; rfl) rfl
    case h =>   -- 12: t34 := Op.nilCheck (tmp 22)
      intro lx ax wx hE hR hF
      have e22 : ax.eval (.tmp 22) = _ := hF 0 (detL 0 22 _) (by decide) (.tail _ (.tail _ (.tail _ (.tail _ (.tail _ (.tail _ (.tail _ (.tail _ (.tail _ (.tail _ (.tail _ (.head _))))))))))))
      exact x_nil rfl e22
    apply BuildL.det 35 (fun l w => by split; exact Ext.refl _; exact True.intro) (fun l w h => h) (by rfl) (by rw [k.size]; rfl) rfl
    case h =>   -- 13: t35 := Op.fieldAddr 80 (tmp 34) 0
      intro lx ax wx hE hR hF
      have e34 : ax.eval (.tmp 34) = _ := hF 12 (detL 12 34 _) (by decide) (.head _)
      simp [go_sem, BigFrame.eval_const, BigFrame.eval_global, BigFrame.eval_func, ↓IntWalk.iteOmega, ev e34]
      with_reducible rfl
    apply BuildL.stop
    refine ⟨by kernel_rfl, ?_⟩
    clear O
    intro lx a23 w24 hE RI hL hF
    clear RI
    have f33 := hF 11 _ (.tail _ (.tail _ (.head _)))
    have e35 : a23.eval (.tmp 35) = _ := hF 13 (detL 13 35 _) (.head _)
    clear hF hL
    obtain ⟨vr, e33, O⟩ : ∃ v', a23.eval (.tmp 33) = v' ∧ OwnT H A0 (tRow 9 1 v' (j + 1) ((strsV (secsL l j)) ++ [Value.string (sB (secOf l j))]) :: tBlk gs1 9 #[Value.string (sB (secOf l j))] :: (tRow 9 1 (.slice B2 j c2) j (strsV (secsL l j))) :: (tRow 4 1 (.slice B3 j c3) j (boolsV (List.replicate j false))) :: (tBlk ub 80 #[.slice B1 j c1, .slice B2 j c2, .slice B3 j c3]) :: R) w24 := ⟨_, rfl, f33⟩
    clear f33
    obtain ⟨gr1, d1, rfl⟩ := OwnT.slice0 O (by omega)
    replace O := OwnT.pick01 O
    simp only [List.length_cons, List.length_nil, Nat.zero_add, Nat.reduceAdd, List.drop_succ_cons, List.drop_zero, List.drop_nil, tailOps]
    show Oper.wp _ _ _ _ _ _
    have q0 : w24.cell? ⟨ub, 0, none⟩ = some (.slice B1 j c1) := (OwnT.blk O 3 rfl).cell 0
    have q1 : w24.frozen? ⟨ub, 0, none⟩ = false := (OwnT.blk O 3 rfl).frozen 0
    refine last_store (off := 0) (v := .slice (some ⟨gr1, 0, none⟩) ((j + 1)) d1) O 3 rfl rfl (by simp [go_sem, BigFrame.eval_const, BigFrame.eval_global, BigFrame.eval_func, ↓IntWalk.iteOmega, ev e33, ev e35, q0, q1]) ?_
    clear q0 q1
    clear O
    intro w25 O
    replace O : OwnT _ _ ((tRow 9 1 (.slice (some ⟨gr1, 0, none⟩) ((j + 1)) d1) (j + 1) ((strsV (secsL l j)) ++ [Value.string (sB (secOf l j))])) :: (tRow 9 1 (.slice B2 j c2) j (strsV (secsL l j))) :: (tRow 4 1 (.slice B3 j c3) j (boolsV (List.replicate j false))) :: (tBlk ub 80 #[.slice (some ⟨gr1, 0, none⟩) ((j + 1)) d1, .slice B2 j c2, .slice B3 j c3]) :: R) w25 := O
    replace e0 := hE.eval 0 (by rfl) e0
    replace e3 := hE.eval 3 (by rfl) e3
    replace e4 := hE.eval 4 (by rfl) e4
    replace k := k.env hE
    clear hE e19 e33 e35
    refine then_n ?_
    replace O := OwnT.turn3 O
    replace O : OwnT _ _ ((tRow 9 1 (.slice B2 j c2) j (strsV (secsL l j))) :: (tRow 4 1 (.slice B3 j c3) j (boolsV (List.replicate j false))) :: (tRow 9 1 (.slice (some ⟨gr1, 0, none⟩) ((j + 1)) d1) (j + 1) ((strsV (secsL l j)) ++ [Value.string (sB (secOf l j))])) :: (tBlk ub 80 #[.slice (some ⟨gr1, 0, none⟩) ((j + 1)) d1, .slice B2 j c2, .slice B3 j c3]) :: R) w25 := O
    refine wp_seq ?_
    obtain ⟨gs2, hgs2⟩ : ∃ z, w25.heap.size = z := ⟨_, rfl⟩
    refine wp_phasedL (fun l_ w_ w_' => if l_ 11 = true then Ext w_ w_' else True) (fun l_ w_ => AppI _ _ 9 1 (.slice B2 j c2) j (strsV (secsL l j)) gs2 [Value.string (sB (secOf l j))] ((tRow 4 1 (.slice B3 j c3) j (boolsV (List.replicate j false))) :: (tRow 9 1 (.slice (some ⟨gr1, 0, none⟩) ((j + 1)) d1) (j + 1) ((strsV (secsL l j)) ++ [Value.string (sB (secOf l j))])) :: (tBlk ub 80 #[.slice (some ⟨gr1, 0, none⟩) ((j + 1)) d1, .slice B2 j c2, .slice B3 j c3]) :: R) (l_ 10) (l_ 11) w_) [[], [], [1], [1, 2], [1, 2, 3], [], [], [], [7], [5, 6, 7, 8], [5, 6, 7, 8, 9], [1, 2, 3, 4, 5, 6, 7, 8, 9, 10], [0, 1, 2, 3, 4, 5, 6, 7, 8, 9, 10, 11], [0, 1, 2, 3, 4, 5, 6, 7, 8, 9, 10, 11, 12], [0, 1, 2, 3, 4, 5, 6, 7, 8, 9, 10, 11, 12, 13]] [36, 37, 38, 39, 40, 41, 42, 43, 44, 45, 46, 47, 48, 49] (fun l w => by split; exact Ext.refl _; exact True.intro) (by rw [← hgs2]; exact AppI.start O) (by kernel_rfl) ?_   -- region 6
    apply BuildL.det 36 (fun l w => by split; exact Ext.refl _; exact True.intro) (fun l w h => h) (by rfl) (by rw [k.size]; rfl) rfl
    case h =>   -- 0: t36 := Op.move (tmp 3)
      intro lx ax wx hE hR hF
      exact x_move rfl (hE.eval 3 (by rfl) e3)
    apply BuildL.det 37 (fun l w => by split; exact Ext.refl _; exact True.intro) (fun l w h => h) (by rfl) (by rw [k.size]; rfl) rfl
    case h =>   -- 1: t37 := Op.move (tmp 3)
      intro lx ax wx hE hR hF
      exact x_move rfl (hE.eval 3 (by rfl) e3)
    apply BuildL.det 38 (fun l w => by split; exact Ext.refl _; exact True.intro) (fun l w h => h) (by rfl) (by rw [k.size]; rfl) rfl
    case h =>   -- 2: t38 := Op.nilCheck (tmp 37)
      intro lx ax wx hE hR hF
      have e37 : ax.eval (.tmp 37) = _ := hF 1 (detL 1 37 _) (by decide) (.head _)
      exact x_nil rfl e37
    apply BuildL.det 39 (fun l w => by split; exact Ext.refl _; exact True.intro) (fun l w h => h) (by rfl) (by rw [k.size]; rfl) rfl
    case h =>   -- 3: t39 := Op.fieldAddr 80 (tmp 38) 1
      intro lx ax wx hE hR hF
      have e38 : ax.eval (.tmp 38) = _ := hF 2 (detL 2 38 _) (by decide) (.head _)
      simp [go_sem, BigFrame.eval_const, BigFrame.eval_global, BigFrame.eval_func, ↓IntWalk.iteOmega, ev e38]
      with_reducible rfl
    apply BuildL.det 40 (fun l w => by split; exact Ext.refl _; exact True.intro) (fun l w h => h) (by rfl) (by rw [k.size]; rfl) rfl
    case h =>   -- 4: t40 := Op.load 77 (tmp 39)
      intro lx ax wx hE hR hF
      have e39 : ax.eval (.tmp 39) = _ := hF 3 (detL 3 39 _) (by decide) (.head _)
      have q0 : wx.cell? ⟨ub, 1, none⟩ = some (.slice B2 j c2) := (OwnT.blk (AppI.own hR) 2 rfl).cell 1
      simp [go_sem, BigFrame.eval_const, BigFrame.eval_global, BigFrame.eval_func, ↓IntWalk.iteOmega, ev e39, q0]
      with_reducible rfl
    apply BuildL.det 41 (fun l w => by split; exact Ext.refl _; exact True.intro) (fun l w h => h) (by rfl) (by rw [k.size]; rfl) rfl
    case h =>   -- 5: t41 := Op.move (tmp 0)
      intro lx ax wx hE hR hF
      exact x_move rfl (hE.eval 0 (by rfl) e0)
    apply BuildL.det 42 (fun l w => by split; exact Ext.refl _; exact True.intro) (fun l w h => h) (by rfl) (by rw [k.size]; rfl) rfl
    case h =>   -- 6: t42 := Op.move (tmp 4)
      intro lx ax wx hE hR hF
      exact x_move rfl (hE.eval 4 (by rfl) e4)
    apply BuildL.det 43 (fun l w => by split; exact Ext.refl _; exact True.intro) (fun l w h => h) (by rfl) (by rw [k.size]; rfl) rfl
    case h =>   -- 7: t43 := Op.move (tmp 4)
      intro lx ax wx hE hR hF
      exact x_move rfl (hE.eval 4 (by rfl) e4)
    apply BuildL.det 44 (fun l w => by split; exact Ext.refl _; exact True.intro) (fun l w h => h) (by rfl) (by rw [k.size]; rfl) rfl
    case h =>   -- 8: t44 := Op.binOp BinOp.add 3 (tmp 43) (const (Value.int IntKind.i64 16)) 3
      intro lx ax wx hE hR hF
      have e43 : ax.eval (.tmp 43) = _ := hF 7 (detL 7 43 _) (by decide) (.head _)
      exact x_val (v := .int .i64 ((16 * j + 16 : Nat) : Int)) (x_add rfl e43 rfl (by omega)) (int_eq (by omega))
    apply BuildL.det 45 (fun l w => by split; exact Ext.refl _; exact True.intro) (fun l w h => h) (by rfl) (by rw [k.size]; rfl) rfl
    case h =>   -- 9: t45 := Op.slice 9 (tmp 41) (some (tmp 42)) (some (tmp 44)) none
      intro lx ax wx hE hR hF
      have e41 : ax.eval (.tmp 41) = _ := hF 5 (detL 5 41 _) (by decide) (.tail _ (.tail _ (.tail _ (.head _))))
      have e42 : ax.eval (.tmp 42) = _ := hF 6 (detL 6 42 _) (by decide) (.tail _ (.tail _ (.head _)))
      have e44 : ax.eval (.tmp 44) = _ := hF 8 (detL 8 44 _) (by decide) (.head _)
      exact x_val (v := .string (sB (secOf l j))) (x_cut_both (a := 16 * j) (b := 16 * j + 16) Try.underlying9 rfl e41 e42 e44 (by omega) (by omega)) (by rw [secOf_cut])
    refine BuildL.new 46 (fun v w => v = .slice (some ⟨gs2, 0, none⟩) 1 1) (fun l v w w' _ _ h => h) (by rfl) (by rw [k.size]; rfl) rfl ?_ ?_
    · intro lx ax wx hE hR hl hA hF
      have e45 : ax.eval (.tmp 45) = _ := hF 9 (detL 9 45 _) (by decide) (.head _)
      exact app_build hR hl (by decide) (by simp [go_sem, BigFrame.eval_const, BigFrame.eval_global, BigFrame.eval_func, ↓IntWalk.iteOmega, ev e45])
    refine BuildL.new 47 (fun v_ w_ => OwnT H A0 (tRow 9 1 v_ (j + 1) ((strsV (secsL l j)) ++ [Value.string (sB (secOf l j))]) :: tBlk gs2 9 #[Value.string (sB (secOf l j))] :: (tRow 4 1 (.slice B3 j c3) j (boolsV (List.replicate j false))) :: (tRow 9 1 (.slice (some ⟨gr1, 0, none⟩) ((j + 1)) d1) (j + 1) ((strsV (secsL l j)) ++ [Value.string (sB (secOf l j))])) :: (tBlk ub 80 #[.slice (some ⟨gr1, 0, none⟩) ((j + 1)) d1, .slice B2 j c2, .slice B3 j c3]) :: R) w_) (fun l_ v_ w_ w_' hl hR h => by rw [if_pos hl] at hR; exact h.ext hR) (by rfl) (by rw [k.size]; rfl) rfl ?_ ?_
    · intro lx ax wx hE hR hl hA hF
      have e40 : ax.eval (.tmp 40) = _ := hF 4 (detL 4 40 _) (by decide) (.tail _ (.tail _ (.tail _ (.tail _ (.tail _ (.tail _ (.head _)))))))
      have f46 := hF 10 _ (by decide) (.head _)
      exact app_grow hR hl (hA 10 (by decide)) (by decide) elemS (by decide) rfl (by intro u hu; simp at hu; subst hu; rfl) (by unfold maxLen; omega) (by omega) (fun r w' h => x_append rfl e40 f46 h)
    apply BuildL.det 48 (fun l w => by split; exact Ext.refl _; exact True.intro) (fun l w h => h) (by rfl) (by rw [k.size]; rfl) rfl
    case h =>   -- 12: t48 := Op.nilCheck (tmp 36)
      intro lx ax wx hE hR hF
      have e36 : ax.eval (.tmp 36) = _ := hF 0 (detL 0 36 _) (by decide) (.tail _ (.tail _ (.tail _ (.tail _ (.tail _ (.tail _ (.tail _ (.tail _ (.tail _ (.tail _ (.tail _ (.head _))))))))))))
      exact x_nil rfl e36
    apply BuildL.det 49 (fun l w => by split; exact Ext.refl _; exact True.intro) (fun l w h => h) (by rfl) (by rw [k.size]; rfl) rfl
    case h =>   -- 13: t49 := Op.fieldAddr 80 (tmp 48) 1
      intro lx ax wx hE hR hF
      have e48 : ax.eval (.tmp 48) = _ := hF 12 (detL 12 48 _) (by decide) (.head _)
      simp [go_sem, BigFrame.eval_const, BigFrame.eval_global, BigFrame.eval_func, ↓IntWalk.iteOmega, ev e48]
      with_reducible rfl
    apply BuildL.stop
    refine ⟨by kernel_rfl, ?_⟩
    clear O
    intro lx a26 w27 hE RI hL hF
    clear RI
    have f47 := hF 11 _ (.tail _ (.tail _ (.head _)))
    have e49 : a26.eval (.tmp 49) = _ := hF 13 (detL 13 49 _) (.head _)
    clear hF hL
    obtain ⟨vr, e47, O⟩ : ∃ v', a26.eval (.tmp 47) = v' ∧ OwnT H A0 (tRow 9 1 v' (j + 1) ((strsV (secsL l j)) ++ [Value.string (sB (secOf l j))]) :: tBlk gs2 9 #[Value.string (sB (secOf l j))] :: (tRow 4 1 (.slice B3 j c3) j (boolsV (List.replicate j false))) :: (tRow 9 1 (.slice (some ⟨gr1, 0, none⟩) ((j + 1)) d1) (j + 1) ((strsV (secsL l j)) ++ [Value.string (sB (secOf l j))])) :: (tBlk ub 80 #[.slice (some ⟨gr1, 0, none⟩) ((j + 1)) d1, .slice B2 j c2, .slice B3 j c3]) :: R) w27 := ⟨_, rfl, f47⟩
    clear f47
    obtain ⟨gr2, d2, rfl⟩ := OwnT.slice0 O (by omega)
    replace O := OwnT.pick01 O
    simp only [List.length_cons, List.length_nil, Nat.zero_add, Nat.reduceAdd, List.drop_succ_cons, List.drop_zero, List.drop_nil, tailOps]
    show Oper.wp _ _ _ _ _ _
    have q0 : w27.cell? ⟨ub, 1, none⟩ = some (.slice B2 j c2) := (OwnT.blk O 3 rfl).cell 1
    have q1 : w27.frozen? ⟨ub, 1, none⟩ = false := (OwnT.blk O 3 rfl).frozen 1
    refine last_store (off := 1) (v := .slice (some ⟨gr2, 0, none⟩) ((j + 1)) d2) O 3 rfl rfl (by simp [go_sem, BigFrame.eval_const, BigFrame.eval_global, BigFrame.eval_func, ↓IntWalk.iteOmega, ev e47, ev e49, q0, q1]) ?_
    clear q0 q1
    clear O
    intro w28 O
    replace O : OwnT _ _ ((tRow 9 1 (.slice (some ⟨gr2, 0, none⟩) ((j + 1)) d2) (j + 1) ((strsV (secsL l j)) ++ [Value.string (sB (secOf l j))])) :: (tRow 4 1 (.slice B3 j c3) j (boolsV (List.replicate j false))) :: (tRow 9 1 (.slice (some ⟨gr1, 0, none⟩) ((j + 1)) d1) (j + 1) ((strsV (secsL l j)) ++ [Value.string (sB (secOf l j))])) :: (tBlk ub 80 #[.slice (some ⟨gr1, 0, none⟩) ((j + 1)) d1, .slice (some ⟨gr2, 0, none⟩) ((j + 1)) d2, .slice B3 j c3]) :: R) w28 := O
    replace e0 := hE.eval 0 (by rfl) e0
    replace e3 := hE.eval 3 (by rfl) e3
    replace e4 := hE.eval 4 (by rfl) e4
    replace k := k.env hE
    clear hE e47 e49
    refine then_n ?_
    replace O := OwnT.turn3 O
    replace O : OwnT _ _ ((tRow 4 1 (.slice B3 j c3) j (boolsV (List.replicate j false))) :: (tRow 9 1 (.slice (some ⟨gr1, 0, none⟩) ((j + 1)) d1) (j + 1) ((strsV (secsL l j)) ++ [Value.string (sB (secOf l j))])) :: (tRow 9 1 (.slice (some ⟨gr2, 0, none⟩) ((j + 1)) d2) (j + 1) ((strsV (secsL l j)) ++ [Value.string (sB (secOf l j))])) :: (tBlk ub 80 #[.slice (some ⟨gr1, 0, none⟩) ((j + 1)) d1, .slice (some ⟨gr2, 0, none⟩) ((j + 1)) d2, .slice B3 j c3]) :: R) w28 := O
    refine wp_region_lit ?_   -- region 7
    have hE := Env.refl a26 [50, 51, 52, 53, 54, 55, 56, 57, 58]
    apply sq_det 50 hE k rfl (by rfl) (by rfl) rfl
    case h =>   -- 0: t50 := Op.move (tmp 3)
      exact x_move rfl (hE.eval 3 (by rfl) e3)
    intro a29 hE e50 kp
    apply sq_det 51 hE k rfl (by rfl) (by rfl) rfl
    case h =>   -- 1: t51 := Op.move (tmp 3)
      exact x_move rfl (hE.eval 3 (by rfl) e3)
    intro a30 hE e51 kp
    replace e50 := (kp 50 rfl).trans e50
    apply sq_det 52 hE k rfl (by rfl) (by rfl) rfl
    case h =>   -- 2: t52 := Op.nilCheck (tmp 51)
      exact x_nil rfl e51
    intro a31 hE e52 kp
    replace e50 := (kp 50 rfl).trans e50
    apply sq_det 53 hE k rfl (by rfl) (by rfl) rfl
    case h =>   -- 3: t53 := Op.fieldAddr 80 (tmp 52) 2
      simp [go_sem, BigFrame.eval_const, BigFrame.eval_global, BigFrame.eval_func, ↓IntWalk.iteOmega, ev e52]
      with_reducible rfl
    intro a32 hE e53 kp
    replace e50 := (kp 50 rfl).trans e50
    apply sq_det 54 hE k rfl (by rfl) (by rfl) rfl
    case h =>   -- 4: t54 := Op.load 78 (tmp 53)
      have q0 : w28.cell? ⟨ub, 2, none⟩ = some (.slice B3 j c3) := (OwnT.blk O 3 rfl).cell 2
      simp [go_sem, BigFrame.eval_const, BigFrame.eval_global, BigFrame.eval_func, ↓IntWalk.iteOmega, ev e53, q0]
      with_reducible rfl
    intro a33 hE e54 kp
    replace e50 := (kp 50 rfl).trans e50
    refine sq_news (m := 1) (c := 1) O (cs := #[.bool false]) (t := 4) 55 hE k rfl (by rfl) (by rfl) rfl (by simp [go_sem, BigFrame.eval_const, BigFrame.eval_global, BigFrame.eval_func, ↓IntWalk.iteOmega]) ?_
    clear O
    intro gs3 a34 w35 O hE e55 kp
    replace e50 := (kp 50 rfl).trans e50
    replace e54 := (kp 54 rfl).trans e54
    obtain ⟨gr3, d3, w36, hrun, O⟩ := app_seq O elemB (by decide) rfl (by intro u hu; simp at hu; subst hu; rfl) (by unfold maxLen; omega) (by omega)
    apply sq_val 56 hE k rfl (by rfl) (by rfl) rfl
    case h => exact x_append rfl e54 e55 (hrun _)
    clear hrun
    intro a37 hE e56 kp
    replace e50 := (kp 50 rfl).trans e50
    apply sq_det 57 hE k rfl (by rfl) (by rfl) rfl
    case h =>   -- 7: t57 := Op.nilCheck (tmp 50)
      exact x_nil rfl e50
    intro a38 hE e57 kp
    replace e56 := (kp 56 rfl).trans e56
    apply sq_det 58 hE k rfl (by rfl) (by rfl) rfl
    case h =>   -- 8: t58 := Op.fieldAddr 80 (tmp 57) 2
      simp [go_sem, BigFrame.eval_const, BigFrame.eval_global, BigFrame.eval_func, ↓IntWalk.iteOmega, ev e57]
      with_reducible rfl
    intro a39 hE e58 kp
    replace e56 := (kp 56 rfl).trans e56
    have q0 : w36.cell? ⟨ub, 2, none⟩ = some (.slice B3 j c3) := (OwnT.blk O 3 rfl).cell 2
    have q1 : w36.frozen? ⟨ub, 2, none⟩ = false := (OwnT.blk O 3 rfl).frozen 2
    refine sq_store (off := 2) (v := .slice (some ⟨gr3, 0, none⟩) ((j + 1)) d3) O 3 rfl hE rfl rfl (by simp [go_sem, BigFrame.eval_const, BigFrame.eval_global, BigFrame.eval_func, ↓IntWalk.iteOmega, ev e56, ev e58, q0, q1]) ?_
    clear q0 q1
    clear O
    intro w40 O
    replace O : OwnT _ _ ((tRow 4 1 (.slice (some ⟨gr3, 0, none⟩) ((j + 1)) d3) (j + 1) ((boolsV (List.replicate j false)) ++ [Value.bool false])) :: (tRow 9 1 (.slice (some ⟨gr1, 0, none⟩) ((j + 1)) d1) (j + 1) ((strsV (secsL l j)) ++ [Value.string (sB (secOf l j))])) :: (tRow 9 1 (.slice (some ⟨gr2, 0, none⟩) ((j + 1)) d2) (j + 1) ((strsV (secsL l j)) ++ [Value.string (sB (secOf l j))])) :: (tBlk ub 80 #[.slice (some ⟨gr1, 0, none⟩) ((j + 1)) d1, .slice (some ⟨gr2, 0, none⟩) ((j + 1)) d2, .slice (some ⟨gr3, 0, none⟩) ((j + 1)) d3]) :: R) w40 := O
    refine wpList_nil ?_
    replace e0 := hE.eval 0 (by rfl) e0
    replace e3 := hE.eval 3 (by rfl) e3
    replace e4 := hE.eval 4 (by rfl) e4
    replace k := k.env hE
    clear hE e56 e58
    refine block_n ?_
    refine then_n ?_
    replace O := OwnT.turn3 O
    replace O : OwnT _ _ ((tRow 9 1 (.slice (some ⟨gr1, 0, none⟩) ((j + 1)) d1) (j + 1) ((strsV (secsL l j)) ++ [Value.string (sB (secOf l j))])) :: (tRow 9 1 (.slice (some ⟨gr2, 0, none⟩) ((j + 1)) d2) (j + 1) ((strsV (secsL l j)) ++ [Value.string (sB (secOf l j))])) :: (tRow 4 1 (.slice (some ⟨gr3, 0, none⟩) ((j + 1)) d3) (j + 1) ((boolsV (List.replicate j false)) ++ [Value.bool false])) :: (tBlk ub 80 #[.slice (some ⟨gr1, 0, none⟩) ((j + 1)) d1, .slice (some ⟨gr2, 0, none⟩) ((j + 1)) d2, .slice (some ⟨gr3, 0, none⟩) ((j + 1)) d3]) :: R) w40 := O
    refine wp_region_lit ?_   -- region 4
    have hE := Env.refl a39 [20, 21, 4]
    apply sq_det 20 hE k rfl (by rfl) (by rfl) rfl
    case h =>   -- 0: t20 := Op.move (tmp 4)
      exact x_move rfl e4
    intro a41 hE e20 kp
    replace e4 := (kp 4 rfl).trans e4
    apply sq_det 21 hE k rfl (by rfl) (by rfl) rfl
    case h =>   -- 1: t21 := Op.binOp BinOp.add 3 (tmp 20) (const (Value.int IntKind.i64 16)) 3
      exact x_add rfl e20 rfl (by omega)
    intro a42 hE e21 kp
    replace e4 := (kp 4 rfl).trans e4
    replace e21 := e21.trans (int_eq (show ((16 * j : Nat) : Int) + 16 = ((16 * (j + 1) : Nat) : Int) by omega))
    apply sq_det 4 hE k rfl (by rfl) (by rfl) rfl
    case h =>   -- 2: t4 := Op.assign (tmp 21)
      exact x_assign rfl e21
    intro a43 hE e4 kp
    refine wpList_nil ?_
    replace e0 := hE.eval 0 (by rfl) e0
    replace e3 := hE.eval 3 (by rfl) e3
    replace k := k.env hE
    clear hE
    refine then_n ?_
    refine ⟨⟨k, e0, e3, j + 1, some ⟨gr1, 0, none⟩, some ⟨gr2, 0, none⟩, some ⟨gr3, 0, none⟩, d1, d2, d3, e4, by omega, ?_⟩, ?_⟩
    · rw [secsL_succ, strsV_app, List.replicate_succ', show boolsV (List.replicate j false ++ [false]) = boolsV (List.replicate j false) ++ [Value.bool false] by simp [boolsV]]
      exact O
    · rw [e4, mj]; simp only [intOf]; omega
  · skip
    obtain rfl : j = l.length / 16 := by omega
    refine wp_seq ?_
    refine wp_seq ?_
    refine wp_region_lit ?_   -- region 3
    have hE := Env.refl a8 [7, 8, 9, 10, 11, 12, 13, 14, 15, 16, 17, 18, 19]
    apply sq_det 7 hE k rfl (by rfl) (by rfl) rfl
    case h =>   -- 0: t7 := Op.move (tmp 4)
      exact x_move rfl (hE.eval 4 (by rfl) e4)
    intro a44 hE e7 kp
    apply sq_det 8 hE k rfl (by rfl) (by rfl) rfl
    case h =>   -- 1: t8 := Op.binOp BinOp.add 3 (tmp 7) (const (Value.int IntKind.i64 16)) 3
      exact x_add rfl e7 rfl (by omega)
    intro a45 hE e8 kp
    apply sq_det 9 hE k rfl (by rfl) (by rfl) rfl
    case h =>   -- 2: t9 := Op.move (tmp 0)
      exact x_move rfl (hE.eval 0 (by rfl) e0)
    intro a46 hE e9 kp
    replace e8 := (kp 8 rfl).trans e8
    apply sq_det 10 hE k rfl (by rfl) (by rfl) rfl
    case h =>   -- 3: t10 := Op.call {callee := Callee.builtin Builtin.len, args := #[tmp 9], argTy
      exact x_len_l Try.underlying9 rfl e9
    intro a47 hE e10 kp
    replace e8 := (kp 8 rfl).trans e8
    apply sq_det 11 hE k rfl (by rfl) (by rfl) rfl
    case h =>   -- 4: t11 := Op.binOp BinOp.leq 3 (tmp 8) (tmp 10) 3
      exact x_dec (x_leq rfl e8 e10) (decide_eq_false (by omega))
    intro a48 hE e11 kp
    apply sq_det 12 hE k rfl (by rfl) (by rfl) rfl
    case h =>   -- 5: t12 := Op.move (tmp 11)
      exact x_move rfl e11
    intro a49 hE e12 kp
    refine sq_skipg 13 hE k rfl (by rfl) (by rfl) rfl rfl (.inl e12) ?_
    intro a50 hE e13 kp
    replace e12 := (kp 12 rfl).trans e12
    refine sq_skipg 14 hE k rfl (by rfl) (by rfl) rfl rfl (.inl e12) ?_
    intro a51 hE e14 kp
    replace e12 := (kp 12 rfl).trans e12
    refine sq_skipg 15 hE k rfl (by rfl) (by rfl) rfl rfl (.inl e12) ?_
    intro a52 hE e15 kp
    replace e12 := (kp 12 rfl).trans e12
    refine sq_skipg 16 hE k rfl (by rfl) (by rfl) rfl rfl (.inl e12) ?_
    intro a53 hE e16 kp
    replace e12 := (kp 12 rfl).trans e12
    refine sq_skipg 17 hE k rfl (by rfl) (by rfl) rfl rfl (.inl e12) ?_
    intro a54 hE e17 kp
    replace e12 := (kp 12 rfl).trans e12
    refine sq_skipg 18 hE k rfl (by rfl) (by rfl) rfl rfl (.inl e12) ?_
    intro a55 hE e18 kp
    replace e12 := (kp 12 rfl).trans e12
    apply sq_det 19 hE k rfl (by rfl) (by rfl) rfl
    case h =>   -- 12: t19 := Op.pick (tmp 12) (tmp 18) (const (Value.bool false))
      exact x_pick_f rfl e12 rfl
    intro a56 hE e19 kp
    refine wpList_nil ?_
    replace e0 := hE.eval 0 (by rfl) e0
    replace e3 := hE.eval 3 (by rfl) e3
    replace e4 := hE.eval 4 (by rfl) e4
    replace k := k.env hE
    clear hE
    refine then_n ?_
    refine cond_f e19 rfl ?_
    refine wp_exit ?_
    refine then_x ?_
    refine then_x ?_
    refine block_x ?_
    refine then_n ?_
    refine wp_seq ?_
    refine wp_region_lit ?_   -- region 8
    have hE := Env.refl a56 [59, 2]
    apply sq_det 59 hE k rfl (by rfl) (by rfl) rfl
    case h =>   -- 0: t59 := Op.move (tmp 3)
      exact x_move rfl (hE.eval 3 (by rfl) e3)
    intro a57 hE e59 kp
    apply sq_det 2 hE k rfl (by rfl) (by rfl) rfl
    case h =>   -- 1: t2 := Op.assign (tmp 59)
      exact x_assign rfl e59
    intro a58 hE e2 kp
    refine wpList_nil ?_
    replace k := k.env hE
    clear hE e0 e3 e4 e19
    refine then_n ?_
    refine wp_ret ?_
    refine ret_F1 rfl k e2 ?_
    exact ⟨ub, B1, c1, B2, c2, B3, c3, rfl, OwnT.turn4 O⟩
set_option maxRecDepth 100000 in
set_option maxHeartbeats 4000000 in
theorem rlist4_any {ub n c3 : Nat} {B3 : Option Addr} (L : Int → Option Sec) (W0 : World) (c2 : W0.cell? ⟨ub, 2, none⟩ = some (.slice B3 n c3)) (hr : W0.ownsRow 0 4 1 (.slice B3 n c3) n (boolsV (isL n L))) (hn : n ≤ 16384) : Calls Try.prog 46 #[.pointer (some ⟨ub, 0, none⟩)] W0 fun e w' => ∃ B' cap', e = .returned (.slice B' (looL n L).length cap') ∧ Row w' B' 1 encI (looL n L) ∧ Ext W0 w' := by
  have O := OwnT.start W0
  refine calls_F Try.func46 rfl 27 rfl (by rfl) ?_
  intro a1 k hargs
  have e0 : a1.eval (.tmp 0) = .pointer (some ⟨ub, 0, none⟩) := hargs 0 _ rfl
  clear hargs
  refine wp_seq ?_
  refine wp_region_lit ?_   -- region 0
  have hE := Env.refl a1 [2]
  apply sq_det 2 hE k rfl (by rfl) (by rfl) rfl
  case h =>   -- 0: t2 := Op.assign (const (Value.slice none 0 0))
    exact x_assign rfl rfl
  intro a2 hE e2 kp
  refine wpList_nil ?_
  replace e0 := hE.eval 0 (by rfl) e0
  replace k := k.env hE
  clear hE e2
  refine then_n ?_
  refine wp_seq ?_
  refine wp_region_lit ?_   -- region 1
  have hE := Env.refl a2 [5, 3]
  refine sq_news (m := 0) (c := 0) O (cs := #[]) (t := 3) 5 hE k rfl (by rfl) (by rfl) rfl (by simp [go_sem, BigFrame.eval_const, BigFrame.eval_global, BigFrame.eval_func, ↓IntWalk.iteOmega]) ?_
  clear O
  intro g0 a3 w4 O hE e5 kp
  apply sq_det 3 hE k rfl (by rfl) (by rfl) rfl
  case h =>   -- 1: t3 := Op.assign (tmp 5)
    exact x_assign rfl e5
  intro a5 hE e3 kp
  refine wpList_nil ?_
  replace e0 := hE.eval 0 (by rfl) e0
  replace k := k.env hE
  clear hE
  refine then_n ?_
  replace O := OwnT.asRow0 (k := 1) O
  refine wp_seq ?_
  refine wp_seq ?_
  refine wp_region_lit ?_   -- region 2
  have hE := Env.refl a5 [4]
  apply sq_det 4 hE k rfl (by rfl) (by rfl) rfl
  case h =>   -- 0: t4 := Op.assign (const (Value.int IntKind.i64 0))
    exact x_assign rfl rfl
  intro a6 hE e4 kp
  refine wpList_nil ?_
  replace e0 := hE.eval 0 (by rfl) e0
  replace e3 := hE.eval 3 (by rfl) e3
  replace k := k.env hE
  clear hE
  refine then_n ?_
  refine wp_block ?_
  refine wp_loop (fun a w => Fr 27 a ∧ a.eval (.tmp 0) = .pointer (some ⟨ub, 0, none⟩) ∧ ∃ (j : Nat) (B : Option Addr) (cap : Nat), a.eval (.tmp 3) = .slice B ((looL j L).length) cap ∧ a.eval (.tmp 4) = .int .i64 ↑j ∧ j ≤ n ∧ OwnT W0.heap.size W0 [tRow 3 1 (.slice B ((looL j L).length) cap) ((looL j L).length) ((looL j L).flatMap encI)] w) (fun a w => n - (intOf (a.eval (.tmp 4))).toNat) ?_ ?_
  · exact ⟨k, e0, 0, some ⟨g0, 0, none⟩, 0, e3, e4, Nat.zero_le _, O⟩
  intro a7 w8 hI
  clear k e0
  obtain ⟨k, e0, h_⟩ := hI
  clear O e3 e4
  obtain ⟨j, B, cap, e3, e4, hj, O⟩ := h_
  have mj := e4
  have hcl : (looL j L).length ≤ j := riseN_le j _
  refine wp_seq ?_
  refine wp_seq ?_
  refine wp_region_lit ?_   -- region 3
  have hE := Env.refl a7 [6, 7, 8, 9, 10, 11, 12]
  apply sq_det 6 hE k rfl (by rfl) (by rfl) rfl
  case h =>   -- 0: t6 := Op.move (tmp 4)
    exact x_move rfl (hE.eval 4 (by rfl) e4)
  intro a9 hE e6 kp
  apply sq_det 7 hE k rfl (by rfl) (by rfl) rfl
  case h =>   -- 1: t7 := Op.move (tmp 0)
    exact x_move rfl (hE.eval 0 (by rfl) e0)
  intro a10 hE e7 kp
  replace e6 := (kp 6 rfl).trans e6
  apply sq_det 8 hE k rfl (by rfl) (by rfl) rfl
  case h =>   -- 2: t8 := Op.nilCheck (tmp 7)
    exact x_nil rfl e7
  intro a11 hE e8 kp
  replace e6 := (kp 6 rfl).trans e6
  apply sq_det 9 hE k rfl (by rfl) (by rfl) rfl
  case h =>   -- 3: t9 := Op.fieldAddr 80 (tmp 8) 2
    simp [go_sem, BigFrame.eval_const, BigFrame.eval_global, BigFrame.eval_func, ↓IntWalk.iteOmega, ev e8]
    with_reducible rfl
  intro a12 hE e9 kp
  replace e6 := (kp 6 rfl).trans e6
  apply sq_det 10 hE k rfl (by rfl) (by rfl) rfl
  case h =>   -- 4: t10 := Op.load 78 (tmp 9)
    have c2' := cellB O.below c2
    simp [go_sem, BigFrame.eval_const, BigFrame.eval_global, BigFrame.eval_func, ↓IntWalk.iteOmega, ev e9, c2']
    with_reducible rfl
  intro a13 hE e10 kp
  replace e6 := (kp 6 rfl).trans e6
  apply sq_det 11 hE k rfl (by rfl) (by rfl) rfl
  case h =>   -- 5: t11 := Op.call {callee := Callee.builtin Builtin.len, args := #[tmp 10], argT
    exact x_len Try.underlying78 rfl e10
  intro a14 hE e11 kp
  replace e6 := (kp 6 rfl).trans e6
  apply sq_det 12 hE k rfl (by rfl) (by rfl) rfl
  case h =>   -- 6: t12 := Op.binOp BinOp.lss 3 (tmp 6) (tmp 11) 3
    exact x_lss rfl e6 e11
  intro a15 hE e12 kp
  refine wpList_nil ?_
  replace e0 := hE.eval 0 (by rfl) e0
  replace e3 := hE.eval 3 (by rfl) e3
  replace e4 := hE.eval 4 (by rfl) e4
  replace k := k.env hE
  clear hE
  refine then_n ?_
  by_cases hlt : j < n
  · have hltI : (j : Int) < (n : Int) := by omega
    refine cond_t e12 (congrArg Value.bool (decide_eq_true (by omega))) ?_
    clear e12
    obtain ⟨g3, z3, h3, -⟩ := row1_some hr (by omega)
    injection h3 with h3 _ h3'
    subst h3 h3'
    have cb0 : W0.cell? ⟨g3, j, none⟩ = some (.bool (L j).isSome) := (row1_cell hr (i := j) (v := .bool (L j).isSome) (by simp only [boolsV, List.getElem?_map, isL_at hlt, Option.map_some])).1
    
    cases hL : L j with
    | none =>
      rw [hL] at cb0
      refine wp_skip ?_
      refine then_n ?_
      refine wp_seq ?_
      refine wp_block ?_
      refine wp_seq ?_
      refine wp_region_lit ?_   -- region 5
      have hE := Env.refl a15 [15, 16, 17, 18, 19, 20, 21]
      apply sq_det 15 hE k rfl (by rfl) (by rfl) rfl
      case h =>   -- 0: t15 := Op.move (tmp 0)
        exact x_move rfl (hE.eval 0 (by rfl) e0)
      intro a16 hE e15 kp
      apply sq_det 16 hE k rfl (by rfl) (by rfl) rfl
      case h =>   -- 1: t16 := Op.nilCheck (tmp 15)
        exact x_nil rfl e15
      intro a17 hE e16 kp
      apply sq_det 17 hE k rfl (by rfl) (by rfl) rfl
      case h =>   -- 2: t17 := Op.fieldAddr 80 (tmp 16) 2
        simp [go_sem, BigFrame.eval_const, BigFrame.eval_global, BigFrame.eval_func, ↓IntWalk.iteOmega, ev e16]
        with_reducible rfl
      intro a18 hE e17 kp
      apply sq_det 18 hE k rfl (by rfl) (by rfl) rfl
      case h =>   -- 3: t18 := Op.load 78 (tmp 17)
        have c2' := cellB O.below c2
        simp [go_sem, BigFrame.eval_const, BigFrame.eval_global, BigFrame.eval_func, ↓IntWalk.iteOmega, ev e17, c2']
        with_reducible rfl
      intro a19 hE e18 kp
      apply sq_det 19 hE k rfl (by rfl) (by rfl) rfl
      case h =>   -- 4: t19 := Op.move (tmp 4)
        exact x_move rfl (hE.eval 4 (by rfl) e4)
      intro a20 hE e19 kp
      replace e18 := (kp 18 rfl).trans e18
      apply sq_det 20 hE k rfl (by rfl) (by rfl) rfl
      case h =>   -- 5: t20 := Op.indexAddr 78 (tmp 18) (tmp 19)
        simp [go_sem, BigFrame.eval_const, BigFrame.eval_global, BigFrame.eval_func, ↓IntWalk.iteOmega, ev e18, ev e19]
        with_reducible rfl
      intro a21 hE e20 kp
      apply sq_det 21 hE k rfl (by rfl) (by rfl) rfl
      case h =>   -- 6: t21 := Op.load 4 (tmp 20)
        have cb := cellB O.below cb0
        simp [go_sem, BigFrame.eval_const, BigFrame.eval_global, BigFrame.eval_func, ↓IntWalk.iteOmega, ev e20, cb]
        with_reducible rfl
      intro a22 hE e21 kp
      refine wpList_nil ?_
      replace e0 := hE.eval 0 (by rfl) e0
      replace e3 := hE.eval 3 (by rfl) e3
      replace e4 := hE.eval 4 (by rfl) e4
      replace k := k.env hE
      clear hE
      refine then_n ?_
      refine cond_f e21 rfl ?_
      refine wp_skip ?_
      refine block_n ?_
      refine then_n ?_
      refine wp_region_lit ?_   -- region 4
      have hE := Env.refl a22 [13, 14, 4]
      apply sq_det 13 hE k rfl (by rfl) (by rfl) rfl
      case h =>   -- 0: t13 := Op.move (tmp 4)
        exact x_move rfl e4
      intro a23 hE e13 kp
      replace e4 := (kp 4 rfl).trans e4
      apply sq_det 14 hE k rfl (by rfl) (by rfl) rfl
      case h =>   -- 1: t14 := Op.binOp BinOp.add 3 (tmp 13) (const (Value.int IntKind.i64 1)) 3
        exact x_add rfl e13 rfl (by omega)
      intro a24 hE e14 kp
      replace e4 := (kp 4 rfl).trans e4
      apply sq_det 4 hE k rfl (by rfl) (by rfl) rfl
      case h =>   -- 2: t4 := Op.assign (tmp 14)
        exact x_assign rfl e14
      intro a25 hE e4 kp
      refine wpList_nil ?_
      replace e0 := hE.eval 0 (by rfl) e0
      replace e3 := hE.eval 3 (by rfl) e3
      replace k := k.env hE
      clear hE e21
      refine then_n ?_
      rw [show (looL j L) = looL (j + 1) L by rw [looL_succ, hL]; simp] at e3 O
      refine ⟨⟨k, e0, j + 1, B, cap, e3, e4, by omega, O⟩, ?_⟩
      rw [e4, mj]; simp only [intOf]; omega
    | some s =>
      rw [hL] at cb0
      refine wp_skip ?_
      refine then_n ?_
      refine wp_seq ?_
      refine wp_block ?_
      refine wp_seq ?_
      refine wp_region_lit ?_   -- region 5
      have hE := Env.refl a15 [15, 16, 17, 18, 19, 20, 21]
      apply sq_det 15 hE k rfl (by rfl) (by rfl) rfl
      case h =>   -- 0: t15 := Op.move (tmp 0)
        exact x_move rfl (hE.eval 0 (by rfl) e0)
      intro a26 hE e15 kp
      apply sq_det 16 hE k rfl (by rfl) (by rfl) rfl
      case h =>   -- 1: t16 := Op.nilCheck (tmp 15)
        exact x_nil rfl e15
      intro a27 hE e16 kp
      apply sq_det 17 hE k rfl (by rfl) (by rfl) rfl
      case h =>   -- 2: t17 := Op.fieldAddr 80 (tmp 16) 2
        simp [go_sem, BigFrame.eval_const, BigFrame.eval_global, BigFrame.eval_func, ↓IntWalk.iteOmega, ev e16]
        with_reducible rfl
      intro a28 hE e17 kp
      apply sq_det 18 hE k rfl (by rfl) (by rfl) rfl
      case h =>   -- 3: t18 := Op.load 78 (tmp 17)
        have c2' := cellB O.below c2
        simp [go_sem, BigFrame.eval_const, BigFrame.eval_global, BigFrame.eval_func, ↓IntWalk.iteOmega, ev e17, c2']
        with_reducible rfl
      intro a29 hE e18 kp
      apply sq_det 19 hE k rfl (by rfl) (by rfl) rfl
      case h =>   -- 4: t19 := Op.move (tmp 4)
        exact x_move rfl (hE.eval 4 (by rfl) e4)
      intro a30 hE e19 kp
      replace e18 := (kp 18 rfl).trans e18
      apply sq_det 20 hE k rfl (by rfl) (by rfl) rfl
      case h =>   -- 5: t20 := Op.indexAddr 78 (tmp 18) (tmp 19)
        simp [go_sem, BigFrame.eval_const, BigFrame.eval_global, BigFrame.eval_func, ↓IntWalk.iteOmega, ev e18, ev e19]
        with_reducible rfl
      intro a31 hE e20 kp
      apply sq_det 21 hE k rfl (by rfl) (by rfl) rfl
      case h =>   -- 6: t21 := Op.load 4 (tmp 20)
        have cb := cellB O.below cb0
        simp [go_sem, BigFrame.eval_const, BigFrame.eval_global, BigFrame.eval_func, ↓IntWalk.iteOmega, ev e20, cb]
        with_reducible rfl
      intro a32 hE e21 kp
      refine wpList_nil ?_
      replace e0 := hE.eval 0 (by rfl) e0
      replace e3 := hE.eval 3 (by rfl) e3
      replace e4 := hE.eval 4 (by rfl) e4
      replace k := k.env hE
      clear hE
      refine then_n ?_
      refine cond_t e21 rfl ?_
      refine wp_region_lit ?_   -- region 6
      have hE := Env.refl a32 [22, 23, 24, 25, 3]
      apply sq_det 22 hE k rfl (by rfl) (by rfl) rfl
      case h =>   -- 0: t22 := Op.move (tmp 3)
        exact x_move rfl e3
      intro a33 hE e22 kp
      replace e3 := (kp 3 rfl).trans e3
      apply sq_det 23 hE k rfl (by rfl) (by rfl) rfl
      case h =>   -- 1: t23 := Op.move (tmp 4)
        exact x_move rfl (hE.eval 4 (by rfl) e4)
      intro a34 hE e23 kp
      replace e3 := (kp 3 rfl).trans e3
      replace e22 := (kp 22 rfl).trans e22
      refine sq_news (m := 1) (c := 1) O (cs := #[.int .i64 ↑j]) (t := 3) 24 hE k rfl (by rfl) (by rfl) rfl (by simp [go_sem, BigFrame.eval_const, BigFrame.eval_global, BigFrame.eval_func, ↓IntWalk.iteOmega, ev e23]) ?_
      clear O
      intro g6 a35 w36 O hE e24 kp
      replace e3 := (kp 3 rfl).trans e3
      replace e22 := (kp 22 rfl).trans e22
      obtain ⟨gr6, d6, w37, hrun, O⟩ := app_seq O elemI (by decide) rfl (by intro u hu; simp at hu; subst hu; rfl) (by unfold maxLen; omega) (by omega)
      apply sq_val 25 hE k rfl (by rfl) (by rfl) rfl
      case h => exact x_append rfl e22 e24 (hrun _)
      clear hrun
      intro a38 hE e25 kp
      replace e3 := (kp 3 rfl).trans e3
      apply sq_det 3 hE k rfl (by rfl) (by rfl) rfl
      case h =>   -- 4: t3 := Op.assign (tmp 25)
        exact x_assign rfl e25
      intro a39 hE e3 kp
      refine wpList_nil ?_
      replace e0 := hE.eval 0 (by rfl) e0
      replace e4 := hE.eval 4 (by rfl) e4
      replace k := k.env hE
      clear hE e21
      refine block_n ?_
      refine then_n ?_
      refine wp_region_lit ?_   -- region 4
      have hE := Env.refl a39 [13, 14, 4]
      apply sq_det 13 hE k rfl (by rfl) (by rfl) rfl
      case h =>   -- 0: t13 := Op.move (tmp 4)
        exact x_move rfl e4
      intro a40 hE e13 kp
      replace e4 := (kp 4 rfl).trans e4
      apply sq_det 14 hE k rfl (by rfl) (by rfl) rfl
      case h =>   -- 1: t14 := Op.binOp BinOp.add 3 (tmp 13) (const (Value.int IntKind.i64 1)) 3
        exact x_add rfl e13 rfl (by omega)
      intro a41 hE e14 kp
      replace e4 := (kp 4 rfl).trans e4
      apply sq_det 4 hE k rfl (by rfl) (by rfl) rfl
      case h =>   -- 2: t4 := Op.assign (tmp 14)
        exact x_assign rfl e14
      intro a42 hE e4 kp
      refine wpList_nil ?_
      replace e0 := hE.eval 0 (by rfl) e0
      replace e3 := hE.eval 3 (by rfl) e3
      replace k := k.env hE
      clear hE
      refine then_n ?_
      have hnx : looL (j + 1) L = looL j L ++ [(j : Int)] := by rw [looL_succ, hL]; rfl
      rw [show (looL j L).length + 1 = (looL (j + 1) L).length by rw [hnx]; simp] at e3 O
      rw [show (looL j L).flatMap encI ++ [Value.int .i64 (j : Int)] = (looL (j + 1) L).flatMap encI by rw [hnx]; simp] at O
      refine ⟨⟨k, e0, j + 1, some ⟨gr6, 0, none⟩, d6, e3, e4, by omega, O⟩, ?_⟩
      rw [e4, mj]; simp only [intOf]; omega
  · have hltI : ¬ (j : Int) < (n : Int) := by omega
    refine cond_f e12 (congrArg Value.bool (decide_eq_false (by omega))) ?_
    clear e0 e4 e12
    obtain rfl : j = n := by omega
    refine wp_exit ?_
    refine then_x ?_
    refine then_x ?_
    refine block_x ?_
    refine then_n ?_
    refine wp_seq ?_
    refine wp_region_lit ?_   -- region 7
    have hE := Env.refl a15 [26, 2]
    apply sq_det 26 hE k rfl (by rfl) (by rfl) rfl
    case h =>   -- 0: t26 := Op.move (tmp 3)
      exact x_move rfl (hE.eval 3 (by rfl) e3)
    intro a43 hE e26 kp
    apply sq_det 2 hE k rfl (by rfl) (by rfl) rfl
    case h =>   -- 1: t2 := Op.assign (tmp 26)
      exact x_assign rfl e26
    intro a44 hE e2 kp
    refine wpList_nil ?_
    replace k := k.env hE
    clear hE e3
    refine then_n ?_
    refine wp_ret ?_
    refine ret_F1 rfl k e2 ?_
    exact ⟨B, cap, rfl, rowE_of (enc := encI) (fun _ => rfl) Nat.one_pos (OwnT.get O 0 rfl : World.ownsRow _ 0 3 1 (.slice B (looL j L).length cap) (looL j L).length ((looL j L).flatMap encI)), O.below⟩
end Go.Proofs.Ytdpohbaeopidmaa
