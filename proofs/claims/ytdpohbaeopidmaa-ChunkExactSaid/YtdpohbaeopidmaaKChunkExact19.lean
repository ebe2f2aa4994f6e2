/- chunk's law: the reference (printed by XChunkR.gen.py). -/
import Derived.Test.YtdpohbaeopidmaaKChunkExact14
import Derived.Test.YtdpohbaeopidmaaKChunkExact18
namespace Go.Proofs.Ytdpohbaeopidmaa
attribute [local simp] BigFrame.eval_const BigFrame.eval_global BigFrame.eval_func
set_option linter.unusedVariables false
set_option linter.unusedSimpArgs false
open Go.RowKit Go.Maps

theorem now_read {S : List Sec} {L : Int → Option Sec} {a y : Nat} (h : a + y ≤ S.length) : (((nowL S L).drop a).take y).flatten = readL S L a y := by
  unfold readL
  congr 1
  apply List.ext_getElem?
  intro i
  by_cases hi : i < y
  · rw [List.getElem?_take_of_lt hi, List.getElem?_drop, nowL_at (by omega)]
    simp [hi]
  · rw [List.getElem?_eq_none (by rw [List.length_take]; omega), List.getElem?_eq_none (by simp; omega)]

set_option maxRecDepth 100000 in
set_option maxHeartbeats 4000000 in
theorem rnew18_any {H : Nat} {A0 : World} {R : List Thing} (l m : List UInt8) (n1 n2 : Nat) (z : Int) (w : World) (O : OwnT H A0 R w) (hl : l.length ≤ 100000) (hm : m.length ≤ 100000) (h1 : l.length / 16 = n1) (h2 : m.length / 16 = n2) : Calls Try.prog 59 #[.string (sB l), .string (sB m), .int .i64 z] w fun e w' => ∃ ub B1 c1 B2 c2, e = .returned (.pointer (some ⟨ub, 0, none⟩)) ∧ OwnT H A0 ((tBlk ub 107 #[.slice B1 n1 c1, .slice B2 n2 c2, .int .i64 z]) :: (tRow 9 1 (.slice B1 n1 c1) n1 (strsV (secsL l n1))) :: (tRow 9 1 (.slice B2 n2 c2) n2 (strsV (secsL m n2))) :: R) w' := by
  refine calls_F Try.func59 rfl 60 rfl (by rfl) ?_
  intro a1 k hargs
  have e0 : a1.eval (.tmp 0) = .string (sB l) := hargs 0 _ rfl
  have e1 : a1.eval (.tmp 1) = .string (sB m) := hargs 1 _ rfl
  have e2 : a1.eval (.tmp 2) = .int .i64 z := hargs 2 _ rfl
  clear hargs
  refine wp_seq ?_
  refine wp_region_lit ?_
  have hE := Env.refl a1 [6]
  apply sq_det 6 hE k rfl (by rfl) (by rfl) rfl
  case h =>
    exact x_assign rfl rfl
  intro a2 hE e6 kp
  refine wpList_nil ?_
  replace e0 := hE.eval 0 (by rfl) e0
  replace e1 := hE.eval 1 (by rfl) e1
  replace e2 := hE.eval 2 (by rfl) e2
  replace k := k.env hE
  clear hE e6
  refine then_n ?_
  refine wp_seq ?_
  refine wp_region_lit ?_
  have hE := Env.refl a2 [10, 11, 12, 7]
  apply sq_det 10 hE k rfl (by rfl) (by rfl) rfl
  case h =>
    exact x_move rfl (hE.eval 2 (by rfl) e2)
  intro a3 hE e10 kp
  apply sq_det 11 hE k rfl (by rfl) (by rfl) rfl
  case h =>
    simp [go_sem, ↓IntWalk.iteOmega, ev e10]
    with_reducible rfl
  intro a4 hE e11 kp
  refine sq_new O (cs := #[.slice none 0 0, .slice none 0 0, .int .i64 z]) (t := 107) 12 hE k rfl (by rfl) (by rfl) rfl (by simp [go_sem, ↓IntWalk.iteOmega, ev e11]) ?_
  clear O
  intro ub a5 w6 O hE e12 kp
  apply sq_det 7 hE k rfl (by rfl) (by rfl) rfl
  case h =>
    exact x_assign rfl e12
  intro a7 hE e7 kp
  refine wpList_nil ?_
  replace e0 := hE.eval 0 (by rfl) e0
  replace e1 := hE.eval 1 (by rfl) e1
  replace k := k.env hE
  clear hE e2
  refine then_n ?_
  replace O := (OwnT.nilRow O 9 1).nilRow 9 1
  refine wp_seq ?_
  refine wp_seq ?_
  refine wp_region_lit ?_
  have hE := Env.refl a7 [8]
  apply sq_det 8 hE k rfl (by rfl) (by rfl) rfl
  case h =>
    exact x_assign rfl rfl
  intro a8 hE e8 kp
  refine wpList_nil ?_
  replace e0 := hE.eval 0 (by rfl) e0
  replace e1 := hE.eval 1 (by rfl) e1
  replace e7 := hE.eval 7 (by rfl) e7
  replace k := k.env hE
  clear hE
  refine then_n ?_
  refine wp_block ?_
  replace O : OwnT _ _ ((tRow 9 1 (.slice none 0 0) 0 ([])) :: (tRow 9 1 (.slice none 0 0) 0 ([])) :: (tBlk ub 107 #[.slice none 0 0, .slice none 0 0, .int .i64 z]) :: R) w6 := O
  replace O := O.perm ((List.Perm.swap _ _ _).cons _)
  refine wp_loop (fun a w => Fr 60 a ∧ a.eval (.tmp 0) = .string (sB l) ∧ a.eval (.tmp 1) = .string (sB m) ∧ a.eval (.tmp 7) = .pointer (some ⟨ub, 0, none⟩) ∧ ∃ (j : Nat) (B1 : Option Addr) (c1 : Nat), a.eval (.tmp 8) = .int .i64 (↑(16 * j)) ∧ j ≤ n1 ∧ OwnT H A0 ((tRow 9 1 (.slice B1 j c1) j (strsV (secsL l j))) :: (tBlk ub 107 #[.slice B1 j c1, .slice none 0 0, .int .i64 z]) :: (tRow 9 1 (.slice none 0 0) 0 ([])) :: R) w) (fun a w => (↑l.length - intOf (a.eval (.tmp 8))).toNat) ?_ ?_
  · exact ⟨k, e0, e1, e7, 0, none, 0, e8, Nat.zero_le _, O⟩
  intro a9 w10 hI
  clear k e0 e1 e7
  obtain ⟨k, e0, e1, e7, h_⟩ := hI
  clear O e8
  obtain ⟨j, B1, c1, e8, hj, O⟩ := h_
  have mj := e8
  by_cases hlt : j < n1
  · skip
    refine wp_seq ?_
    refine wp_seq ?_
    refine wp_region_lit ?_
    have hE := Env.refl a9 [13, 14, 15, 16, 17]
    apply sq_det 13 hE k rfl (by rfl) (by rfl) rfl
    case h =>
      exact x_move rfl (hE.eval 8 (by rfl) e8)
    intro a11 hE e13 kp
    apply sq_det 14 hE k rfl (by rfl) (by rfl) rfl
    case h =>
      exact x_add rfl e13 rfl (by omega)
    intro a12 hE e14 kp
    apply sq_det 15 hE k rfl (by rfl) (by rfl) rfl
    case h =>
      exact x_move rfl (hE.eval 0 (by rfl) e0)
    intro a13 hE e15 kp
    replace e14 := (kp 14 rfl).trans e14
    apply sq_det 16 hE k rfl (by rfl) (by rfl) rfl
    case h =>
      exact x_len_l Try.underlying9 rfl e15
    intro a14 hE e16 kp
    replace e14 := (kp 14 rfl).trans e14
    apply sq_det 17 hE k rfl (by rfl) (by rfl) rfl
    case h =>
      exact x_dec (x_leq rfl e14 e16) (decide_eq_true (by omega))
    intro a15 hE e17 kp
    refine wpList_nil ?_
    replace e0 := hE.eval 0 (by rfl) e0
    replace e1 := hE.eval 1 (by rfl) e1
    replace e7 := hE.eval 7 (by rfl) e7
    replace e8 := hE.eval 8 (by rfl) e8
    replace k := k.env hE
    clear hE
    refine then_n ?_
    refine cond_t e17 rfl ?_
    refine wp_skip ?_
    refine then_n ?_
    refine wp_seq ?_
    refine wp_block ?_
    obtain ⟨gs1, hgs1⟩ : ∃ z, w10.heap.size = z := ⟨_, rfl⟩
    refine wp_phasedL (fun l_ w_ w_' => if l_ 12 = true then Ext w_ w_' else True) (fun l_ w_ => AppI _ _ 9 1 (.slice B1 j c1) j (strsV (secsL l j)) gs1 [Value.string (sB (secOf l j))] ((tBlk ub 107 #[.slice B1 j c1, .slice none 0 0, .int .i64 z]) :: (tRow 9 1 (.slice none 0 0) 0 ([])) :: R) (l_ 11) (l_ 12) w_) [[], [], [1], [1, 2], [1, 2, 3], [1, 2, 3, 4], [], [], [], [8], [6, 7, 8, 9], [6, 7, 8, 9, 10], [1, 2, 3, 4, 5, 6, 7, 8, 9, 10, 11], [0], [0, 13], [0, 1, 2, 3, 4, 5, 6, 7, 8, 9, 10, 11, 12, 13, 14], [0, 1, 2, 3, 4, 5, 6, 7, 8, 9, 10, 11, 12, 13, 14, 15]] [20, 21, 22, 23, 24, 25, 26, 27, 28, 29, 30, 31, 32, 33, 34, 35] (fun l w => by split; exact Ext.refl _; exact True.intro) (by rw [← hgs1]; exact AppI.start O) (by kernel_rfl) ?_
    apply BuildL.det 20 (fun l w => by split; exact Ext.refl _; exact True.intro) (fun l w h => h) (by rfl) (by rw [k.size]; rfl) rfl
    case h =>
      intro lx ax wx hE hR hF
      exact x_move rfl (hE.eval 7 (by rfl) e7)
    apply BuildL.det 21 (fun l w => by split; exact Ext.refl _; exact True.intro) (fun l w h => h) (by rfl) (by rw [k.size]; rfl) rfl
    case h =>
      intro lx ax wx hE hR hF
      exact x_move rfl (hE.eval 7 (by rfl) e7)
    apply BuildL.det 22 (fun l w => by split; exact Ext.refl _; exact True.intro) (fun l w h => h) (by rfl) (by rw [k.size]; rfl) rfl
    case h =>
      intro lx ax wx hE hR hF
      have e21 : ax.eval (.tmp 21) = _ := hF 1 (detL 1 21 _) (by decide) (.head _)
      exact x_nil rfl e21
    apply BuildL.det 23 (fun l w => by split; exact Ext.refl _; exact True.intro) (fun l w h => h) (by rfl) (by rw [k.size]; rfl) rfl
    case h =>
      intro lx ax wx hE hR hF
      have e22 : ax.eval (.tmp 22) = _ := hF 2 (detL 2 22 _) (by decide) (.head _)
      simp [go_sem, ↓IntWalk.iteOmega, ev e22]
      with_reducible rfl
    apply BuildL.det 24 (fun l w => by split; exact Ext.refl _; exact True.intro) (fun l w h => h) (by rfl) (by rw [k.size]; rfl) rfl
    case h =>
      intro lx ax wx hE hR hF
      have e23 : ax.eval (.tmp 23) = _ := hF 3 (detL 3 23 _) (by decide) (.head _)
      simp [go_sem, ↓IntWalk.iteOmega, ev e23]
      with_reducible rfl
    apply BuildL.det 25 (fun l w => by split; exact Ext.refl _; exact True.intro) (fun l w h => h) (by rfl) (by rw [k.size]; rfl) rfl
    case h =>
      intro lx ax wx hE hR hF
      have e24 : ax.eval (.tmp 24) = _ := hF 4 (detL 4 24 _) (by decide) (.head _)
      have q0 : wx.cell? ⟨ub, 0, none⟩ = some (.slice B1 j c1) := (OwnT.blk (AppI.own hR) 0 rfl).cell 0
      simp [go_sem, ↓IntWalk.iteOmega, ev e24, q0]
      with_reducible rfl
    apply BuildL.det 26 (fun l w => by split; exact Ext.refl _; exact True.intro) (fun l w h => h) (by rfl) (by rw [k.size]; rfl) rfl
    case h =>
      intro lx ax wx hE hR hF
      exact x_move rfl (hE.eval 0 (by rfl) e0)
    apply BuildL.det 27 (fun l w => by split; exact Ext.refl _; exact True.intro) (fun l w h => h) (by rfl) (by rw [k.size]; rfl) rfl
    case h =>
      intro lx ax wx hE hR hF
      exact x_move rfl (hE.eval 8 (by rfl) e8)
    apply BuildL.det 28 (fun l w => by split; exact Ext.refl _; exact True.intro) (fun l w h => h) (by rfl) (by rw [k.size]; rfl) rfl
    case h =>
      intro lx ax wx hE hR hF
      exact x_move rfl (hE.eval 8 (by rfl) e8)
    apply BuildL.det 29 (fun l w => by split; exact Ext.refl _; exact True.intro) (fun l w h => h) (by rfl) (by rw [k.size]; rfl) rfl
    case h =>
      intro lx ax wx hE hR hF
      have e28 : ax.eval (.tmp 28) = _ := hF 8 (detL 8 28 _) (by decide) (.head _)
      exact x_val (v := .int .i64 ((16 * j + 16 : Nat) : Int)) (x_add rfl e28 rfl (by omega)) (int_eq (by omega))
    apply BuildL.det 30 (fun l w => by split; exact Ext.refl _; exact True.intro) (fun l w h => h) (by rfl) (by rw [k.size]; rfl) rfl
    case h =>
      intro lx ax wx hE hR hF
      have e26 : ax.eval (.tmp 26) = _ := hF 6 (detL 6 26 _) (by decide) (.tail _ (.tail _ (.tail _ (.head _))))
      have e27 : ax.eval (.tmp 27) = _ := hF 7 (detL 7 27 _) (by decide) (.tail _ (.tail _ (.head _)))
      have e29 : ax.eval (.tmp 29) = _ := hF 9 (detL 9 29 _) (by decide) (.head _)
      exact x_val (v := .string (sB (secOf l j))) (x_cut_both (a := 16 * j) (b := 16 * j + 16) Try.underlying9 rfl e26 e27 e29 (by omega) (by omega)) (by rw [secOf_cut])
    refine BuildL.new 31 (fun v w => v = .slice (some ⟨gs1, 0, none⟩) 1 1) (fun l v w w' _ _ h => h) (by rfl) (by rw [k.size]; rfl) rfl ?_ ?_
    · intro lx ax wx hE hR hl hA hF
      have e30 : ax.eval (.tmp 30) = _ := hF 10 (detL 10 30 _) (by decide) (.head _)
      exact app_build hR hl (by decide) (by simp [go_sem, ↓IntWalk.iteOmega, ev e30])
    refine BuildL.new 32 (fun v_ w_ => OwnT H A0 (tRow 9 1 v_ (j + 1) ((strsV (secsL l j)) ++ [Value.string (sB (secOf l j))]) :: tBlk gs1 9 #[Value.string (sB (secOf l j))] :: (tBlk ub 107 #[.slice B1 j c1, .slice none 0 0, .int .i64 z]) :: (tRow 9 1 (.slice none 0 0) 0 ([])) :: R) w_) (fun l_ v_ w_ w_' hl hR h => by rw [if_pos hl] at hR; exact h.ext hR) (by rfl) (by rw [k.size]; rfl) rfl ?_ ?_
    · intro lx ax wx hE hR hl hA hF
      have e25 : ax.eval (.tmp 25) = _ := hF 5 (detL 5 25 _) (by decide) (.tail _ (.tail _ (.tail _ (.tail _ (.tail _ (.tail _ (.head _)))))))
      have f31 := hF 11 _ (by decide) (.head _)
      exact app_grow hR hl (hA 11 (by decide)) (by decide) elemS (by decide) rfl (by intro u hu; simp at hu; subst hu; rfl) (by unfold maxLen; omega) (by omega) (fun r w' h => x_append rfl e25 f31 h)
    apply BuildL.det 33 (fun l w => by split; exact Ext.refl _; exact True.intro) (fun l w h => h) (by rfl) (by rw [k.size]; rfl) rfl
    case h =>
      intro lx ax wx hE hR hF
      have e20 : ax.eval (.tmp 20) = _ := hF 0 (detL 0 20 _) (by decide) (.tail _ (.tail _ (.tail _ (.tail _ (.tail _ (.tail _ (.tail _ (.tail _ (.tail _ (.tail _ (.tail _ (.tail _ (.head _)))))))))))))
      exact x_nil rfl e20
    apply BuildL.det 34 (fun l w => by split; exact Ext.refl _; exact True.intro) (fun l w h => h) (by rfl) (by rw [k.size]; rfl) rfl
    case h =>
      intro lx ax wx hE hR hF
      have e33 : ax.eval (.tmp 33) = _ := hF 13 (detL 13 33 _) (by decide) (.head _)
      simp [go_sem, ↓IntWalk.iteOmega, ev e33]
      with_reducible rfl
    apply BuildL.det 35 (fun l w => by split; exact Ext.refl _; exact True.intro) (fun l w h => h) (by rfl) (by rw [k.size]; rfl) rfl
    case h =>
      intro lx ax wx hE hR hF
      have e34 : ax.eval (.tmp 34) = _ := hF 14 (detL 14 34 _) (by decide) (.head _)
      simp [go_sem, ↓IntWalk.iteOmega, ev e34]
      with_reducible rfl
    apply BuildL.stop
    refine ⟨by kernel_rfl, ?_⟩
    clear O
    intro lx a16 w17 hE RI hL hF
    clear RI
    have f32 := hF 12 _ (.tail _ (.tail _ (.tail _ (.head _))))
    have e35 : a16.eval (.tmp 35) = _ := hF 15 (detL 15 35 _) (.head _)
    clear hF hL
    obtain ⟨vr, e32, O⟩ : ∃ v', a16.eval (.tmp 32) = v' ∧ OwnT H A0 (tRow 9 1 v' (j + 1) ((strsV (secsL l j)) ++ [Value.string (sB (secOf l j))]) :: tBlk gs1 9 #[Value.string (sB (secOf l j))] :: (tBlk ub 107 #[.slice B1 j c1, .slice none 0 0, .int .i64 z]) :: (tRow 9 1 (.slice none 0 0) 0 ([])) :: R) w17 := ⟨_, rfl, f32⟩
    clear f32
    obtain ⟨gr1, d1, rfl⟩ := OwnT.slice0 O (by omega)
    replace O := OwnT.pick01 O
    simp only [List.length_cons, List.length_nil, Nat.zero_add, Nat.reduceAdd, List.drop_succ_cons, List.drop_zero, List.drop_nil, tailOps]
    show Oper.wp _ _ _ _ _ _
    have q0 : w17.cell? ⟨ub, 0, none⟩ = some (.slice B1 j c1) := (OwnT.blk O 1 rfl).cell 0
    have q1 : w17.frozen? ⟨ub, 0, none⟩ = false := (OwnT.blk O 1 rfl).frozen 0
    refine last_store (off := 0) (v := .slice (some ⟨gr1, 0, none⟩) ((j + 1)) d1) O 1 rfl rfl (by simp [go_sem, ↓IntWalk.iteOmega, ev e32, ev e35, q0, q1]) ?_
    clear q0 q1
    clear O
    intro w18 O
    replace O : OwnT _ _ ((tRow 9 1 (.slice (some ⟨gr1, 0, none⟩) ((j + 1)) d1) (j + 1) ((strsV (secsL l j)) ++ [Value.string (sB (secOf l j))])) :: (tBlk ub 107 #[.slice (some ⟨gr1, 0, none⟩) ((j + 1)) d1, .slice none 0 0, .int .i64 z]) :: (tRow 9 1 (.slice none 0 0) 0 ([])) :: R) w18 := O
    replace e0 := hE.eval 0 (by rfl) e0
    replace e1 := hE.eval 1 (by rfl) e1
    replace e7 := hE.eval 7 (by rfl) e7
    replace e8 := hE.eval 8 (by rfl) e8
    replace k := k.env hE
    clear hE e17 e32 e35
    refine block_n ?_
    refine then_n ?_
    refine wp_region_lit ?_
    have hE := Env.refl a16 [18, 19, 8]
    apply sq_det 18 hE k rfl (by rfl) (by rfl) rfl
    case h =>
      exact x_move rfl e8
    intro a19 hE e18 kp
    replace e8 := (kp 8 rfl).trans e8
    apply sq_det 19 hE k rfl (by rfl) (by rfl) rfl
    case h =>
      exact x_add rfl e18 rfl (by omega)
    intro a20 hE e19 kp
    replace e8 := (kp 8 rfl).trans e8
    replace e19 := e19.trans (int_eq (show ((16 * j : Nat) : Int) + 16 = ((16 * (j + 1) : Nat) : Int) by omega))
    apply sq_det 8 hE k rfl (by rfl) (by rfl) rfl
    case h =>
      exact x_assign rfl e19
    intro a21 hE e8 kp
    refine wpList_nil ?_
    replace e0 := hE.eval 0 (by rfl) e0
    replace e1 := hE.eval 1 (by rfl) e1
    replace e7 := hE.eval 7 (by rfl) e7
    replace k := k.env hE
    clear hE
    refine then_n ?_
    refine ⟨⟨k, e0, e1, e7, j + 1, some ⟨gr1, 0, none⟩, d1, e8, by omega, ?_⟩, ?_⟩
    · rw [secsL_succ, strsV_app]
      exact O
    · rw [e8, mj]; simp only [intOf]; omega
  · skip
    obtain rfl : j = n1 := by omega
    refine wp_seq ?_
    refine wp_seq ?_
    refine wp_region_lit ?_
    have hE := Env.refl a9 [13, 14, 15, 16, 17]
    apply sq_det 13 hE k rfl (by rfl) (by rfl) rfl
    case h =>
      exact x_move rfl (hE.eval 8 (by rfl) e8)
    intro a22 hE e13 kp
    apply sq_det 14 hE k rfl (by rfl) (by rfl) rfl
    case h =>
      exact x_add rfl e13 rfl (by omega)
    intro a23 hE e14 kp
    apply sq_det 15 hE k rfl (by rfl) (by rfl) rfl
    case h =>
      exact x_move rfl (hE.eval 0 (by rfl) e0)
    intro a24 hE e15 kp
    replace e14 := (kp 14 rfl).trans e14
    apply sq_det 16 hE k rfl (by rfl) (by rfl) rfl
    case h =>
      exact x_len_l Try.underlying9 rfl e15
    intro a25 hE e16 kp
    replace e14 := (kp 14 rfl).trans e14
    apply sq_det 17 hE k rfl (by rfl) (by rfl) rfl
    case h =>
      exact x_dec (x_leq rfl e14 e16) (decide_eq_false (by omega))
    intro a26 hE e17 kp
    refine wpList_nil ?_
    replace e0 := hE.eval 0 (by rfl) e0
    replace e1 := hE.eval 1 (by rfl) e1
    replace e7 := hE.eval 7 (by rfl) e7
    replace e8 := hE.eval 8 (by rfl) e8
    replace k := k.env hE
    clear hE
    refine then_n ?_
    refine cond_f e17 rfl ?_
    refine wp_exit ?_
    refine then_x ?_
    refine then_x ?_
    refine block_x ?_
    refine then_n ?_
    obtain ⟨n1, rfl⟩ : ∃ y, y = j := ⟨_, rfl⟩
    replace O : OwnT _ _ ((tRow 9 1 (.slice B1 n1 c1) n1 (strsV (secsL l n1))) :: (tBlk ub 107 #[.slice B1 n1 c1, .slice none 0 0, .int .i64 z]) :: (tRow 9 1 (.slice none 0 0) 0 ([])) :: R) w10 := O
    refine wp_seq ?_
    refine wp_seq ?_
    refine wp_region_lit ?_
    have hE := Env.refl a26 [9]
    apply sq_det 9 hE k rfl (by rfl) (by rfl) rfl
    case h =>
      exact x_assign rfl rfl
    intro a27 hE e9 kp
    refine wpList_nil ?_
    replace e1 := hE.eval 1 (by rfl) e1
    replace e7 := hE.eval 7 (by rfl) e7
    replace k := k.env hE
    clear hE e0 e8 e17
    refine then_n ?_
    refine wp_block ?_
    replace O := O.perm (((List.Perm.swap _ _ _).cons _).trans (List.Perm.swap _ _ _))
    refine wp_loop (fun a w => Fr 60 a ∧ a.eval (.tmp 1) = .string (sB m) ∧ a.eval (.tmp 7) = .pointer (some ⟨ub, 0, none⟩) ∧ ∃ (j : Nat) (B2 : Option Addr) (c2 : Nat), a.eval (.tmp 9) = .int .i64 (↑(16 * j)) ∧ j ≤ n2 ∧ OwnT H A0 ((tRow 9 1 (.slice B2 j c2) j (strsV (secsL m j))) :: (tRow 9 1 (.slice B1 n1 c1) n1 (strsV (secsL l n1))) :: (tBlk ub 107 #[.slice B1 n1 c1, .slice B2 j c2, .int .i64 z]) :: R) w) (fun a w => (↑m.length - intOf (a.eval (.tmp 9))).toNat) ?_ ?_
    · exact ⟨k, e1, e7, 0, none, 0, e9, Nat.zero_le _, O⟩
    intro a28 w29 hI
    clear k e1 e7
    obtain ⟨k, e1, e7, h_⟩ := hI
    clear O e9
    obtain ⟨j, B2, c2, e9, hj, O⟩ := h_
    have mj := e9
    by_cases hlt : j < n2
    · skip
      refine wp_seq ?_
      refine wp_seq ?_
      refine wp_region_lit ?_
      have hE := Env.refl a28 [36, 37, 38, 39, 40]
      apply sq_det 36 hE k rfl (by rfl) (by rfl) rfl
      case h =>
        exact x_move rfl (hE.eval 9 (by rfl) e9)
      intro a30 hE e36 kp
      apply sq_det 37 hE k rfl (by rfl) (by rfl) rfl
      case h =>
        exact x_add rfl e36 rfl (by omega)
      intro a31 hE e37 kp
      apply sq_det 38 hE k rfl (by rfl) (by rfl) rfl
      case h =>
        exact x_move rfl (hE.eval 1 (by rfl) e1)
      intro a32 hE e38 kp
      replace e37 := (kp 37 rfl).trans e37
      apply sq_det 39 hE k rfl (by rfl) (by rfl) rfl
      case h =>
        exact x_len_l Try.underlying9 rfl e38
      intro a33 hE e39 kp
      replace e37 := (kp 37 rfl).trans e37
      apply sq_det 40 hE k rfl (by rfl) (by rfl) rfl
      case h =>
        exact x_dec (x_leq rfl e37 e39) (decide_eq_true (by omega))
      intro a34 hE e40 kp
      refine wpList_nil ?_
      replace e1 := hE.eval 1 (by rfl) e1
      replace e7 := hE.eval 7 (by rfl) e7
      replace e9 := hE.eval 9 (by rfl) e9
      replace k := k.env hE
      clear hE
      refine then_n ?_
      refine cond_t e40 rfl ?_
      refine wp_skip ?_
      refine then_n ?_
      refine wp_seq ?_
      refine wp_block ?_
      obtain ⟨gs2, hgs2⟩ : ∃ z, w29.heap.size = z := ⟨_, rfl⟩
      refine wp_phasedL (fun l_ w_ w_' => if l_ 12 = true then Ext w_ w_' else True) (fun l_ w_ => AppI _ _ 9 1 (.slice B2 j c2) j (strsV (secsL m j)) gs2 [Value.string (sB (secOf m j))] ((tRow 9 1 (.slice B1 n1 c1) n1 (strsV (secsL l n1))) :: (tBlk ub 107 #[.slice B1 n1 c1, .slice B2 j c2, .int .i64 z]) :: R) (l_ 11) (l_ 12) w_) [[], [], [1], [1, 2], [1, 2, 3], [1, 2, 3, 4], [], [], [], [8], [6, 7, 8, 9], [6, 7, 8, 9, 10], [1, 2, 3, 4, 5, 6, 7, 8, 9, 10, 11], [0], [0, 13], [0, 1, 2, 3, 4, 5, 6, 7, 8, 9, 10, 11, 12, 13, 14], [0, 1, 2, 3, 4, 5, 6, 7, 8, 9, 10, 11, 12, 13, 14, 15]] [43, 44, 45, 46, 47, 48, 49, 50, 51, 52, 53, 54, 55, 56, 57, 58] (fun l w => by split; exact Ext.refl _; exact True.intro) (by rw [← hgs2]; exact AppI.start O) (by kernel_rfl) ?_
      apply BuildL.det 43 (fun l w => by split; exact Ext.refl _; exact True.intro) (fun l w h => h) (by rfl) (by rw [k.size]; rfl) rfl
      case h =>
        intro lx ax wx hE hR hF
        exact x_move rfl (hE.eval 7 (by rfl) e7)
      apply BuildL.det 44 (fun l w => by split; exact Ext.refl _; exact True.intro) (fun l w h => h) (by rfl) (by rw [k.size]; rfl) rfl
      case h =>
        intro lx ax wx hE hR hF
        exact x_move rfl (hE.eval 7 (by rfl) e7)
      apply BuildL.det 45 (fun l w => by split; exact Ext.refl _; exact True.intro) (fun l w h => h) (by rfl) (by rw [k.size]; rfl) rfl
      case h =>
        intro lx ax wx hE hR hF
        have e44 : ax.eval (.tmp 44) = _ := hF 1 (detL 1 44 _) (by decide) (.head _)
        exact x_nil rfl e44
      apply BuildL.det 46 (fun l w => by split; exact Ext.refl _; exact True.intro) (fun l w h => h) (by rfl) (by rw [k.size]; rfl) rfl
      case h =>
        intro lx ax wx hE hR hF
        have e45 : ax.eval (.tmp 45) = _ := hF 2 (detL 2 45 _) (by decide) (.head _)
        simp [go_sem, ↓IntWalk.iteOmega, ev e45]
        with_reducible rfl
      apply BuildL.det 47 (fun l w => by split; exact Ext.refl _; exact True.intro) (fun l w h => h) (by rfl) (by rw [k.size]; rfl) rfl
      case h =>
        intro lx ax wx hE hR hF
        have e46 : ax.eval (.tmp 46) = _ := hF 3 (detL 3 46 _) (by decide) (.head _)
        simp [go_sem, ↓IntWalk.iteOmega, ev e46]
        with_reducible rfl
      apply BuildL.det 48 (fun l w => by split; exact Ext.refl _; exact True.intro) (fun l w h => h) (by rfl) (by rw [k.size]; rfl) rfl
      case h =>
        intro lx ax wx hE hR hF
        have e47 : ax.eval (.tmp 47) = _ := hF 4 (detL 4 47 _) (by decide) (.head _)
        have q0 : wx.cell? ⟨ub, 1, none⟩ = some (.slice B2 j c2) := (OwnT.blk (AppI.own hR) 1 rfl).cell 1
        simp [go_sem, ↓IntWalk.iteOmega, ev e47, q0]
        with_reducible rfl
      apply BuildL.det 49 (fun l w => by split; exact Ext.refl _; exact True.intro) (fun l w h => h) (by rfl) (by rw [k.size]; rfl) rfl
      case h =>
        intro lx ax wx hE hR hF
        exact x_move rfl (hE.eval 1 (by rfl) e1)
      apply BuildL.det 50 (fun l w => by split; exact Ext.refl _; exact True.intro) (fun l w h => h) (by rfl) (by rw [k.size]; rfl) rfl
      case h =>
        intro lx ax wx hE hR hF
        exact x_move rfl (hE.eval 9 (by rfl) e9)
      apply BuildL.det 51 (fun l w => by split; exact Ext.refl _; exact True.intro) (fun l w h => h) (by rfl) (by rw [k.size]; rfl) rfl
      case h =>
        intro lx ax wx hE hR hF
        exact x_move rfl (hE.eval 9 (by rfl) e9)
      apply BuildL.det 52 (fun l w => by split; exact Ext.refl _; exact True.intro) (fun l w h => h) (by rfl) (by rw [k.size]; rfl) rfl
      case h =>
        intro lx ax wx hE hR hF
        have e51 : ax.eval (.tmp 51) = _ := hF 8 (detL 8 51 _) (by decide) (.head _)
        exact x_val (v := .int .i64 ((16 * j + 16 : Nat) : Int)) (x_add rfl e51 rfl (by omega)) (int_eq (by omega))
      apply BuildL.det 53 (fun l w => by split; exact Ext.refl _; exact True.intro) (fun l w h => h) (by rfl) (by rw [k.size]; rfl) rfl
      case h =>
        intro lx ax wx hE hR hF
        have e49 : ax.eval (.tmp 49) = _ := hF 6 (detL 6 49 _) (by decide) (.tail _ (.tail _ (.tail _ (.head _))))
        have e50 : ax.eval (.tmp 50) = _ := hF 7 (detL 7 50 _) (by decide) (.tail _ (.tail _ (.head _)))
        have e52 : ax.eval (.tmp 52) = _ := hF 9 (detL 9 52 _) (by decide) (.head _)
        exact x_val (v := .string (sB (secOf m j))) (x_cut_both (a := 16 * j) (b := 16 * j + 16) Try.underlying9 rfl e49 e50 e52 (by omega) (by omega)) (by rw [secOf_cut])
      refine BuildL.new 54 (fun v w => v = .slice (some ⟨gs2, 0, none⟩) 1 1) (fun l v w w' _ _ h => h) (by rfl) (by rw [k.size]; rfl) rfl ?_ ?_
      · intro lx ax wx hE hR hl hA hF
        have e53 : ax.eval (.tmp 53) = _ := hF 10 (detL 10 53 _) (by decide) (.head _)
        exact app_build hR hl (by decide) (by simp [go_sem, ↓IntWalk.iteOmega, ev e53])
      refine BuildL.new 55 (fun v_ w_ => OwnT H A0 (tRow 9 1 v_ (j + 1) ((strsV (secsL m j)) ++ [Value.string (sB (secOf m j))]) :: tBlk gs2 9 #[Value.string (sB (secOf m j))] :: (tRow 9 1 (.slice B1 n1 c1) n1 (strsV (secsL l n1))) :: (tBlk ub 107 #[.slice B1 n1 c1, .slice B2 j c2, .int .i64 z]) :: R) w_) (fun l_ v_ w_ w_' hl hR h => by rw [if_pos hl] at hR; exact h.ext hR) (by rfl) (by rw [k.size]; rfl) rfl ?_ ?_
      · intro lx ax wx hE hR hl hA hF
        have e48 : ax.eval (.tmp 48) = _ := hF 5 (detL 5 48 _) (by decide) (.tail _ (.tail _ (.tail _ (.tail _ (.tail _ (.tail _ (.head _)))))))
        have f54 := hF 11 _ (by decide) (.head _)
        exact app_grow hR hl (hA 11 (by decide)) (by decide) elemS (by decide) rfl (by intro u hu; simp at hu; subst hu; rfl) (by unfold maxLen; omega) (by omega) (fun r w' h => x_append rfl e48 f54 h)
      apply BuildL.det 56 (fun l w => by split; exact Ext.refl _; exact True.intro) (fun l w h => h) (by rfl) (by rw [k.size]; rfl) rfl
      case h =>
        intro lx ax wx hE hR hF
        have e43 : ax.eval (.tmp 43) = _ := hF 0 (detL 0 43 _) (by decide) (.tail _ (.tail _ (.tail _ (.tail _ (.tail _ (.tail _ (.tail _ (.tail _ (.tail _ (.tail _ (.tail _ (.tail _ (.head _)))))))))))))
        exact x_nil rfl e43
      apply BuildL.det 57 (fun l w => by split; exact Ext.refl _; exact True.intro) (fun l w h => h) (by rfl) (by rw [k.size]; rfl) rfl
      case h =>
        intro lx ax wx hE hR hF
        have e56 : ax.eval (.tmp 56) = _ := hF 13 (detL 13 56 _) (by decide) (.head _)
        simp [go_sem, ↓IntWalk.iteOmega, ev e56]
        with_reducible rfl
      apply BuildL.det 58 (fun l w => by split; exact Ext.refl _; exact True.intro) (fun l w h => h) (by rfl) (by rw [k.size]; rfl) rfl
      case h =>
        intro lx ax wx hE hR hF
        have e57 : ax.eval (.tmp 57) = _ := hF 14 (detL 14 57 _) (by decide) (.head _)
        simp [go_sem, ↓IntWalk.iteOmega, ev e57]
        with_reducible rfl
      apply BuildL.stop
      refine ⟨by kernel_rfl, ?_⟩
      clear O
      intro lx a35 w36 hE RI hL hF
      clear RI
      have f55 := hF 12 _ (.tail _ (.tail _ (.tail _ (.head _))))
      have e58 : a35.eval (.tmp 58) = _ := hF 15 (detL 15 58 _) (.head _)
      clear hF hL
      obtain ⟨vr, e55, O⟩ : ∃ v', a35.eval (.tmp 55) = v' ∧ OwnT H A0 (tRow 9 1 v' (j + 1) ((strsV (secsL m j)) ++ [Value.string (sB (secOf m j))]) :: tBlk gs2 9 #[Value.string (sB (secOf m j))] :: (tRow 9 1 (.slice B1 n1 c1) n1 (strsV (secsL l n1))) :: (tBlk ub 107 #[.slice B1 n1 c1, .slice B2 j c2, .int .i64 z]) :: R) w36 := ⟨_, rfl, f55⟩
      clear f55
      obtain ⟨gr2, d2, rfl⟩ := OwnT.slice0 O (by omega)
      replace O := OwnT.pick01 O
      simp only [List.length_cons, List.length_nil, Nat.zero_add, Nat.reduceAdd, List.drop_succ_cons, List.drop_zero, List.drop_nil, tailOps]
      show Oper.wp _ _ _ _ _ _
      have q0 : w36.cell? ⟨ub, 1, none⟩ = some (.slice B2 j c2) := (OwnT.blk O 2 rfl).cell 1
      have q1 : w36.frozen? ⟨ub, 1, none⟩ = false := (OwnT.blk O 2 rfl).frozen 1
      refine last_store (off := 1) (v := .slice (some ⟨gr2, 0, none⟩) ((j + 1)) d2) O 2 rfl rfl (by simp [go_sem, ↓IntWalk.iteOmega, ev e55, ev e58, q0, q1]) ?_
      clear q0 q1
      clear O
      intro w37 O
      replace O : OwnT _ _ ((tRow 9 1 (.slice (some ⟨gr2, 0, none⟩) ((j + 1)) d2) (j + 1) ((strsV (secsL m j)) ++ [Value.string (sB (secOf m j))])) :: (tRow 9 1 (.slice B1 n1 c1) n1 (strsV (secsL l n1))) :: (tBlk ub 107 #[.slice B1 n1 c1, .slice (some ⟨gr2, 0, none⟩) ((j + 1)) d2, .int .i64 z]) :: R) w37 := O
      replace e1 := hE.eval 1 (by rfl) e1
      replace e7 := hE.eval 7 (by rfl) e7
      replace e9 := hE.eval 9 (by rfl) e9
      replace k := k.env hE
      clear hE e40 e55 e58
      refine block_n ?_
      refine then_n ?_
      refine wp_region_lit ?_
      have hE := Env.refl a35 [41, 42, 9]
      apply sq_det 41 hE k rfl (by rfl) (by rfl) rfl
      case h =>
        exact x_move rfl e9
      intro a38 hE e41 kp
      replace e9 := (kp 9 rfl).trans e9
      apply sq_det 42 hE k rfl (by rfl) (by rfl) rfl
      case h =>
        exact x_add rfl e41 rfl (by omega)
      intro a39 hE e42 kp
      replace e9 := (kp 9 rfl).trans e9
      replace e42 := e42.trans (int_eq (show ((16 * j : Nat) : Int) + 16 = ((16 * (j + 1) : Nat) : Int) by omega))
      apply sq_det 9 hE k rfl (by rfl) (by rfl) rfl
      case h =>
        exact x_assign rfl e42
      intro a40 hE e9 kp
      refine wpList_nil ?_
      replace e1 := hE.eval 1 (by rfl) e1
      replace e7 := hE.eval 7 (by rfl) e7
      replace k := k.env hE
      clear hE
      refine then_n ?_
      refine ⟨⟨k, e1, e7, j + 1, some ⟨gr2, 0, none⟩, d2, e9, by omega, ?_⟩, ?_⟩
      · rw [secsL_succ, strsV_app]
        exact O
      · rw [e9, mj]; simp only [intOf]; omega
    · skip
      obtain rfl : j = n2 := by omega
      refine wp_seq ?_
      refine wp_seq ?_
      refine wp_region_lit ?_
      have hE := Env.refl a28 [36, 37, 38, 39, 40]
      apply sq_det 36 hE k rfl (by rfl) (by rfl) rfl
      case h =>
        exact x_move rfl (hE.eval 9 (by rfl) e9)
      intro a41 hE e36 kp
      apply sq_det 37 hE k rfl (by rfl) (by rfl) rfl
      case h =>
        exact x_add rfl e36 rfl (by omega)
      intro a42 hE e37 kp
      apply sq_det 38 hE k rfl (by rfl) (by rfl) rfl
      case h =>
        exact x_move rfl (hE.eval 1 (by rfl) e1)
      intro a43 hE e38 kp
      replace e37 := (kp 37 rfl).trans e37
      apply sq_det 39 hE k rfl (by rfl) (by rfl) rfl
      case h =>
        exact x_len_l Try.underlying9 rfl e38
      intro a44 hE e39 kp
      replace e37 := (kp 37 rfl).trans e37
      apply sq_det 40 hE k rfl (by rfl) (by rfl) rfl
      case h =>
        exact x_dec (x_leq rfl e37 e39) (decide_eq_false (by omega))
      intro a45 hE e40 kp
      refine wpList_nil ?_
      replace e1 := hE.eval 1 (by rfl) e1
      replace e7 := hE.eval 7 (by rfl) e7
      replace e9 := hE.eval 9 (by rfl) e9
      replace k := k.env hE
      clear hE
      refine then_n ?_
      refine cond_f e40 rfl ?_
      refine wp_exit ?_
      refine then_x ?_
      refine then_x ?_
      refine block_x ?_
      refine then_n ?_
      refine wp_seq ?_
      refine wp_region_lit ?_
      have hE := Env.refl a45 [59, 6]
      apply sq_det 59 hE k rfl (by rfl) (by rfl) rfl
      case h =>
        exact x_move rfl (hE.eval 7 (by rfl) e7)
      intro a46 hE e59 kp
      apply sq_det 6 hE k rfl (by rfl) (by rfl) rfl
      case h =>
        exact x_assign rfl e59
      intro a47 hE e6 kp
      refine wpList_nil ?_
      replace k := k.env hE
      clear hE e1 e7 e9 e40
      refine then_n ?_
      refine wp_ret ?_
      refine ret_F1 rfl k e6 ?_
      exact ⟨ub, B1, c1, B2, c2, rfl, OwnT.swap13 O⟩
theorem rslots18_bad (ub : Nat) (t : Int) (w : World) (h0 : t ≠ 0) (h1 : t ≠ 1) : Calls Try.prog 65 #[.pointer (some ⟨ub, 0, none⟩), .int .i64 t] w fun e w' => e = .returned (.int .i64 0) ∧ Ext w w' := by
  refine calls_F Try.func65 rfl 24 rfl (by rfl) ?_
  intro a1 k hargs
  have e0 : a1.eval (.tmp 0) = .pointer (some ⟨ub, 0, none⟩) := hargs 0 _ rfl
  have e1 : a1.eval (.tmp 1) = .int .i64 t := hargs 1 _ rfl
  clear hargs
  refine wp_seq ?_
  refine wp_region_lit ?_
  have hE := Env.refl a1 [4]
  apply sq_det 4 hE k rfl (by rfl) (by rfl) rfl
  case h =>
    exact x_assign rfl rfl
  intro a2 hE e4 kp
  refine wpList_nil ?_
  replace e0 := hE.eval 0 (by rfl) e0
  replace e1 := hE.eval 1 (by rfl) e1
  replace k := k.env hE
  clear hE e4
  refine then_n ?_
  refine wp_seq ?_
  refine wp_seq ?_
  refine wp_region_lit ?_
  have hE := Env.refl a2 [5, 6, 7, 8, 9, 10]
  apply sq_det 5 hE k rfl (by rfl) (by rfl) rfl
  case h =>
    exact x_move rfl (hE.eval 1 (by rfl) e1)
  intro a3 hE e5 kp
  apply sq_det 6 hE k rfl (by rfl) (by rfl) rfl
  case h =>
    exact x_dec (x_neq rfl e5 rfl) (decide_eq_true h0)
  intro a4 hE e6 kp
  apply sq_det 7 hE k rfl (by rfl) (by rfl) rfl
  case h =>
    exact x_move rfl e6
  intro a5 hE e7 kp
  apply sq_detg 8 hE k rfl (by rfl) (by rfl) rfl rfl e7
  case h =>
    exact x_move rfl (hE.eval 1 (by rfl) e1)
  intro a6 hE e8 kp
  replace e7 := (kp 7 rfl).trans e7
  apply sq_detg 9 hE k rfl (by rfl) (by rfl) rfl rfl e7
  case h =>
    exact x_dec (x_neq rfl e8 rfl) (decide_eq_true h1)
  intro a7 hE e9 kp
  replace e7 := (kp 7 rfl).trans e7
  apply sq_det 10 hE k rfl (by rfl) (by rfl) rfl
  case h =>
    exact x_pick_t rfl e7 e9
  intro a8 hE e10 kp
  refine wpList_nil ?_
  replace e0 := hE.eval 0 (by rfl) e0
  replace e1 := hE.eval 1 (by rfl) e1
  replace k := k.env hE
  clear hE
  refine then_n ?_
  refine cond_t e10 rfl ?_
  refine wp_seq ?_
  refine wp_region_lit ?_
  have hE := Env.refl a8 [4]
  apply sq_det 4 hE k rfl (by rfl) (by rfl) rfl
  case h =>
    exact x_assign rfl rfl
  intro a9 hE e4 kp
  refine wpList_nil ?_
  replace k := k.env hE
  clear hE e0 e1 e10
  refine then_n ?_
  refine wp_ret ?_
  refine then_r ?_
  refine ret_F1 rfl k e4 ?_
  exact ⟨rfl, Ext.refl _⟩
set_option maxRecDepth 100000 in
set_option maxHeartbeats 4000000 in
theorem rslots18_0 {ub n1 c1 n2 c2 sz : Nat} {B1 B2 : Option Addr} (W0 : World) (hd : Blk W0 ub 107 #[.slice B1 n1 c1, .slice B2 n2 c2, .int .i64 ↑sz]) (hs : 0 < sz) (hn : n1 ≤ 1000000) : Calls Try.prog 65 #[.pointer (some ⟨ub, 0, none⟩), .int .i64 0] W0 fun e w' => e = .returned (.int .i64 (slN n1 sz : Nat)) ∧ Ext W0 w' := by
  have O := OwnT.start W0
  refine calls_F Try.func65 rfl 24 rfl (by rfl) ?_
  intro a1 k hargs
  have e0 : a1.eval (.tmp 0) = .pointer (some ⟨ub, 0, none⟩) := hargs 0 _ rfl
  have e1 : a1.eval (.tmp 1) = .int .i64 0 := hargs 1 _ rfl
  clear hargs
  refine wp_seq ?_
  refine wp_region_lit ?_
  have hE := Env.refl a1 [4]
  apply sq_det 4 hE k rfl (by rfl) (by rfl) rfl
  case h =>
    exact x_assign rfl rfl
  intro a2 hE e4 kp
  refine wpList_nil ?_
  replace e0 := hE.eval 0 (by rfl) e0
  replace e1 := hE.eval 1 (by rfl) e1
  replace k := k.env hE
  clear hE e4
  refine then_n ?_
  refine wp_seq ?_
  refine wp_seq ?_
  refine wp_region_lit ?_
  have hE := Env.refl a2 [5, 6, 7, 8, 9, 10]
  apply sq_det 5 hE k rfl (by rfl) (by rfl) rfl
  case h =>
    exact x_move rfl (hE.eval 1 (by rfl) e1)
  intro a3 hE e5 kp
  apply sq_det 6 hE k rfl (by rfl) (by rfl) rfl
  case h =>
    exact x_dec (x_neq rfl e5 rfl) (decide_eq_false (by omega))
  intro a4 hE e6 kp
  apply sq_det 7 hE k rfl (by rfl) (by rfl) rfl
  case h =>
    exact x_move rfl e6
  intro a5 hE e7 kp
  refine sq_skipg 8 hE k rfl (by rfl) (by rfl) rfl rfl (.inl e7) ?_
  intro a6 hE e8 kp
  replace e7 := (kp 7 rfl).trans e7
  refine sq_skipg 9 hE k rfl (by rfl) (by rfl) rfl rfl (.inl e7) ?_
  intro a7 hE e9 kp
  replace e7 := (kp 7 rfl).trans e7
  apply sq_det 10 hE k rfl (by rfl) (by rfl) rfl
  case h =>
    exact x_pick_f rfl e7 rfl
  intro a8 hE e10 kp
  refine wpList_nil ?_
  replace e0 := hE.eval 0 (by rfl) e0
  replace e1 := hE.eval 1 (by rfl) e1
  replace k := k.env hE
  clear hE
  refine then_n ?_
  refine cond_f e10 rfl ?_
  refine wp_skip ?_
  refine then_n ?_
  refine wp_seq ?_
  refine wp_typed (R := Ext) (w0 := W0) [[], [], [0], [0, 2], [0, 1, 2, 3], [0, 1, 2, 3, 4], [0, 1, 2, 3, 4, 5], [], [7], [7, 8], [7, 8, 9], [0, 1, 2, 3, 4, 5, 6, 7, 8, 9, 10], [0, 1, 2, 3, 4, 5, 6, 7, 8, 9, 10, 11], [0, 1, 2, 3, 4, 5, 6, 7, 8, 9, 10, 11, 12]] [11, 12, 13, 14, 15, 16, 17, 18, 19, 20, 21, 22, 23, 4] Ext.refl (fun _ _ _ => Ext.trans) (Ext.drew _) (by kernel_rfl) ?_
  apply Build.det 11 Ext.refl (by rfl) (by rw [k.size]; rfl) rfl
  case h =>
    intro ax wx hE hR hF
    exact x_move rfl (hE.eval 0 (by rfl) e0)
  apply Build.det 12 Ext.refl (by rfl) (by rw [k.size]; rfl) rfl
  case h =>
    intro ax wx hE hR hF
    exact x_move rfl (hE.eval 1 (by rfl) e1)
  apply Build.det 13 Ext.refl (by rfl) (by rw [k.size]; rfl) rfl
  case h =>
    intro ax wx hE hR hF
    have e11 : ax.eval (.tmp 11) = _ := hF 0 (det 11 _) (by decide) (.tail _ (.head _))
    exact x_nil rfl e11
  apply Build.det 14 Ext.refl (by rfl) (by rw [k.size]; rfl) rfl
  case h =>
    intro ax wx hE hR hF
    have e13 : ax.eval (.tmp 13) = _ := hF 2 (det 13 _) (by decide) (.head _)
    simp [go_sem, ↓IntWalk.iteOmega, ev e13]
    with_reducible rfl
  apply Build.det 15 Ext.refl (by rfl) (by rw [k.size]; rfl) rfl
  case h =>
    intro ax wx hE hR hF
    have e12 : ax.eval (.tmp 12) = _ := hF 1 (det 12 _) (by decide) (.tail _ (.tail _ (.head _)))
    have e14 : ax.eval (.tmp 14) = _ := hF 3 (det 14 _) (by decide) (.head _)
    simp [go_sem, ↓IntWalk.iteOmega, ev e12, ev e14]
    with_reducible rfl
  apply Build.det 16 Ext.refl (by rfl) (by rw [k.size]; rfl) rfl
  case h =>
    intro ax wx hE hR hF
    have e15 : ax.eval (.tmp 15) = _ := hF 4 (det 15 _) (by decide) (.head _)
    have dt : wx.cell? ⟨ub, 0, none⟩ = some (.slice B1 n1 c1) := (hd.ext hR).cell 0
    simp [go_sem, ↓IntWalk.iteOmega, ev e15, dt]
    with_reducible rfl
  apply Build.det 17 Ext.refl (by rfl) (by rw [k.size]; rfl) rfl
  case h =>
    intro ax wx hE hR hF
    have e16 : ax.eval (.tmp 16) = _ := hF 5 (det 16 _) (by decide) (.head _)
    exact x_len Try.underlying77 rfl e16
  apply Build.det 18 Ext.refl (by rfl) (by rw [k.size]; rfl) rfl
  case h =>
    intro ax wx hE hR hF
    exact x_move rfl (hE.eval 0 (by rfl) e0)
  apply Build.det 19 Ext.refl (by rfl) (by rw [k.size]; rfl) rfl
  case h =>
    intro ax wx hE hR hF
    have e18 : ax.eval (.tmp 18) = _ := hF 7 (det 18 _) (by decide) (.head _)
    exact x_nil rfl e18
  apply Build.det 20 Ext.refl (by rfl) (by rw [k.size]; rfl) rfl
  case h =>
    intro ax wx hE hR hF
    have e19 : ax.eval (.tmp 19) = _ := hF 8 (det 19 _) (by decide) (.head _)
    simp [go_sem, ↓IntWalk.iteOmega, ev e19]
    with_reducible rfl
  apply Build.det 21 Ext.refl (by rfl) (by rw [k.size]; rfl) rfl
  case h =>
    intro ax wx hE hR hF
    have e20 : ax.eval (.tmp 20) = _ := hF 9 (det 20 _) (by decide) (.head _)
    have dz : wx.cell? ⟨ub, 2, none⟩ = some (.int .i64 sz) := (hd.ext hR).cell 2
    simp [go_sem, ↓IntWalk.iteOmega, ev e20, dz]
    with_reducible rfl
  apply Build.det 22 Ext.refl (by rfl) (by rw [k.size]; rfl) rfl
  case h =>
    intro ax wx hE hR hF
    have e17 : ax.eval (.tmp 17) = _ := hF 6 (det 17 _) (by decide) (.tail _ (.tail _ (.tail _ (.tail _ (.head _)))))
    have e21 : ax.eval (.tmp 21) = _ := hF 10 (det 21 _) (by decide) (.head _)
    exact x_quoN (m := n1) (j := sz) rfl e17 e21 rfl hs (by omega)
  apply Build.det 23 Ext.refl (by rfl) (by rw [k.size]; rfl) rfl
  case h =>
    intro ax wx hE hR hF
    have e22 : ax.eval (.tmp 22) = _ := hF 11 (det 22 _) (by decide) (.head _)
    exact x_val (v := .int .i64 ((slN n1 sz : Nat) : Int)) (x_min rfl e22 rfl) (int_eq (by unfold slN; omega))
  apply Build.det 4 Ext.refl (by rfl) (by rw [k.size]; rfl) rfl
  case h =>
    intro ax wx hE hR hF
    have e23 : ax.eval (.tmp 23) = _ := hF 12 (det 23 _) (by decide) (.head _)
    exact x_assign rfl e23
  apply Build.stop
  refine ⟨by kernel_rfl, .inl ⟨rfl, ?_⟩⟩
  intro a9 w10 hE R hF
  have e4 : a9.eval (.tmp 4) = _ := hF 13 (det 4 _) (.head _)
  clear hF
  replace O := OwnT.ext O R
  clear R
  replace k := k.env hE
  clear hE e0 e1 e10
  refine then_n ?_
  refine wp_ret ?_
  refine ret_F1 rfl k e4 ?_
  exact ⟨rfl, O.below⟩
set_option maxRecDepth 100000 in
set_option maxHeartbeats 4000000 in
theorem rslots18_1 {ub n1 c1 n2 c2 sz : Nat} {B1 B2 : Option Addr} (W0 : World) (hd : Blk W0 ub 107 #[.slice B1 n1 c1, .slice B2 n2 c2, .int .i64 ↑sz]) (hs : 0 < sz) (hn : n2 ≤ 1000000) : Calls Try.prog 65 #[.pointer (some ⟨ub, 0, none⟩), .int .i64 1] W0 fun e w' => e = .returned (.int .i64 (slN n2 sz : Nat)) ∧ Ext W0 w' := by
  have O := OwnT.start W0
  refine calls_F Try.func65 rfl 24 rfl (by rfl) ?_
  intro a1 k hargs
  have e0 : a1.eval (.tmp 0) = .pointer (some ⟨ub, 0, none⟩) := hargs 0 _ rfl
  have e1 : a1.eval (.tmp 1) = .int .i64 1 := hargs 1 _ rfl
  clear hargs
  refine wp_seq ?_
  refine wp_region_lit ?_
  have hE := Env.refl a1 [4]
  apply sq_det 4 hE k rfl (by rfl) (by rfl) rfl
  case h =>
    exact x_assign rfl rfl
  intro a2 hE e4 kp
  refine wpList_nil ?_
  replace e0 := hE.eval 0 (by rfl) e0
  replace e1 := hE.eval 1 (by rfl) e1
  replace k := k.env hE
  clear hE e4
  refine then_n ?_
  refine wp_seq ?_
  refine wp_seq ?_
  refine wp_region_lit ?_
  have hE := Env.refl a2 [5, 6, 7, 8, 9, 10]
  apply sq_det 5 hE k rfl (by rfl) (by rfl) rfl
  case h =>
    exact x_move rfl (hE.eval 1 (by rfl) e1)
  intro a3 hE e5 kp
  apply sq_det 6 hE k rfl (by rfl) (by rfl) rfl
  case h =>
    exact x_dec (x_neq rfl e5 rfl) (decide_eq_true (by omega))
  intro a4 hE e6 kp
  apply sq_det 7 hE k rfl (by rfl) (by rfl) rfl
  case h =>
    exact x_move rfl e6
  intro a5 hE e7 kp
  apply sq_detg 8 hE k rfl (by rfl) (by rfl) rfl rfl e7
  case h =>
    exact x_move rfl (hE.eval 1 (by rfl) e1)
  intro a6 hE e8 kp
  replace e7 := (kp 7 rfl).trans e7
  apply sq_detg 9 hE k rfl (by rfl) (by rfl) rfl rfl e7
  case h =>
    exact x_dec (x_neq rfl e8 rfl) (decide_eq_false (by omega))
  intro a7 hE e9 kp
  replace e7 := (kp 7 rfl).trans e7
  apply sq_det 10 hE k rfl (by rfl) (by rfl) rfl
  case h =>
    exact x_pick_t rfl e7 e9
  intro a8 hE e10 kp
  refine wpList_nil ?_
  replace e0 := hE.eval 0 (by rfl) e0
  replace e1 := hE.eval 1 (by rfl) e1
  replace k := k.env hE
  clear hE
  refine then_n ?_
  refine cond_f e10 rfl ?_
  refine wp_skip ?_
  refine then_n ?_
  refine wp_seq ?_
  refine wp_typed (R := Ext) (w0 := W0) [[], [], [0], [0, 2], [0, 1, 2, 3], [0, 1, 2, 3, 4], [0, 1, 2, 3, 4, 5], [], [7], [7, 8], [7, 8, 9], [0, 1, 2, 3, 4, 5, 6, 7, 8, 9, 10], [0, 1, 2, 3, 4, 5, 6, 7, 8, 9, 10, 11], [0, 1, 2, 3, 4, 5, 6, 7, 8, 9, 10, 11, 12]] [11, 12, 13, 14, 15, 16, 17, 18, 19, 20, 21, 22, 23, 4] Ext.refl (fun _ _ _ => Ext.trans) (Ext.drew _) (by kernel_rfl) ?_
  apply Build.det 11 Ext.refl (by rfl) (by rw [k.size]; rfl) rfl
  case h =>
    intro ax wx hE hR hF
    exact x_move rfl (hE.eval 0 (by rfl) e0)
  apply Build.det 12 Ext.refl (by rfl) (by rw [k.size]; rfl) rfl
  case h =>
    intro ax wx hE hR hF
    exact x_move rfl (hE.eval 1 (by rfl) e1)
  apply Build.det 13 Ext.refl (by rfl) (by rw [k.size]; rfl) rfl
  case h =>
    intro ax wx hE hR hF
    have e11 : ax.eval (.tmp 11) = _ := hF 0 (det 11 _) (by decide) (.tail _ (.head _))
    exact x_nil rfl e11
  apply Build.det 14 Ext.refl (by rfl) (by rw [k.size]; rfl) rfl
  case h =>
    intro ax wx hE hR hF
    have e13 : ax.eval (.tmp 13) = _ := hF 2 (det 13 _) (by decide) (.head _)
    simp [go_sem, ↓IntWalk.iteOmega, ev e13]
    with_reducible rfl
  apply Build.det 15 Ext.refl (by rfl) (by rw [k.size]; rfl) rfl
  case h =>
    intro ax wx hE hR hF
    have e12 : ax.eval (.tmp 12) = _ := hF 1 (det 12 _) (by decide) (.tail _ (.tail _ (.head _)))
    have e14 : ax.eval (.tmp 14) = _ := hF 3 (det 14 _) (by decide) (.head _)
    simp [go_sem, ↓IntWalk.iteOmega, ev e12, ev e14]
    with_reducible rfl
  apply Build.det 16 Ext.refl (by rfl) (by rw [k.size]; rfl) rfl
  case h =>
    intro ax wx hE hR hF
    have e15 : ax.eval (.tmp 15) = _ := hF 4 (det 15 _) (by decide) (.head _)
    have dt : wx.cell? ⟨ub, 1, none⟩ = some (.slice B2 n2 c2) := (hd.ext hR).cell 1
    simp [go_sem, ↓IntWalk.iteOmega, ev e15, dt]
    with_reducible rfl
  apply Build.det 17 Ext.refl (by rfl) (by rw [k.size]; rfl) rfl
  case h =>
    intro ax wx hE hR hF
    have e16 : ax.eval (.tmp 16) = _ := hF 5 (det 16 _) (by decide) (.head _)
    exact x_len Try.underlying77 rfl e16
  apply Build.det 18 Ext.refl (by rfl) (by rw [k.size]; rfl) rfl
  case h =>
    intro ax wx hE hR hF
    exact x_move rfl (hE.eval 0 (by rfl) e0)
  apply Build.det 19 Ext.refl (by rfl) (by rw [k.size]; rfl) rfl
  case h =>
    intro ax wx hE hR hF
    have e18 : ax.eval (.tmp 18) = _ := hF 7 (det 18 _) (by decide) (.head _)
    exact x_nil rfl e18
  apply Build.det 20 Ext.refl (by rfl) (by rw [k.size]; rfl) rfl
  case h =>
    intro ax wx hE hR hF
    have e19 : ax.eval (.tmp 19) = _ := hF 8 (det 19 _) (by decide) (.head _)
    simp [go_sem, ↓IntWalk.iteOmega, ev e19]
    with_reducible rfl
  apply Build.det 21 Ext.refl (by rfl) (by rw [k.size]; rfl) rfl
  case h =>
    intro ax wx hE hR hF
    have e20 : ax.eval (.tmp 20) = _ := hF 9 (det 20 _) (by decide) (.head _)
    have dz : wx.cell? ⟨ub, 2, none⟩ = some (.int .i64 sz) := (hd.ext hR).cell 2
    simp [go_sem, ↓IntWalk.iteOmega, ev e20, dz]
    with_reducible rfl
  apply Build.det 22 Ext.refl (by rfl) (by rw [k.size]; rfl) rfl
  case h =>
    intro ax wx hE hR hF
    have e17 : ax.eval (.tmp 17) = _ := hF 6 (det 17 _) (by decide) (.tail _ (.tail _ (.tail _ (.tail _ (.head _)))))
    have e21 : ax.eval (.tmp 21) = _ := hF 10 (det 21 _) (by decide) (.head _)
    exact x_quoN (m := n2) (j := sz) rfl e17 e21 rfl hs (by omega)
  apply Build.det 23 Ext.refl (by rfl) (by rw [k.size]; rfl) rfl
  case h =>
    intro ax wx hE hR hF
    have e22 : ax.eval (.tmp 22) = _ := hF 11 (det 22 _) (by decide) (.head _)
    exact x_val (v := .int .i64 ((slN n2 sz : Nat) : Int)) (x_min rfl e22 rfl) (int_eq (by unfold slN; omega))
  apply Build.det 4 Ext.refl (by rfl) (by rw [k.size]; rfl) rfl
  case h =>
    intro ax wx hE hR hF
    have e23 : ax.eval (.tmp 23) = _ := hF 12 (det 23 _) (by decide) (.head _)
    exact x_assign rfl e23
  apply Build.stop
  refine ⟨by kernel_rfl, .inl ⟨rfl, ?_⟩⟩
  intro a9 w10 hE R hF
  have e4 : a9.eval (.tmp 4) = _ := hF 13 (det 4 _) (.head _)
  clear hF
  replace O := OwnT.ext O R
  clear R
  replace k := k.env hE
  clear hE e0 e1 e10
  refine then_n ?_
  refine wp_ret ?_
  refine ret_F1 rfl k e4 ?_
  exact ⟨rfl, O.below⟩
def isK (sz n1 n2 : Nat) (t x : Int) : Bool := (decide (t = 0) && (decide (0 ≤ x) && decide (x < (slN n1 sz : Nat)))) || (decide (t = 1) && (decide (0 ≤ x) && decide (x < (slN n2 sz : Nat))))
theorem isK_bad {sz n1 n2 : Nat} {t x : Int} (h0 : t ≠ 0) (h1 : t ≠ 1) : isK sz n1 n2 t x = false := by simp [isK, h0, h1]
theorem isK_0 {sz n1 n2 : Nat} {x : Int} : isK sz n1 n2 0 x = (decide (0 ≤ x) && decide (x < (slN n1 sz : Nat))) := by simp [isK]
theorem isK_1 {sz n1 n2 : Nat} {x : Int} : isK sz n1 n2 1 x = (decide (0 ≤ x) && decide (x < (slN n2 sz : Nat))) := by simp [isK]
theorem isK_neg {sz n1 n2 : Nat} {t x : Int} (h : ¬ 0 ≤ x) : isK sz n1 n2 t x = false := by simp [isK, h]
set_option maxRecDepth 100000 in
set_option maxHeartbeats 4000000 in
theorem ris18_any {ub n1 c1 n2 c2 sz : Nat} {B1 B2 : Option Addr} (t x : Int) (W0 : World) (hd : Blk W0 ub 107 #[.slice B1 n1 c1, .slice B2 n2 c2, .int .i64 ↑sz]) (hs : 0 < sz) (hn : n1 ≤ 1000000) (hn2 : n2 ≤ 1000000) : Calls Try.prog 60 #[.pointer (some ⟨ub, 0, none⟩), .int .i64 t, .int .i64 x] W0 fun e w' => e = .returned (.bool (isK sz n1 n2 t x)) ∧ Ext W0 w' := by
  by_cases hx : 0 ≤ x
  rotate_left
  · rw [isK_neg hx]
    have O := OwnT.start W0
    refine calls_F Try.func60 rfl 16 rfl (by rfl) ?_
    intro a1 k hargs
    have e0 : a1.eval (.tmp 0) = .pointer (some ⟨ub, 0, none⟩) := hargs 0 _ rfl
    have e1 : a1.eval (.tmp 1) = .int .i64 t := hargs 1 _ rfl
    have e2 : a1.eval (.tmp 2) = .int .i64 x := hargs 2 _ rfl
    clear hargs
    refine wp_seq ?_
    refine wp_region_lit ?_
    have hE := Env.refl a1 [6]
    apply sq_det 6 hE k rfl (by rfl) (by rfl) rfl
    case h =>
      exact x_assign rfl rfl
    intro a2 hE e6 kp
    refine wpList_nil ?_
    replace e0 := hE.eval 0 (by rfl) e0
    replace e1 := hE.eval 1 (by rfl) e1
    replace e2 := hE.eval 2 (by rfl) e2
    replace k := k.env hE
    clear hE e6
    refine then_n ?_
    refine wp_seq ?_
    refine wp_region_lit ?_
    have hE := Env.refl a2 [7, 8, 9, 10, 11, 12, 13, 14, 15, 6]
    apply sq_det 7 hE k rfl (by rfl) (by rfl) rfl
    case h =>
      exact x_move rfl (hE.eval 2 (by rfl) e2)
    intro a3 hE e7 kp
    apply sq_det 8 hE k rfl (by rfl) (by rfl) rfl
    case h =>
      exact x_dec (x_geq rfl e7 rfl) (decide_eq_false (by omega))
    intro a4 hE e8 kp
    apply sq_det 9 hE k rfl (by rfl) (by rfl) rfl
    case h =>
      exact x_move rfl e8
    intro a5 hE e9 kp
    refine sq_skipg 10 hE k rfl (by rfl) (by rfl) rfl rfl (.inl e9) ?_
    intro a6 hE e10 kp
    replace e9 := (kp 9 rfl).trans e9
    refine sq_skipg 11 hE k rfl (by rfl) (by rfl) rfl rfl (.inl e9) ?_
    intro a7 hE e11 kp
    replace e9 := (kp 9 rfl).trans e9
    replace e10 := (kp 10 rfl).trans e10
    refine sq_skipg 12 hE k rfl (by rfl) (by rfl) rfl rfl (.inl e9) ?_
    intro a8 hE e12 kp
    replace e9 := (kp 9 rfl).trans e9
    replace e10 := (kp 10 rfl).trans e10
    replace e11 := (kp 11 rfl).trans e11
    refine sq_skipg 13 hE k rfl (by rfl) (by rfl) rfl rfl (.inl e9) ?_
    intro a9 hE e13 kp
    replace e9 := (kp 9 rfl).trans e9
    replace e10 := (kp 10 rfl).trans e10
    refine sq_skipg 14 hE k rfl (by rfl) (by rfl) rfl rfl (.inl e9) ?_
    intro a10 hE e14 kp
    replace e9 := (kp 9 rfl).trans e9
    apply sq_det 15 hE k rfl (by rfl) (by rfl) rfl
    case h =>
      exact x_pick_f rfl e9 rfl
    intro a11 hE e15 kp
    apply sq_det 6 hE k rfl (by rfl) (by rfl) rfl
    case h =>
      exact x_assign rfl e15
    intro a12 hE e6 kp
    refine wpList_nil ?_
    replace k := k.env hE
    clear hE e0 e1 e2
    refine then_n ?_
    refine wp_ret ?_
    refine ret_F1 rfl k e6 ?_
    exact ⟨rfl, O.below⟩
  by_cases h0 : t = 0
  · subst h0; rw [isK_0, decide_eq_true hx, Bool.true_and]
    have O := OwnT.start W0
    refine calls_F Try.func60 rfl 16 rfl (by rfl) ?_
    intro a1 k hargs
    have e0 : a1.eval (.tmp 0) = .pointer (some ⟨ub, 0, none⟩) := hargs 0 _ rfl
    have e1 : a1.eval (.tmp 1) = .int .i64 0 := hargs 1 _ rfl
    have e2 : a1.eval (.tmp 2) = .int .i64 x := hargs 2 _ rfl
    clear hargs
    refine wp_seq ?_
    refine wp_region_lit ?_
    have hE := Env.refl a1 [6]
    apply sq_det 6 hE k rfl (by rfl) (by rfl) rfl
    case h =>
      exact x_assign rfl rfl
    intro a2 hE e6 kp
    refine wpList_nil ?_
    replace e0 := hE.eval 0 (by rfl) e0
    replace e1 := hE.eval 1 (by rfl) e1
    replace e2 := hE.eval 2 (by rfl) e2
    replace k := k.env hE
    clear hE e6
    refine then_n ?_
    refine wp_seq ?_
    refine wp_region_lit ?_
    have hE := Env.refl a2 [7, 8, 9, 10, 11, 12, 13, 14, 15, 6]
    apply sq_det 7 hE k rfl (by rfl) (by rfl) rfl
    case h =>
      exact x_move rfl (hE.eval 2 (by rfl) e2)
    intro a3 hE e7 kp
    apply sq_det 8 hE k rfl (by rfl) (by rfl) rfl
    case h =>
      exact x_dec (x_geq rfl e7 rfl) (decide_eq_true (by omega))
    intro a4 hE e8 kp
    apply sq_det 9 hE k rfl (by rfl) (by rfl) rfl
    case h =>
      exact x_move rfl e8
    intro a5 hE e9 kp
    apply sq_detg 10 hE k rfl (by rfl) (by rfl) rfl rfl e9
    case h =>
      exact x_move rfl (hE.eval 2 (by rfl) e2)
    intro a6 hE e10 kp
    replace e9 := (kp 9 rfl).trans e9
    apply sq_detg 11 hE k rfl (by rfl) (by rfl) rfl rfl e9
    case h =>
      exact x_move rfl (hE.eval 0 (by rfl) e0)
    intro a7 hE e11 kp
    replace e9 := (kp 9 rfl).trans e9
    replace e10 := (kp 10 rfl).trans e10
    apply sq_detg 12 hE k rfl (by rfl) (by rfl) rfl rfl e9
    case h =>
      exact x_move rfl (hE.eval 1 (by rfl) e1)
    intro a8 hE e12 kp
    replace e9 := (kp 9 rfl).trans e9
    replace e10 := (kp 10 rfl).trans e10
    replace e11 := (kp 11 rfl).trans e11
    apply sq_callg 13 hE k rfl (by rfl) (by rfl) rfl rfl e9
    case h =>
      simp [go_sem, ↓IntWalk.iteOmega, ev e11, ev e12]
      with_reducible exact ⟨rfl, rfl⟩
    case hc => exact rslots18_0 _ (hd.ext O.below) hs hn
    rintro e w10 ⟨rfl, R⟩
    replace O := OwnT.ext O R
    refine ⟨_, rfl, ?_⟩
    intro a9 hE e13 kp
    replace e9 := (kp 9 rfl).trans e9
    replace e10 := (kp 10 rfl).trans e10
    apply sq_detg 14 hE k rfl (by rfl) (by rfl) rfl rfl e9
    case h =>
      exact x_lss rfl e10 e13
    intro a11 hE e14 kp
    replace e9 := (kp 9 rfl).trans e9
    apply sq_det 15 hE k rfl (by rfl) (by rfl) rfl
    case h =>
      exact x_pick_t rfl e9 e14
    intro a12 hE e15 kp
    apply sq_det 6 hE k rfl (by rfl) (by rfl) rfl
    case h =>
      exact x_assign rfl e15
    intro a13 hE e6 kp
    refine wpList_nil ?_
    replace k := k.env hE
    clear hE e0 e1 e2
    refine then_n ?_
    refine wp_ret ?_
    refine ret_F1 rfl k e6 ?_
    exact ⟨rfl, O.below⟩
  by_cases h1 : t = 1
  · subst h1; rw [isK_1, decide_eq_true hx, Bool.true_and]
    have O := OwnT.start W0
    refine calls_F Try.func60 rfl 16 rfl (by rfl) ?_
    intro a1 k hargs
    have e0 : a1.eval (.tmp 0) = .pointer (some ⟨ub, 0, none⟩) := hargs 0 _ rfl
    have e1 : a1.eval (.tmp 1) = .int .i64 1 := hargs 1 _ rfl
    have e2 : a1.eval (.tmp 2) = .int .i64 x := hargs 2 _ rfl
    clear hargs
    refine wp_seq ?_
    refine wp_region_lit ?_
    have hE := Env.refl a1 [6]
    apply sq_det 6 hE k rfl (by rfl) (by rfl) rfl
    case h =>
      exact x_assign rfl rfl
    intro a2 hE e6 kp
    refine wpList_nil ?_
    replace e0 := hE.eval 0 (by rfl) e0
    replace e1 := hE.eval 1 (by rfl) e1
    replace e2 := hE.eval 2 (by rfl) e2
    replace k := k.env hE
    clear hE e6
    refine then_n ?_
    refine wp_seq ?_
    refine wp_region_lit ?_
    have hE := Env.refl a2 [7, 8, 9, 10, 11, 12, 13, 14, 15, 6]
    apply sq_det 7 hE k rfl (by rfl) (by rfl) rfl
    case h =>
      exact x_move rfl (hE.eval 2 (by rfl) e2)
    intro a3 hE e7 kp
    apply sq_det 8 hE k rfl (by rfl) (by rfl) rfl
    case h =>
      exact x_dec (x_geq rfl e7 rfl) (decide_eq_true (by omega))
    intro a4 hE e8 kp
    apply sq_det 9 hE k rfl (by rfl) (by rfl) rfl
    case h =>
      exact x_move rfl e8
    intro a5 hE e9 kp
    apply sq_detg 10 hE k rfl (by rfl) (by rfl) rfl rfl e9
    case h =>
      exact x_move rfl (hE.eval 2 (by rfl) e2)
    intro a6 hE e10 kp
    replace e9 := (kp 9 rfl).trans e9
    apply sq_detg 11 hE k rfl (by rfl) (by rfl) rfl rfl e9
    case h =>
      exact x_move rfl (hE.eval 0 (by rfl) e0)
    intro a7 hE e11 kp
    replace e9 := (kp 9 rfl).trans e9
    replace e10 := (kp 10 rfl).trans e10
    apply sq_detg 12 hE k rfl (by rfl) (by rfl) rfl rfl e9
    case h =>
      exact x_move rfl (hE.eval 1 (by rfl) e1)
    intro a8 hE e12 kp
    replace e9 := (kp 9 rfl).trans e9
    replace e10 := (kp 10 rfl).trans e10
    replace e11 := (kp 11 rfl).trans e11
    apply sq_callg 13 hE k rfl (by rfl) (by rfl) rfl rfl e9
    case h =>
      simp [go_sem, ↓IntWalk.iteOmega, ev e11, ev e12]
      with_reducible exact ⟨rfl, rfl⟩
    case hc => exact rslots18_1 _ (hd.ext O.below) hs hn2
    rintro e w10 ⟨rfl, R⟩
    replace O := OwnT.ext O R
    refine ⟨_, rfl, ?_⟩
    intro a9 hE e13 kp
    replace e9 := (kp 9 rfl).trans e9
    replace e10 := (kp 10 rfl).trans e10
    apply sq_detg 14 hE k rfl (by rfl) (by rfl) rfl rfl e9
    case h =>
      exact x_lss rfl e10 e13
    intro a11 hE e14 kp
    replace e9 := (kp 9 rfl).trans e9
    apply sq_det 15 hE k rfl (by rfl) (by rfl) rfl
    case h =>
      exact x_pick_t rfl e9 e14
    intro a12 hE e15 kp
    apply sq_det 6 hE k rfl (by rfl) (by rfl) rfl
    case h =>
      exact x_assign rfl e15
    intro a13 hE e6 kp
    refine wpList_nil ?_
    replace k := k.env hE
    clear hE e0 e1 e2
    refine then_n ?_
    refine wp_ret ?_
    refine ret_F1 rfl k e6 ?_
    exact ⟨rfl, O.below⟩
  rw [isK_bad h0 h1, ← (decide_eq_false (show ¬ x < 0 by omega))]
  have O := OwnT.start W0
  refine calls_F Try.func60 rfl 16 rfl (by rfl) ?_
  intro a1 k hargs
  have e0 : a1.eval (.tmp 0) = .pointer (some ⟨ub, 0, none⟩) := hargs 0 _ rfl
  have e1 : a1.eval (.tmp 1) = .int .i64 t := hargs 1 _ rfl
  have e2 : a1.eval (.tmp 2) = .int .i64 x := hargs 2 _ rfl
  clear hargs
  refine wp_seq ?_
  refine wp_region_lit ?_
  have hE := Env.refl a1 [6]
  apply sq_det 6 hE k rfl (by rfl) (by rfl) rfl
  case h =>
    exact x_assign rfl rfl
  intro a2 hE e6 kp
  refine wpList_nil ?_
  replace e0 := hE.eval 0 (by rfl) e0
  replace e1 := hE.eval 1 (by rfl) e1
  replace e2 := hE.eval 2 (by rfl) e2
  replace k := k.env hE
  clear hE e6
  refine then_n ?_
  refine wp_seq ?_
  refine wp_region_lit ?_
  have hE := Env.refl a2 [7, 8, 9, 10, 11, 12, 13, 14, 15, 6]
  apply sq_det 7 hE k rfl (by rfl) (by rfl) rfl
  case h =>
    exact x_move rfl (hE.eval 2 (by rfl) e2)
  intro a3 hE e7 kp
  apply sq_det 8 hE k rfl (by rfl) (by rfl) rfl
  case h =>
    exact x_dec (x_geq rfl e7 rfl) (decide_eq_true (by omega))
  intro a4 hE e8 kp
  apply sq_det 9 hE k rfl (by rfl) (by rfl) rfl
  case h =>
    exact x_move rfl e8
  intro a5 hE e9 kp
  apply sq_detg 10 hE k rfl (by rfl) (by rfl) rfl rfl e9
  case h =>
    exact x_move rfl (hE.eval 2 (by rfl) e2)
  intro a6 hE e10 kp
  replace e9 := (kp 9 rfl).trans e9
  apply sq_detg 11 hE k rfl (by rfl) (by rfl) rfl rfl e9
  case h =>
    exact x_move rfl (hE.eval 0 (by rfl) e0)
  intro a7 hE e11 kp
  replace e9 := (kp 9 rfl).trans e9
  replace e10 := (kp 10 rfl).trans e10
  apply sq_detg 12 hE k rfl (by rfl) (by rfl) rfl rfl e9
  case h =>
    exact x_move rfl (hE.eval 1 (by rfl) e1)
  intro a8 hE e12 kp
  replace e9 := (kp 9 rfl).trans e9
  replace e10 := (kp 10 rfl).trans e10
  replace e11 := (kp 11 rfl).trans e11
  apply sq_callg 13 hE k rfl (by rfl) (by rfl) rfl rfl e9
  case h =>
    simp [go_sem, ↓IntWalk.iteOmega, ev e11, ev e12]
    with_reducible exact ⟨rfl, rfl⟩
  case hc => exact rslots18_bad ub t _ h0 h1
  rintro e w10 ⟨rfl, R⟩
  replace O := OwnT.ext O R
  refine ⟨_, rfl, ?_⟩
  intro a9 hE e13 kp
  replace e9 := (kp 9 rfl).trans e9
  replace e10 := (kp 10 rfl).trans e10
  apply sq_detg 14 hE k rfl (by rfl) (by rfl) rfl rfl e9
  case h =>
    exact x_lss rfl e10 e13
  intro a11 hE e14 kp
  replace e9 := (kp 9 rfl).trans e9
  apply sq_det 15 hE k rfl (by rfl) (by rfl) rfl
  case h =>
    exact x_pick_t rfl e9 e14
  intro a12 hE e15 kp
  apply sq_det 6 hE k rfl (by rfl) (by rfl) rfl
  case h =>
    exact x_assign rfl e15
  intro a13 hE e6 kp
  refine wpList_nil ?_
  replace k := k.env hE
  clear hE e0 e1 e2
  refine then_n ?_
  refine wp_ret ?_
  refine ret_F1 rfl k e6 ?_
  exact ⟨rfl, O.below⟩
theorem strs_cell {w : World} {B : Option Addr} {n cap j : Nat} {xs : List Sec} {s : Sec} (h : w.ownsRow 0 9 1 (.slice B n cap) n (strsV xs)) (hi : xs[j]? = some s) : ∃ g, B = some ⟨g, 0, none⟩ ∧ w.cell? ⟨g, j, none⟩ = some (.string (sB s)) := by
  obtain ⟨b, o, h1, h2⟩ := strs_row h j s hi
  have hil := (List.getElem?_eq_some_iff.1 hi).1
  have hl := h.1
  simp only [strsV, List.length_map] at hl
  obtain ⟨g, c, e, _⟩ := row1_some h (by omega)
  injection e with e1 _ e3
  subst e1 e3
  exact ⟨g, rfl, (row1_cell h (i := j) (v := .string (sB s)) (by simp [strsV, hi])).1⟩
set_option maxRecDepth 100000 in
set_option maxHeartbeats 4000000 in
theorem rget18_0 {ub n1 c1 n2 c2 sz : Nat} {B1 B2 : Option Addr} {X : List Sec} (x : Nat) (W0 : World) (hd : Blk W0 ub 107 #[.slice B1 n1 c1, .slice B2 n2 c2, .int .i64 ↑sz]) (hr : W0.ownsRow 0 9 1 (.slice B1 n1 c1) n1 (strsV X)) (hn : n1 ≤ 1000000) (hX : ∀ s ∈ X, s.length = 16) (hx : x * sz + sz ≤ n1) (hz : sz ≤ 1000) : Calls Try.prog 61 #[.pointer (some ⟨ub, 0, none⟩), .int .i64 0, .int .i64 x] W0 fun e w' => e = .returned (.string (sB ((X.drop (x * sz)).take sz).flatten)) ∧ Ext W0 w' := by
  have O := OwnT.start W0
  have hXl : X.length = n1 := by have h := hr.1; simpa [strsV] using h
  refine calls_F Try.func61 rfl 36 rfl (by rfl) ?_
  intro a1 k hargs
  have e0 : a1.eval (.tmp 0) = .pointer (some ⟨ub, 0, none⟩) := hargs 0 _ rfl
  have e1 : a1.eval (.tmp 1) = .int .i64 0 := hargs 1 _ rfl
  have e2 : a1.eval (.tmp 2) = .int .i64 ↑x := hargs 2 _ rfl
  clear hargs
  refine wp_seq ?_
  refine wp_region_lit ?_
  have hE := Env.refl a1 [6]
  apply sq_det 6 hE k rfl (by rfl) (by rfl) rfl
  case h =>
    exact x_assign rfl rfl
  intro a2 hE e6 kp
  refine wpList_nil ?_
  replace e0 := hE.eval 0 (by rfl) e0
  replace e1 := hE.eval 1 (by rfl) e1
  replace e2 := hE.eval 2 (by rfl) e2
  replace k := k.env hE
  clear hE e6
  refine then_n ?_
  refine wp_seq ?_
  refine wp_region_lit ?_
  have hE := Env.refl a2 [7]
  apply sq_det 7 hE k rfl (by rfl) (by rfl) rfl
  case h =>
    exact x_assign rfl rfl
  intro a3 hE e7 kp
  refine wpList_nil ?_
  replace e0 := hE.eval 0 (by rfl) e0
  replace e1 := hE.eval 1 (by rfl) e1
  replace e2 := hE.eval 2 (by rfl) e2
  replace k := k.env hE
  clear hE
  refine then_n ?_
  refine wp_seq ?_
  refine wp_seq ?_
  refine wp_region_lit ?_
  have hE := Env.refl a3 [8]
  apply sq_det 8 hE k rfl (by rfl) (by rfl) rfl
  case h =>
    exact x_assign rfl rfl
  intro a4 hE e8 kp
  refine wpList_nil ?_
  replace e0 := hE.eval 0 (by rfl) e0
  replace e1 := hE.eval 1 (by rfl) e1
  replace e2 := hE.eval 2 (by rfl) e2
  replace e7 := hE.eval 7 (by rfl) e7
  replace k := k.env hE
  clear hE
  refine then_n ?_
  refine wp_block ?_
  refine wp_loop (fun a w => Fr 36 a ∧ a.eval (.tmp 0) = .pointer (some ⟨ub, 0, none⟩) ∧ a.eval (.tmp 1) = .int .i64 0 ∧ a.eval (.tmp 2) = .int .i64 ↑x ∧ ∃ j : Nat, a.eval (.tmp 7) = .string (sB (((X.drop (x * sz)).take j).flatten)) ∧ a.eval (.tmp 8) = .int .i64 ↑j ∧ j ≤ sz ∧ OwnT W0.heap.size W0 [] w) (fun a w => sz - (intOf (a.eval (.tmp 8))).toNat) ?_ ?_
  · exact ⟨k, e0, e1, e2, 0, e7, e8, Nat.zero_le _, O⟩
  intro a5 w6 hI
  clear k e0 e1 e2
  obtain ⟨k, e0, e1, e2, h_⟩ := hI
  clear O e7 e8
  obtain ⟨j, e7, e8, hj, O⟩ := h_
  have mj := e8
  refine wp_seq ?_
  refine wp_seq ?_
  refine wp_region_lit ?_
  have hE := Env.refl a5 [9, 10, 11, 12, 13, 14]
  apply sq_det 9 hE k rfl (by rfl) (by rfl) rfl
  case h =>
    exact x_move rfl (hE.eval 8 (by rfl) e8)
  intro a7 hE e9 kp
  apply sq_det 10 hE k rfl (by rfl) (by rfl) rfl
  case h =>
    exact x_move rfl (hE.eval 0 (by rfl) e0)
  intro a8 hE e10 kp
  replace e9 := (kp 9 rfl).trans e9
  apply sq_det 11 hE k rfl (by rfl) (by rfl) rfl
  case h =>
    exact x_nil rfl e10
  intro a9 hE e11 kp
  replace e9 := (kp 9 rfl).trans e9
  apply sq_det 12 hE k rfl (by rfl) (by rfl) rfl
  case h =>
    simp [go_sem, ↓IntWalk.iteOmega, ev e11]
    with_reducible rfl
  intro a10 hE e12 kp
  replace e9 := (kp 9 rfl).trans e9
  apply sq_det 13 hE k rfl (by rfl) (by rfl) rfl
  case h =>
    have dz : w6.cell? ⟨ub, 2, none⟩ = some (.int .i64 sz) := (hd.ext O.below).cell 2
    simp [go_sem, ↓IntWalk.iteOmega, ev e12, dz]
    with_reducible rfl
  intro a11 hE e13 kp
  replace e9 := (kp 9 rfl).trans e9
  apply sq_det 14 hE k rfl (by rfl) (by rfl) rfl
  case h =>
    exact x_lss rfl e9 e13
  intro a12 hE e14 kp
  refine wpList_nil ?_
  replace e0 := hE.eval 0 (by rfl) e0
  replace e1 := hE.eval 1 (by rfl) e1
  replace e2 := hE.eval 2 (by rfl) e2
  replace e7 := hE.eval 7 (by rfl) e7
  replace e8 := hE.eval 8 (by rfl) e8
  replace k := k.env hE
  clear hE
  refine then_n ?_
  by_cases hlt : j < sz
  · have hltI : (j : Int) < (sz : Int) := by omega
    refine cond_t e14 (congrArg Value.bool (decide_eq_true (by omega))) ?_
    clear e14
    obtain ⟨s, hs⟩ : ∃ s, X[x * sz + j]? = some s := ⟨_, List.getElem?_eq_getElem (by omega)⟩
    obtain ⟨g, rfl, cs⟩ := strs_cell hr hs
    obtain ⟨q, hq⟩ : ∃ q, x * sz + j = q := ⟨_, rfl⟩
    rw [hq] at cs hs
    have hs16 := hX s (List.mem_of_getElem? hs)
    have hfl : (((X.drop (x * sz)).take j).flatten).length ≤ 16 * j := flat_take_le (fun s hs => hX s (List.mem_of_mem_drop hs)) j
    refine wp_skip ?_
    refine then_n ?_
    refine wp_seq ?_
    refine wp_block ?_
    refine wp_tail (w0 := w6) [[], [], [], [1], [1, 3], [1, 2, 3, 4], [1, 2, 3, 4, 5], [], [], [8], [8, 9], [8, 9, 10], [7, 8, 9, 10, 11], [], [7, 8, 9, 10, 11, 12, 13], [1, 2, 3, 4, 5, 6, 7, 8, 9, 10, 11, 12, 13, 14], [1, 2, 3, 4, 5, 6, 7, 8, 9, 10, 11, 12, 13, 14, 15], [0, 1, 2, 3, 4, 5, 6, 7, 8, 9, 10, 11, 12, 13, 14, 15, 16], [0, 1, 2, 3, 4, 5, 6, 7, 8, 9, 10, 11, 12, 13, 14, 15, 16, 17]] [17, 18, 19, 20, 21, 22, 23, 24, 25, 26, 27, 28, 29, 30, 31, 32, 33, 34] (by kernel_rfl) ?_
    apply BuildL.det 17 (fun _ w_ => Ext.refl w_) (fun _ _ h => h) (by rfl) (by rw [k.size]; rfl) rfl
    case h =>
      intro lx ax wx hE hR hF
      exact x_move rfl (hE.eval 7 (by rfl) e7)
    apply BuildL.det 18 (fun _ w_ => Ext.refl w_) (fun _ _ h => h) (by rfl) (by rw [k.size]; rfl) rfl
    case h =>
      intro lx ax wx hE hR hF
      exact x_move rfl (hE.eval 0 (by rfl) e0)
    apply BuildL.det 19 (fun _ w_ => Ext.refl w_) (fun _ _ h => h) (by rfl) (by rw [k.size]; rfl) rfl
    case h =>
      intro lx ax wx hE hR hF
      exact x_move rfl (hE.eval 1 (by rfl) e1)
    apply BuildL.det 20 (fun _ w_ => Ext.refl w_) (fun _ _ h => h) (by rfl) (by rw [k.size]; rfl) rfl
    case h =>
      intro lx ax wx hE hR hF
      have e18 : ax.eval (.tmp 18) = _ := hF 1 (detL 1 18 _) (by decide) (.tail _ (.head _))
      exact x_nil rfl e18
    apply BuildL.det 21 (fun _ w_ => Ext.refl w_) (fun _ _ h => h) (by rfl) (by rw [k.size]; rfl) rfl
    case h =>
      intro lx ax wx hE hR hF
      have e20 : ax.eval (.tmp 20) = _ := hF 3 (detL 3 20 _) (by decide) (.head _)
      simp [go_sem, ↓IntWalk.iteOmega, ev e20]
      with_reducible rfl
    apply BuildL.det 22 (fun _ w_ => Ext.refl w_) (fun _ _ h => h) (by rfl) (by rw [k.size]; rfl) rfl
    case h =>
      intro lx ax wx hE hR hF
      have e19 : ax.eval (.tmp 19) = _ := hF 2 (detL 2 19 _) (by decide) (.tail _ (.tail _ (.head _)))
      have e21 : ax.eval (.tmp 21) = _ := hF 4 (detL 4 21 _) (by decide) (.head _)
      simp [go_sem, ↓IntWalk.iteOmega, ev e19, ev e21]
      with_reducible rfl
    apply BuildL.det 23 (fun _ w_ => Ext.refl w_) (fun _ _ h => h) (by rfl) (by rw [k.size]; rfl) rfl
    case h =>
      intro lx ax wx hE hR hF
      have e22 : ax.eval (.tmp 22) = _ := hF 5 (detL 5 22 _) (by decide) (.head _)
      have dt : wx.cell? ⟨ub, 0, none⟩ = some (.slice (some ⟨g, 0, none⟩) n1 c1) := (hd.ext (OwnT.ext O hR).below).cell 0
      simp [go_sem, ↓IntWalk.iteOmega, ev e22, dt]
      with_reducible rfl
    apply BuildL.det 24 (fun _ w_ => Ext.refl w_) (fun _ _ h => h) (by rfl) (by rw [k.size]; rfl) rfl
    case h =>
      intro lx ax wx hE hR hF
      exact x_move rfl (hE.eval 2 (by rfl) e2)
    apply BuildL.det 25 (fun _ w_ => Ext.refl w_) (fun _ _ h => h) (by rfl) (by rw [k.size]; rfl) rfl
    case h =>
      intro lx ax wx hE hR hF
      exact x_move rfl (hE.eval 0 (by rfl) e0)
    apply BuildL.det 26 (fun _ w_ => Ext.refl w_) (fun _ _ h => h) (by rfl) (by rw [k.size]; rfl) rfl
    case h =>
      intro lx ax wx hE hR hF
      have e25 : ax.eval (.tmp 25) = _ := hF 8 (detL 8 25 _) (by decide) (.head _)
      exact x_nil rfl e25
    apply BuildL.det 27 (fun _ w_ => Ext.refl w_) (fun _ _ h => h) (by rfl) (by rw [k.size]; rfl) rfl
    case h =>
      intro lx ax wx hE hR hF
      have e26 : ax.eval (.tmp 26) = _ := hF 9 (detL 9 26 _) (by decide) (.head _)
      simp [go_sem, ↓IntWalk.iteOmega, ev e26]
      with_reducible rfl
    apply BuildL.det 28 (fun _ w_ => Ext.refl w_) (fun _ _ h => h) (by rfl) (by rw [k.size]; rfl) rfl
    case h =>
      intro lx ax wx hE hR hF
      have e27 : ax.eval (.tmp 27) = _ := hF 10 (detL 10 27 _) (by decide) (.head _)
      have dz : wx.cell? ⟨ub, 2, none⟩ = some (.int .i64 sz) := (hd.ext (OwnT.ext O hR).below).cell 2
      simp [go_sem, ↓IntWalk.iteOmega, ev e27, dz]
      with_reducible rfl
    apply BuildL.det 29 (fun _ w_ => Ext.refl w_) (fun _ _ h => h) (by rfl) (by rw [k.size]; rfl) rfl
    case h =>
      intro lx ax wx hE hR hF
      have e24 : ax.eval (.tmp 24) = _ := hF 7 (detL 7 24 _) (by decide) (.tail _ (.tail _ (.tail _ (.tail _ (.head _)))))
      have e28 : ax.eval (.tmp 28) = _ := hF 11 (detL 11 28 _) (by decide) (.head _)
      exact x_val (v := .int .i64 ((x * sz : Nat) : Int)) (x_mul rfl e24 e28 (by rw [← Int.natCast_mul]; omega)) (int_eq (Int.natCast_mul x sz).symm)
    apply BuildL.det 30 (fun _ w_ => Ext.refl w_) (fun _ _ h => h) (by rfl) (by rw [k.size]; rfl) rfl
    case h =>
      intro lx ax wx hE hR hF
      exact x_move rfl (hE.eval 8 (by rfl) e8)
    apply BuildL.det 31 (fun _ w_ => Ext.refl w_) (fun _ _ h => h) (by rfl) (by rw [k.size]; rfl) rfl
    case h =>
      intro lx ax wx hE hR hF
      have e29 : ax.eval (.tmp 29) = _ := hF 12 (detL 12 29 _) (by decide) (.tail _ (.head _))
      have e30 : ax.eval (.tmp 30) = _ := hF 13 (detL 13 30 _) (by decide) (.head _)
      exact x_val (v := .int .i64 (q : Int)) (x_add rfl e29 e30 (by omega)) (int_eq (by omega))
    apply BuildL.det 32 (fun _ w_ => Ext.refl w_) (fun _ _ h => h) (by rfl) (by rw [k.size]; rfl) rfl
    case h =>
      intro lx ax wx hE hR hF
      have e23 : ax.eval (.tmp 23) = _ := hF 6 (detL 6 23 _) (by decide) (.tail _ (.tail _ (.tail _ (.tail _ (.tail _ (.tail _ (.tail _ (.tail _ (.head _)))))))))
      have e31 : ax.eval (.tmp 31) = _ := hF 14 (detL 14 31 _) (by decide) (.head _)
      simp [go_sem, ↓IntWalk.iteOmega, ev e23, ev e31]
      with_reducible rfl
    apply BuildL.det 33 (fun _ w_ => Ext.refl w_) (fun _ _ h => h) (by rfl) (by rw [k.size]; rfl) rfl
    case h =>
      intro lx ax wx hE hR hF
      have e32 : ax.eval (.tmp 32) = _ := hF 15 (detL 15 32 _) (by decide) (.head _)
      have cs' := cellB (OwnT.ext O hR).below cs
      simp [go_sem, ↓IntWalk.iteOmega, ev e32, cs']
      with_reducible rfl
    apply BuildL.det 34 (fun _ w_ => Ext.refl w_) (fun _ _ h => h) (by rfl) (by rw [k.size]; rfl) rfl
    case h =>
      intro lx ax wx hE hR hF
      have e17 : ax.eval (.tmp 17) = _ := hF 0 (detL 0 17 _) (by decide) (.tail _ (.tail _ (.tail _ (.tail _ (.tail _ (.tail _ (.tail _ (.tail _ (.tail _ (.tail _ (.tail _ (.tail _ (.tail _ (.tail _ (.tail _ (.tail _ (.head _)))))))))))))))))
      have e33 : ax.eval (.tmp 33) = _ := hF 16 (detL 16 33 _) (by decide) (.head _)
      exact x_cat rfl e17 e33 (by omega)
    apply BuildL.stop
    refine ⟨by kernel_rfl, ?_⟩
    intro lx a13 w14 hE R hL hF
    have e34 : a13.eval (.tmp 34) = _ := hF 17 (detL 17 34 _) (.head _)
    clear hF hL
    replace O := OwnT.ext O R
    clear R
    simp only [List.length_cons, List.length_nil, Nat.zero_add, Nat.reduceAdd, List.drop_succ_cons, List.drop_zero, List.drop_nil, tailOps]
    apply tail_val (w' := w14) 7 [17, 18, 19, 20, 21, 22, 23, 24, 25, 26, 27, 28, 29, 30, 31, 32, 33, 34, 7] hE k rfl (by rfl) (by rfl) (by rfl)
    case h =>
      exact x_assign rfl e34
    intro a15 hE e7 kp
    replace e0 := hE.eval 0 (by rfl) e0
    replace e1 := hE.eval 1 (by rfl) e1
    replace e2 := hE.eval 2 (by rfl) e2
    replace e8 := hE.eval 8 (by rfl) e8
    replace k := k.env hE
    clear hE
    refine block_n ?_
    refine then_n ?_
    refine wp_region_lit ?_
    have hE := Env.refl a15 [15, 16, 8]
    apply sq_det 15 hE k rfl (by rfl) (by rfl) rfl
    case h =>
      exact x_move rfl e8
    intro a16 hE e15 kp
    replace e8 := (kp 8 rfl).trans e8
    apply sq_det 16 hE k rfl (by rfl) (by rfl) rfl
    case h =>
      exact x_add rfl e15 rfl (by omega)
    intro a17 hE e16 kp
    replace e8 := (kp 8 rfl).trans e8
    apply sq_det 8 hE k rfl (by rfl) (by rfl) rfl
    case h =>
      exact x_assign rfl e16
    intro a18 hE e8 kp
    refine wpList_nil ?_
    replace e0 := hE.eval 0 (by rfl) e0
    replace e1 := hE.eval 1 (by rfl) e1
    replace e2 := hE.eval 2 (by rfl) e2
    replace e7 := hE.eval 7 (by rfl) e7
    replace k := k.env hE
    clear hE
    refine then_n ?_
    rw [flat_take_succ (xs := X.drop (x * sz)) (j := j) (by rw [List.getElem?_drop, hq]; exact hs)] at e7
    refine ⟨⟨k, e0, e1, e2, j + 1, e7, e8, by omega, O⟩, ?_⟩
    rw [e8, mj]; simp only [intOf]; omega
  · have hltI : ¬ (j : Int) < (sz : Int) := by omega
    refine cond_f e14 (congrArg Value.bool (decide_eq_false (by omega))) ?_
    clear e0 e1 e2 e8 e14
    obtain rfl : j = sz := by omega
    refine wp_exit ?_
    refine then_x ?_
    refine then_x ?_
    refine block_x ?_
    refine then_n ?_
    refine wp_seq ?_
    refine wp_region_lit ?_
    have hE := Env.refl a12 [35, 6]
    apply sq_det 35 hE k rfl (by rfl) (by rfl) rfl
    case h =>
      exact x_move rfl (hE.eval 7 (by rfl) e7)
    intro a19 hE e35 kp
    apply sq_det 6 hE k rfl (by rfl) (by rfl) rfl
    case h =>
      exact x_assign rfl e35
    intro a20 hE e6 kp
    refine wpList_nil ?_
    replace k := k.env hE
    clear hE e7
    refine then_n ?_
    refine wp_ret ?_
    refine ret_F1 rfl k e6 ?_
    exact ⟨rfl, O.below⟩
set_option maxRecDepth 100000 in
set_option maxHeartbeats 4000000 in
theorem rget18_1 {ub n1 c1 n2 c2 sz : Nat} {B1 B2 : Option Addr} {X : List Sec} (x : Nat) (W0 : World) (hd : Blk W0 ub 107 #[.slice B1 n1 c1, .slice B2 n2 c2, .int .i64 ↑sz]) (hr : W0.ownsRow 0 9 1 (.slice B2 n2 c2) n2 (strsV X)) (hn : n2 ≤ 1000000) (hX : ∀ s ∈ X, s.length = 16) (hx : x * sz + sz ≤ n2) (hz : sz ≤ 1000) : Calls Try.prog 61 #[.pointer (some ⟨ub, 0, none⟩), .int .i64 1, .int .i64 x] W0 fun e w' => e = .returned (.string (sB ((X.drop (x * sz)).take sz).flatten)) ∧ Ext W0 w' := by
  have O := OwnT.start W0
  have hXl : X.length = n2 := by have h := hr.1; simpa [strsV] using h
  refine calls_F Try.func61 rfl 36 rfl (by rfl) ?_
  intro a1 k hargs
  have e0 : a1.eval (.tmp 0) = .pointer (some ⟨ub, 0, none⟩) := hargs 0 _ rfl
  have e1 : a1.eval (.tmp 1) = .int .i64 1 := hargs 1 _ rfl
  have e2 : a1.eval (.tmp 2) = .int .i64 ↑x := hargs 2 _ rfl
  clear hargs
  refine wp_seq ?_
  refine wp_region_lit ?_
  have hE := Env.refl a1 [6]
  apply sq_det 6 hE k rfl (by rfl) (by rfl) rfl
  case h =>
    exact x_assign rfl rfl
  intro a2 hE e6 kp
  refine wpList_nil ?_
  replace e0 := hE.eval 0 (by rfl) e0
  replace e1 := hE.eval 1 (by rfl) e1
  replace e2 := hE.eval 2 (by rfl) e2
  replace k := k.env hE
  clear hE e6
  refine then_n ?_
  refine wp_seq ?_
  refine wp_region_lit ?_
  have hE := Env.refl a2 [7]
  apply sq_det 7 hE k rfl (by rfl) (by rfl) rfl
  case h =>
    exact x_assign rfl rfl
  intro a3 hE e7 kp
  refine wpList_nil ?_
  replace e0 := hE.eval 0 (by rfl) e0
  replace e1 := hE.eval 1 (by rfl) e1
  replace e2 := hE.eval 2 (by rfl) e2
  replace k := k.env hE
  clear hE
  refine then_n ?_
  refine wp_seq ?_
  refine wp_seq ?_
  refine wp_region_lit ?_
  have hE := Env.refl a3 [8]
  apply sq_det 8 hE k rfl (by rfl) (by rfl) rfl
  case h =>
    exact x_assign rfl rfl
  intro a4 hE e8 kp
  refine wpList_nil ?_
  replace e0 := hE.eval 0 (by rfl) e0
  replace e1 := hE.eval 1 (by rfl) e1
  replace e2 := hE.eval 2 (by rfl) e2
  replace e7 := hE.eval 7 (by rfl) e7
  replace k := k.env hE
  clear hE
  refine then_n ?_
  refine wp_block ?_
  refine wp_loop (fun a w => Fr 36 a ∧ a.eval (.tmp 0) = .pointer (some ⟨ub, 0, none⟩) ∧ a.eval (.tmp 1) = .int .i64 1 ∧ a.eval (.tmp 2) = .int .i64 ↑x ∧ ∃ j : Nat, a.eval (.tmp 7) = .string (sB (((X.drop (x * sz)).take j).flatten)) ∧ a.eval (.tmp 8) = .int .i64 ↑j ∧ j ≤ sz ∧ OwnT W0.heap.size W0 [] w) (fun a w => sz - (intOf (a.eval (.tmp 8))).toNat) ?_ ?_
  · exact ⟨k, e0, e1, e2, 0, e7, e8, Nat.zero_le _, O⟩
  intro a5 w6 hI
  clear k e0 e1 e2
  obtain ⟨k, e0, e1, e2, h_⟩ := hI
  clear O e7 e8
  obtain ⟨j, e7, e8, hj, O⟩ := h_
  have mj := e8
  refine wp_seq ?_
  refine wp_seq ?_
  refine wp_region_lit ?_
  have hE := Env.refl a5 [9, 10, 11, 12, 13, 14]
  apply sq_det 9 hE k rfl (by rfl) (by rfl) rfl
  case h =>
    exact x_move rfl (hE.eval 8 (by rfl) e8)
  intro a7 hE e9 kp
  apply sq_det 10 hE k rfl (by rfl) (by rfl) rfl
  case h =>
    exact x_move rfl (hE.eval 0 (by rfl) e0)
  intro a8 hE e10 kp
  replace e9 := (kp 9 rfl).trans e9
  apply sq_det 11 hE k rfl (by rfl) (by rfl) rfl
  case h =>
    exact x_nil rfl e10
  intro a9 hE e11 kp
  replace e9 := (kp 9 rfl).trans e9
  apply sq_det 12 hE k rfl (by rfl) (by rfl) rfl
  case h =>
    simp [go_sem, ↓IntWalk.iteOmega, ev e11]
    with_reducible rfl
  intro a10 hE e12 kp
  replace e9 := (kp 9 rfl).trans e9
  apply sq_det 13 hE k rfl (by rfl) (by rfl) rfl
  case h =>
    have dz : w6.cell? ⟨ub, 2, none⟩ = some (.int .i64 sz) := (hd.ext O.below).cell 2
    simp [go_sem, ↓IntWalk.iteOmega, ev e12, dz]
    with_reducible rfl
  intro a11 hE e13 kp
  replace e9 := (kp 9 rfl).trans e9
  apply sq_det 14 hE k rfl (by rfl) (by rfl) rfl
  case h =>
    exact x_lss rfl e9 e13
  intro a12 hE e14 kp
  refine wpList_nil ?_
  replace e0 := hE.eval 0 (by rfl) e0
  replace e1 := hE.eval 1 (by rfl) e1
  replace e2 := hE.eval 2 (by rfl) e2
  replace e7 := hE.eval 7 (by rfl) e7
  replace e8 := hE.eval 8 (by rfl) e8
  replace k := k.env hE
  clear hE
  refine then_n ?_
  by_cases hlt : j < sz
  · have hltI : (j : Int) < (sz : Int) := by omega
    refine cond_t e14 (congrArg Value.bool (decide_eq_true (by omega))) ?_
    clear e14
    obtain ⟨s, hs⟩ : ∃ s, X[x * sz + j]? = some s := ⟨_, List.getElem?_eq_getElem (by omega)⟩
    obtain ⟨g, rfl, cs⟩ := strs_cell hr hs
    obtain ⟨q, hq⟩ : ∃ q, x * sz + j = q := ⟨_, rfl⟩
    rw [hq] at cs hs
    have hs16 := hX s (List.mem_of_getElem? hs)
    have hfl : (((X.drop (x * sz)).take j).flatten).length ≤ 16 * j := flat_take_le (fun s hs => hX s (List.mem_of_mem_drop hs)) j
    refine wp_skip ?_
    refine then_n ?_
    refine wp_seq ?_
    refine wp_block ?_
    refine wp_tail (w0 := w6) [[], [], [], [1], [1, 3], [1, 2, 3, 4], [1, 2, 3, 4, 5], [], [], [8], [8, 9], [8, 9, 10], [7, 8, 9, 10, 11], [], [7, 8, 9, 10, 11, 12, 13], [1, 2, 3, 4, 5, 6, 7, 8, 9, 10, 11, 12, 13, 14], [1, 2, 3, 4, 5, 6, 7, 8, 9, 10, 11, 12, 13, 14, 15], [0, 1, 2, 3, 4, 5, 6, 7, 8, 9, 10, 11, 12, 13, 14, 15, 16], [0, 1, 2, 3, 4, 5, 6, 7, 8, 9, 10, 11, 12, 13, 14, 15, 16, 17]] [17, 18, 19, 20, 21, 22, 23, 24, 25, 26, 27, 28, 29, 30, 31, 32, 33, 34] (by kernel_rfl) ?_
    apply BuildL.det 17 (fun _ w_ => Ext.refl w_) (fun _ _ h => h) (by rfl) (by rw [k.size]; rfl) rfl
    case h =>
      intro lx ax wx hE hR hF
      exact x_move rfl (hE.eval 7 (by rfl) e7)
    apply BuildL.det 18 (fun _ w_ => Ext.refl w_) (fun _ _ h => h) (by rfl) (by rw [k.size]; rfl) rfl
    case h =>
      intro lx ax wx hE hR hF
      exact x_move rfl (hE.eval 0 (by rfl) e0)
    apply BuildL.det 19 (fun _ w_ => Ext.refl w_) (fun _ _ h => h) (by rfl) (by rw [k.size]; rfl) rfl
    case h =>
      intro lx ax wx hE hR hF
      exact x_move rfl (hE.eval 1 (by rfl) e1)
    apply BuildL.det 20 (fun _ w_ => Ext.refl w_) (fun _ _ h => h) (by rfl) (by rw [k.size]; rfl) rfl
    case h =>
      intro lx ax wx hE hR hF
      have e18 : ax.eval (.tmp 18) = _ := hF 1 (detL 1 18 _) (by decide) (.tail _ (.head _))
      exact x_nil rfl e18
    apply BuildL.det 21 (fun _ w_ => Ext.refl w_) (fun _ _ h => h) (by rfl) (by rw [k.size]; rfl) rfl
    case h =>
      intro lx ax wx hE hR hF
      have e20 : ax.eval (.tmp 20) = _ := hF 3 (detL 3 20 _) (by decide) (.head _)
      simp [go_sem, ↓IntWalk.iteOmega, ev e20]
      with_reducible rfl
    apply BuildL.det 22 (fun _ w_ => Ext.refl w_) (fun _ _ h => h) (by rfl) (by rw [k.size]; rfl) rfl
    case h =>
      intro lx ax wx hE hR hF
      have e19 : ax.eval (.tmp 19) = _ := hF 2 (detL 2 19 _) (by decide) (.tail _ (.tail _ (.head _)))
      have e21 : ax.eval (.tmp 21) = _ := hF 4 (detL 4 21 _) (by decide) (.head _)
      simp [go_sem, ↓IntWalk.iteOmega, ev e19, ev e21]
      with_reducible rfl
    apply BuildL.det 23 (fun _ w_ => Ext.refl w_) (fun _ _ h => h) (by rfl) (by rw [k.size]; rfl) rfl
    case h =>
      intro lx ax wx hE hR hF
      have e22 : ax.eval (.tmp 22) = _ := hF 5 (detL 5 22 _) (by decide) (.head _)
      have dt : wx.cell? ⟨ub, 1, none⟩ = some (.slice (some ⟨g, 0, none⟩) n2 c2) := (hd.ext (OwnT.ext O hR).below).cell 1
      simp [go_sem, ↓IntWalk.iteOmega, ev e22, dt]
      with_reducible rfl
    apply BuildL.det 24 (fun _ w_ => Ext.refl w_) (fun _ _ h => h) (by rfl) (by rw [k.size]; rfl) rfl
    case h =>
      intro lx ax wx hE hR hF
      exact x_move rfl (hE.eval 2 (by rfl) e2)
    apply BuildL.det 25 (fun _ w_ => Ext.refl w_) (fun _ _ h => h) (by rfl) (by rw [k.size]; rfl) rfl
    case h =>
      intro lx ax wx hE hR hF
      exact x_move rfl (hE.eval 0 (by rfl) e0)
    apply BuildL.det 26 (fun _ w_ => Ext.refl w_) (fun _ _ h => h) (by rfl) (by rw [k.size]; rfl) rfl
    case h =>
      intro lx ax wx hE hR hF
      have e25 : ax.eval (.tmp 25) = _ := hF 8 (detL 8 25 _) (by decide) (.head _)
      exact x_nil rfl e25
    apply BuildL.det 27 (fun _ w_ => Ext.refl w_) (fun _ _ h => h) (by rfl) (by rw [k.size]; rfl) rfl
    case h =>
      intro lx ax wx hE hR hF
      have e26 : ax.eval (.tmp 26) = _ := hF 9 (detL 9 26 _) (by decide) (.head _)
      simp [go_sem, ↓IntWalk.iteOmega, ev e26]
      with_reducible rfl
    apply BuildL.det 28 (fun _ w_ => Ext.refl w_) (fun _ _ h => h) (by rfl) (by rw [k.size]; rfl) rfl
    case h =>
      intro lx ax wx hE hR hF
      have e27 : ax.eval (.tmp 27) = _ := hF 10 (detL 10 27 _) (by decide) (.head _)
      have dz : wx.cell? ⟨ub, 2, none⟩ = some (.int .i64 sz) := (hd.ext (OwnT.ext O hR).below).cell 2
      simp [go_sem, ↓IntWalk.iteOmega, ev e27, dz]
      with_reducible rfl
    apply BuildL.det 29 (fun _ w_ => Ext.refl w_) (fun _ _ h => h) (by rfl) (by rw [k.size]; rfl) rfl
    case h =>
      intro lx ax wx hE hR hF
      have e24 : ax.eval (.tmp 24) = _ := hF 7 (detL 7 24 _) (by decide) (.tail _ (.tail _ (.tail _ (.tail _ (.head _)))))
      have e28 : ax.eval (.tmp 28) = _ := hF 11 (detL 11 28 _) (by decide) (.head _)
      exact x_val (v := .int .i64 ((x * sz : Nat) : Int)) (x_mul rfl e24 e28 (by rw [← Int.natCast_mul]; omega)) (int_eq (Int.natCast_mul x sz).symm)
    apply BuildL.det 30 (fun _ w_ => Ext.refl w_) (fun _ _ h => h) (by rfl) (by rw [k.size]; rfl) rfl
    case h =>
      intro lx ax wx hE hR hF
      exact x_move rfl (hE.eval 8 (by rfl) e8)
    apply BuildL.det 31 (fun _ w_ => Ext.refl w_) (fun _ _ h => h) (by rfl) (by rw [k.size]; rfl) rfl
    case h =>
      intro lx ax wx hE hR hF
      have e29 : ax.eval (.tmp 29) = _ := hF 12 (detL 12 29 _) (by decide) (.tail _ (.head _))
      have e30 : ax.eval (.tmp 30) = _ := hF 13 (detL 13 30 _) (by decide) (.head _)
      exact x_val (v := .int .i64 (q : Int)) (x_add rfl e29 e30 (by omega)) (int_eq (by omega))
    apply BuildL.det 32 (fun _ w_ => Ext.refl w_) (fun _ _ h => h) (by rfl) (by rw [k.size]; rfl) rfl
    case h =>
      intro lx ax wx hE hR hF
      have e23 : ax.eval (.tmp 23) = _ := hF 6 (detL 6 23 _) (by decide) (.tail _ (.tail _ (.tail _ (.tail _ (.tail _ (.tail _ (.tail _ (.tail _ (.head _)))))))))
      have e31 : ax.eval (.tmp 31) = _ := hF 14 (detL 14 31 _) (by decide) (.head _)
      simp [go_sem, ↓IntWalk.iteOmega, ev e23, ev e31]
      with_reducible rfl
    apply BuildL.det 33 (fun _ w_ => Ext.refl w_) (fun _ _ h => h) (by rfl) (by rw [k.size]; rfl) rfl
    case h =>
      intro lx ax wx hE hR hF
      have e32 : ax.eval (.tmp 32) = _ := hF 15 (detL 15 32 _) (by decide) (.head _)
      have cs' := cellB (OwnT.ext O hR).below cs
      simp [go_sem, ↓IntWalk.iteOmega, ev e32, cs']
      with_reducible rfl
    apply BuildL.det 34 (fun _ w_ => Ext.refl w_) (fun _ _ h => h) (by rfl) (by rw [k.size]; rfl) rfl
    case h =>
      intro lx ax wx hE hR hF
      have e17 : ax.eval (.tmp 17) = _ := hF 0 (detL 0 17 _) (by decide) (.tail _ (.tail _ (.tail _ (.tail _ (.tail _ (.tail _ (.tail _ (.tail _ (.tail _ (.tail _ (.tail _ (.tail _ (.tail _ (.tail _ (.tail _ (.tail _ (.head _)))))))))))))))))
      have e33 : ax.eval (.tmp 33) = _ := hF 16 (detL 16 33 _) (by decide) (.head _)
      exact x_cat rfl e17 e33 (by omega)
    apply BuildL.stop
    refine ⟨by kernel_rfl, ?_⟩
    intro lx a13 w14 hE R hL hF
    have e34 : a13.eval (.tmp 34) = _ := hF 17 (detL 17 34 _) (.head _)
    clear hF hL
    replace O := OwnT.ext O R
    clear R
    simp only [List.length_cons, List.length_nil, Nat.zero_add, Nat.reduceAdd, List.drop_succ_cons, List.drop_zero, List.drop_nil, tailOps]
    apply tail_val (w' := w14) 7 [17, 18, 19, 20, 21, 22, 23, 24, 25, 26, 27, 28, 29, 30, 31, 32, 33, 34, 7] hE k rfl (by rfl) (by rfl) (by rfl)
    case h =>
      exact x_assign rfl e34
    intro a15 hE e7 kp
    replace e0 := hE.eval 0 (by rfl) e0
    replace e1 := hE.eval 1 (by rfl) e1
    replace e2 := hE.eval 2 (by rfl) e2
    replace e8 := hE.eval 8 (by rfl) e8
    replace k := k.env hE
    clear hE
    refine block_n ?_
    refine then_n ?_
    refine wp_region_lit ?_
    have hE := Env.refl a15 [15, 16, 8]
    apply sq_det 15 hE k rfl (by rfl) (by rfl) rfl
    case h =>
      exact x_move rfl e8
    intro a16 hE e15 kp
    replace e8 := (kp 8 rfl).trans e8
    apply sq_det 16 hE k rfl (by rfl) (by rfl) rfl
    case h =>
      exact x_add rfl e15 rfl (by omega)
    intro a17 hE e16 kp
    replace e8 := (kp 8 rfl).trans e8
    apply sq_det 8 hE k rfl (by rfl) (by rfl) rfl
    case h =>
      exact x_assign rfl e16
    intro a18 hE e8 kp
    refine wpList_nil ?_
    replace e0 := hE.eval 0 (by rfl) e0
    replace e1 := hE.eval 1 (by rfl) e1
    replace e2 := hE.eval 2 (by rfl) e2
    replace e7 := hE.eval 7 (by rfl) e7
    replace k := k.env hE
    clear hE
    refine then_n ?_
    rw [flat_take_succ (xs := X.drop (x * sz)) (j := j) (by rw [List.getElem?_drop, hq]; exact hs)] at e7
    refine ⟨⟨k, e0, e1, e2, j + 1, e7, e8, by omega, O⟩, ?_⟩
    rw [e8, mj]; simp only [intOf]; omega
  · have hltI : ¬ (j : Int) < (sz : Int) := by omega
    refine cond_f e14 (congrArg Value.bool (decide_eq_false (by omega))) ?_
    clear e0 e1 e2 e8 e14
    obtain rfl : j = sz := by omega
    refine wp_exit ?_
    refine then_x ?_
    refine then_x ?_
    refine block_x ?_
    refine then_n ?_
    refine wp_seq ?_
    refine wp_region_lit ?_
    have hE := Env.refl a12 [35, 6]
    apply sq_det 35 hE k rfl (by rfl) (by rfl) rfl
    case h =>
      exact x_move rfl (hE.eval 7 (by rfl) e7)
    intro a19 hE e35 kp
    apply sq_det 6 hE k rfl (by rfl) (by rfl) rfl
    case h =>
      exact x_assign rfl e35
    intro a20 hE e6 kp
    refine wpList_nil ?_
    replace k := k.env hE
    clear hE e7
    refine then_n ?_
    refine wp_ret ?_
    refine ret_F1 rfl k e6 ?_
    exact ⟨rfl, O.below⟩
set_option maxRecDepth 100000 in
set_option maxHeartbeats 4000000 in
theorem rput18_0 {H : Nat} {A0 : World} {R : List Thing} {S : List Sec} {L : Int → Option Sec} {ys : List Value} {ub n1 c1 n2 c2 sz : Nat} {B1 B2 : Option Addr} (x y m : Nat) (l : List UInt8) (w : World) (O : OwnT H A0 ((tBlk ub 107 #[.slice B1 n1 c1, .slice B2 n2 c2, .int .i64 ↑sz]) :: (tRow 9 1 (.slice B1 n1 c1) n1 (strsV (nowL S L))) :: (tRow 9 1 (.slice B2 n2 c2) n2 (ys)) :: R) w) (hS : S.length = n1) (hn : n1 ≤ 1000000) (hl : l.length = 16 * m) (hx : x * sz + y + m ≤ n1) : Calls Try.prog 62 #[.pointer (some ⟨ub, 0, none⟩), .int .i64 0, .int .i64 x, .int .i64 y, .string (sB l)] w fun e w' => e = .returned (.tuple #[]) ∧ OwnT H A0 ((tBlk ub 107 #[.slice B1 n1 c1, .slice B2 n2 c2, .int .i64 ↑sz]) :: (tRow 9 1 (.slice B1 n1 c1) n1 (strsV (nowL S (wrS l ((x * sz + y : Nat) : Int) L m)))) :: (tRow 9 1 (.slice B2 n2 c2) n2 (ys)) :: R) w' := by
  refine calls_F Try.func62 rfl 42 rfl (by rfl) ?_
  intro a1 k hargs
  have e0 : a1.eval (.tmp 0) = .pointer (some ⟨ub, 0, none⟩) := hargs 0 _ rfl
  have e1 : a1.eval (.tmp 1) = .int .i64 0 := hargs 1 _ rfl
  have e2 : a1.eval (.tmp 2) = .int .i64 ↑x := hargs 2 _ rfl
  have e3 : a1.eval (.tmp 3) = .int .i64 ↑y := hargs 3 _ rfl
  have e4 : a1.eval (.tmp 4) = .string (sB l) := hargs 4 _ rfl
  clear hargs
  refine wp_seq ?_
  refine wp_region_lit ?_
  have hE := Env.refl a1 [10]
  apply sq_det 10 hE k rfl (by rfl) (by rfl) rfl
  case h =>
    exact x_assign rfl rfl
  intro a2 hE e10 kp
  refine wpList_nil ?_
  replace e0 := hE.eval 0 (by rfl) e0
  replace e1 := hE.eval 1 (by rfl) e1
  replace e2 := hE.eval 2 (by rfl) e2
  replace e3 := hE.eval 3 (by rfl) e3
  replace e4 := hE.eval 4 (by rfl) e4
  replace k := k.env hE
  clear hE
  refine then_n ?_
  refine wp_block ?_
  refine wp_loop (fun a w => Fr 42 a ∧ a.eval (.tmp 0) = .pointer (some ⟨ub, 0, none⟩) ∧ a.eval (.tmp 1) = .int .i64 0 ∧ a.eval (.tmp 2) = .int .i64 ↑x ∧ a.eval (.tmp 3) = .int .i64 ↑y ∧ a.eval (.tmp 4) = .string (sB l) ∧ ∃ j : Nat, a.eval (.tmp 10) = .int .i64 ↑j ∧ j ≤ m ∧ OwnT H A0 ((tBlk ub 107 #[.slice B1 n1 c1, .slice B2 n2 c2, .int .i64 ↑sz]) :: (tRow 9 1 (.slice B1 n1 c1) n1 (strsV (nowL S (wrS l ((x * sz + y : Nat) : Int) L j)))) :: (tRow 9 1 (.slice B2 n2 c2) n2 (ys)) :: R) w) (fun a w => m - (intOf (a.eval (.tmp 10))).toNat) ?_ ?_
  · exact ⟨k, e0, e1, e2, e3, e4, 0, e10, Nat.zero_le _, O⟩
  intro a3 w4 hI
  clear k e0 e1 e2 e3 e4
  obtain ⟨k, e0, e1, e2, e3, e4, h_⟩ := hI
  clear O e10
  obtain ⟨j, e10, hj, O⟩ := h_
  have mj := e10
  by_cases hlt : j < m
  · skip
    refine wp_seq ?_
    refine wp_seq ?_
    refine wp_region_lit ?_
    have hE := Env.refl a3 [11, 12, 13, 14, 15]
    apply sq_det 11 hE k rfl (by rfl) (by rfl) rfl
    case h =>
      exact x_move rfl (hE.eval 10 (by rfl) e10)
    intro a5 hE e11 kp
    apply sq_det 12 hE k rfl (by rfl) (by rfl) rfl
    case h =>
      exact x_val (v := .int .i64 ((16 * j : Nat) : Int)) (x_mul rfl rfl e11 (by omega)) (int_eq (by omega))
    intro a6 hE e12 kp
    apply sq_det 13 hE k rfl (by rfl) (by rfl) rfl
    case h =>
      exact x_move rfl (hE.eval 4 (by rfl) e4)
    intro a7 hE e13 kp
    replace e12 := (kp 12 rfl).trans e12
    apply sq_det 14 hE k rfl (by rfl) (by rfl) rfl
    case h =>
      exact x_len_l Try.underlying9 rfl e13
    intro a8 hE e14 kp
    replace e12 := (kp 12 rfl).trans e12
    apply sq_det 15 hE k rfl (by rfl) (by rfl) rfl
    case h =>
      exact x_dec (x_lss rfl e12 e14) (decide_eq_true (by omega))
    intro a9 hE e15 kp
    refine wpList_nil ?_
    replace e0 := hE.eval 0 (by rfl) e0
    replace e1 := hE.eval 1 (by rfl) e1
    replace e2 := hE.eval 2 (by rfl) e2
    replace e3 := hE.eval 3 (by rfl) e3
    replace e4 := hE.eval 4 (by rfl) e4
    replace e10 := hE.eval 10 (by rfl) e10
    replace k := k.env hE
    clear hE
    refine then_n ?_
    refine cond_t e15 rfl ?_
    refine wp_skip ?_
    refine then_n ?_
    refine wp_seq ?_
    refine wp_block ?_
    obtain ⟨g, z1, h1, -⟩ := row1_some (OwnT.get O 1 rfl) (by omega)
    injection h1 with h1 _ h1'
    subst h1 h1'
    obtain ⟨q, hq⟩ : ∃ q, x * sz + y + j = q := ⟨_, rfl⟩
    obtain ⟨s, hs⟩ : ∃ s, secOf l j = s := ⟨_, rfl⟩
    
    refine wp_typed (R := Ext) (w0 := w4) [[], [], [0], [0, 2], [0, 1, 2, 3], [0, 1, 2, 3, 4], [], [], [7], [7, 8], [7, 8, 9], [6, 7, 8, 9, 10], [], [6, 7, 8, 9, 10, 11, 12], [], [6, 7, 8, 9, 10, 11, 12, 13, 14], [], [], [17], [], [19], [19, 20], [16, 17, 18, 19, 20, 21], [0, 1, 2, 3, 4, 5, 6, 7, 8, 9, 10, 11, 12, 13, 14, 15, 16, 17, 18, 19, 20, 21, 22], [0, 1, 2, 3, 4, 5, 6, 7, 8, 9, 10, 11, 12, 13, 14, 15, 16, 17, 18, 19, 20, 21, 22, 23]] [18, 19, 20, 21, 22, 23, 24, 25, 26, 27, 28, 29, 30, 31, 32, 33, 34, 35, 36, 37, 38, 39, 40, 41] Ext.refl (fun _ _ _ => Ext.trans) (Ext.drew _) (by kernel_rfl) ?_
    apply Build.det 18 Ext.refl (by rfl) (by rw [k.size]; rfl) rfl
    case h =>
      intro ax wx hE hR hF
      exact x_move rfl (hE.eval 0 (by rfl) e0)
    apply Build.det 19 Ext.refl (by rfl) (by rw [k.size]; rfl) rfl
    case h =>
      intro ax wx hE hR hF
      exact x_move rfl (hE.eval 1 (by rfl) e1)
    apply Build.det 20 Ext.refl (by rfl) (by rw [k.size]; rfl) rfl
    case h =>
      intro ax wx hE hR hF
      have e18 : ax.eval (.tmp 18) = _ := hF 0 (det 18 _) (by decide) (.tail _ (.head _))
      exact x_nil rfl e18
    apply Build.det 21 Ext.refl (by rfl) (by rw [k.size]; rfl) rfl
    case h =>
      intro ax wx hE hR hF
      have e20 : ax.eval (.tmp 20) = _ := hF 2 (det 20 _) (by decide) (.head _)
      simp [go_sem, ↓IntWalk.iteOmega, ev e20]
      with_reducible rfl
    apply Build.det 22 Ext.refl (by rfl) (by rw [k.size]; rfl) rfl
    case h =>
      intro ax wx hE hR hF
      have e19 : ax.eval (.tmp 19) = _ := hF 1 (det 19 _) (by decide) (.tail _ (.tail _ (.head _)))
      have e21 : ax.eval (.tmp 21) = _ := hF 3 (det 21 _) (by decide) (.head _)
      simp [go_sem, ↓IntWalk.iteOmega, ev e19, ev e21]
      with_reducible rfl
    apply Build.det 23 Ext.refl (by rfl) (by rw [k.size]; rfl) rfl
    case h =>
      intro ax wx hE hR hF
      have e22 : ax.eval (.tmp 22) = _ := hF 4 (det 22 _) (by decide) (.head _)
      have dt : wx.cell? ⟨ub, 0, none⟩ = some (.slice (some ⟨g, 0, none⟩) n1 c1) := (OwnT.blk (OwnT.ext O hR) 0 rfl).cell 0
      have q0 : wx.cell? ⟨ub, 0, none⟩ = some (.slice (some ⟨g, 0, none⟩) n1 c1) := (OwnT.blk (OwnT.ext O hR) 0 rfl).cell 0
      simp [go_sem, ↓IntWalk.iteOmega, ev e22, q0, dt]
      with_reducible rfl
    apply Build.det 24 Ext.refl (by rfl) (by rw [k.size]; rfl) rfl
    case h =>
      intro ax wx hE hR hF
      exact x_move rfl (hE.eval 2 (by rfl) e2)
    apply Build.det 25 Ext.refl (by rfl) (by rw [k.size]; rfl) rfl
    case h =>
      intro ax wx hE hR hF
      exact x_move rfl (hE.eval 0 (by rfl) e0)
    apply Build.det 26 Ext.refl (by rfl) (by rw [k.size]; rfl) rfl
    case h =>
      intro ax wx hE hR hF
      have e25 : ax.eval (.tmp 25) = _ := hF 7 (det 25 _) (by decide) (.head _)
      exact x_nil rfl e25
    apply Build.det 27 Ext.refl (by rfl) (by rw [k.size]; rfl) rfl
    case h =>
      intro ax wx hE hR hF
      have e26 : ax.eval (.tmp 26) = _ := hF 8 (det 26 _) (by decide) (.head _)
      simp [go_sem, ↓IntWalk.iteOmega, ev e26]
      with_reducible rfl
    apply Build.det 28 Ext.refl (by rfl) (by rw [k.size]; rfl) rfl
    case h =>
      intro ax wx hE hR hF
      have e27 : ax.eval (.tmp 27) = _ := hF 9 (det 27 _) (by decide) (.head _)
      have dz : wx.cell? ⟨ub, 2, none⟩ = some (.int .i64 sz) := (OwnT.blk (OwnT.ext O hR) 0 rfl).cell 2
      have q0 : wx.cell? ⟨ub, 2, none⟩ = some (.int .i64 ↑sz) := (OwnT.blk (OwnT.ext O hR) 0 rfl).cell 2
      simp [go_sem, ↓IntWalk.iteOmega, ev e27, q0, dz]
      with_reducible rfl
    apply Build.det 29 Ext.refl (by rfl) (by rw [k.size]; rfl) rfl
    case h =>
      intro ax wx hE hR hF
      have e24 : ax.eval (.tmp 24) = _ := hF 6 (det 24 _) (by decide) (.tail _ (.tail _ (.tail _ (.tail _ (.head _)))))
      have e28 : ax.eval (.tmp 28) = _ := hF 10 (det 28 _) (by decide) (.head _)
      exact x_val (v := .int .i64 ((x * sz : Nat) : Int)) (x_mul rfl e24 e28 (by rw [← Int.natCast_mul]; omega)) (int_eq (Int.natCast_mul x sz).symm)
    apply Build.det 30 Ext.refl (by rfl) (by rw [k.size]; rfl) rfl
    case h =>
      intro ax wx hE hR hF
      exact x_move rfl (hE.eval 3 (by rfl) e3)
    apply Build.det 31 Ext.refl (by rfl) (by rw [k.size]; rfl) rfl
    case h =>
      intro ax wx hE hR hF
      have e29 : ax.eval (.tmp 29) = _ := hF 11 (det 29 _) (by decide) (.tail _ (.head _))
      have e30 : ax.eval (.tmp 30) = _ := hF 12 (det 30 _) (by decide) (.head _)
      exact x_val (v := .int .i64 ((x * sz + y : Nat) : Int)) (x_add rfl e29 e30 (by omega)) (int_eq (by omega))
    apply Build.det 32 Ext.refl (by rfl) (by rw [k.size]; rfl) rfl
    case h =>
      intro ax wx hE hR hF
      exact x_move rfl (hE.eval 10 (by rfl) e10)
    apply Build.det 33 Ext.refl (by rfl) (by rw [k.size]; rfl) rfl
    case h =>
      intro ax wx hE hR hF
      have e31 : ax.eval (.tmp 31) = _ := hF 13 (det 31 _) (by decide) (.tail _ (.head _))
      have e32 : ax.eval (.tmp 32) = _ := hF 14 (det 32 _) (by decide) (.head _)
      exact x_val (v := .int .i64 (q : Int)) (x_add rfl e31 e32 (by omega)) (int_eq (by omega))
    apply Build.det 34 Ext.refl (by rfl) (by rw [k.size]; rfl) rfl
    case h =>
      intro ax wx hE hR hF
      exact x_move rfl (hE.eval 4 (by rfl) e4)
    apply Build.det 35 Ext.refl (by rfl) (by rw [k.size]; rfl) rfl
    case h =>
      intro ax wx hE hR hF
      exact x_move rfl (hE.eval 10 (by rfl) e10)
    apply Build.det 36 Ext.refl (by rfl) (by rw [k.size]; rfl) rfl
    case h =>
      intro ax wx hE hR hF
      have e35 : ax.eval (.tmp 35) = _ := hF 17 (det 35 _) (by decide) (.head _)
      exact x_val (v := .int .i64 ((16 * j : Nat) : Int)) (x_mul rfl rfl e35 (by omega)) (int_eq (by omega))
    apply Build.det 37 Ext.refl (by rfl) (by rw [k.size]; rfl) rfl
    case h =>
      intro ax wx hE hR hF
      exact x_move rfl (hE.eval 10 (by rfl) e10)
    apply Build.det 38 Ext.refl (by rfl) (by rw [k.size]; rfl) rfl
    case h =>
      intro ax wx hE hR hF
      have e37 : ax.eval (.tmp 37) = _ := hF 19 (det 37 _) (by decide) (.head _)
      exact x_val (v := .int .i64 ((16 * j : Nat) : Int)) (x_mul rfl rfl e37 (by omega)) (int_eq (by omega))
    apply Build.det 39 Ext.refl (by rfl) (by rw [k.size]; rfl) rfl
    case h =>
      intro ax wx hE hR hF
      have e38 : ax.eval (.tmp 38) = _ := hF 20 (det 38 _) (by decide) (.head _)
      exact x_val (v := .int .i64 ((16 * j + 16 : Nat) : Int)) (x_add rfl e38 rfl (by omega)) (int_eq (by omega))
    apply Build.det 40 Ext.refl (by rfl) (by rw [k.size]; rfl) rfl
    case h =>
      intro ax wx hE hR hF
      have e34 : ax.eval (.tmp 34) = _ := hF 16 (det 34 _) (by decide) (.tail _ (.tail _ (.tail _ (.tail _ (.tail _ (.head _))))))
      have e36 : ax.eval (.tmp 36) = _ := hF 18 (det 36 _) (by decide) (.tail _ (.tail _ (.tail _ (.head _))))
      have e39 : ax.eval (.tmp 39) = _ := hF 21 (det 39 _) (by decide) (.head _)
      exact x_val (v := .string (sB s)) (x_cut_both (a := 16 * j) (b := 16 * j + 16) Try.underlying9 rfl e34 e36 e39 (by omega) (by omega)) (by rw [secOf_cut, hs])
    apply Build.det 41 Ext.refl (by rfl) (by rw [k.size]; rfl) rfl
    case h =>
      intro ax wx hE hR hF
      have e23 : ax.eval (.tmp 23) = _ := hF 5 (det 23 _) (by decide) (.tail _ (.tail _ (.tail _ (.tail _ (.tail _ (.tail _ (.tail _ (.tail _ (.tail _ (.tail _ (.tail _ (.tail _ (.tail _ (.tail _ (.tail _ (.tail _ (.tail _ (.head _))))))))))))))))))
      have e33 : ax.eval (.tmp 33) = _ := hF 15 (det 33 _) (by decide) (.tail _ (.tail _ (.tail _ (.tail _ (.tail _ (.tail _ (.tail _ (.head _))))))))
      simp [go_sem, ↓IntWalk.iteOmega, ev e23, ev e33]
      with_reducible rfl
    apply Build.stop
    refine ⟨by kernel_rfl, .inr ⟨by kernel_rfl, _, rfl, rfl, ?_⟩⟩
    intro a10 w11 hE R hF
    have e40 : a10.eval (.tmp 40) = _ := hF 22 (det 40 _) (.tail _ (.head _))
    have e41 : a10.eval (.tmp 41) = _ := hF 23 (det 41 _) (.head _)
    clear hF
    replace O := OwnT.ext O R
    clear R
    obtain ⟨hc, hfz⟩ := row1_cell (OwnT.get O 1 rfl) (i := q) (List.getElem?_eq_getElem (by simp only [strsV, List.length_map, nowL_len]; omega))
    refine last_skip (w' := w11.setCell ⟨g, q, none⟩ (.string (sB s))) rfl (by simp [go_sem, ↓IntWalk.iteOmega, ev e40, ev e41, hc, hfz]) ?_
    replace O := OwnT.push (L := _ :: _ :: _ :: R) 1 rfl ((OwnT.pull O 1 rfl).setRow1 (i := q) (by omega) (.string (sB s)))
    clear hc hfz
    generalize (w11.setCell ⟨g, q, none⟩ (.string (sB s))) = w12 at O ⊢
    rw [← strsV_set, ← hs, ← hq, ← nowL_put, show putS (wrS l ((x * sz + y : Nat) : Int) L j) ((x * sz + y + j : Nat) : Int) (secOf l j) = wrS l ((x * sz + y : Nat) : Int) L (j + 1) by show _ = putS _ _ _; congr 1] at O
    replace e0 := hE.eval 0 (by rfl) e0
    replace e1 := hE.eval 1 (by rfl) e1
    replace e2 := hE.eval 2 (by rfl) e2
    replace e3 := hE.eval 3 (by rfl) e3
    replace e4 := hE.eval 4 (by rfl) e4
    replace e10 := hE.eval 10 (by rfl) e10
    replace k := k.env hE
    clear hE e15 e40 e41
    refine block_n ?_
    refine then_n ?_
    refine wp_region_lit ?_
    have hE := Env.refl a10 [16, 17, 10]
    apply sq_det 16 hE k rfl (by rfl) (by rfl) rfl
    case h =>
      exact x_move rfl e10
    intro a13 hE e16 kp
    replace e10 := (kp 10 rfl).trans e10
    apply sq_det 17 hE k rfl (by rfl) (by rfl) rfl
    case h =>
      exact x_add rfl e16 rfl (by omega)
    intro a14 hE e17 kp
    replace e10 := (kp 10 rfl).trans e10
    apply sq_det 10 hE k rfl (by rfl) (by rfl) rfl
    case h =>
      exact x_assign rfl e17
    intro a15 hE e10 kp
    refine wpList_nil ?_
    replace e0 := hE.eval 0 (by rfl) e0
    replace e1 := hE.eval 1 (by rfl) e1
    replace e2 := hE.eval 2 (by rfl) e2
    replace e3 := hE.eval 3 (by rfl) e3
    replace e4 := hE.eval 4 (by rfl) e4
    replace k := k.env hE
    clear hE
    refine then_n ?_
    refine ⟨⟨k, e0, e1, e2, e3, e4, j + 1, e10, by omega, O⟩, ?_⟩
    rw [e10, mj]; simp only [intOf]; omega
  · skip
    obtain rfl : j = m := by omega
    refine wp_seq ?_
    refine wp_seq ?_
    refine wp_region_lit ?_
    have hE := Env.refl a3 [11, 12, 13, 14, 15]
    apply sq_det 11 hE k rfl (by rfl) (by rfl) rfl
    case h =>
      exact x_move rfl (hE.eval 10 (by rfl) e10)
    intro a16 hE e11 kp
    apply sq_det 12 hE k rfl (by rfl) (by rfl) rfl
    case h =>
      exact x_val (v := .int .i64 ((16 * j : Nat) : Int)) (x_mul rfl rfl e11 (by omega)) (int_eq (by omega))
    intro a17 hE e12 kp
    apply sq_det 13 hE k rfl (by rfl) (by rfl) rfl
    case h =>
      exact x_move rfl (hE.eval 4 (by rfl) e4)
    intro a18 hE e13 kp
    replace e12 := (kp 12 rfl).trans e12
    apply sq_det 14 hE k rfl (by rfl) (by rfl) rfl
    case h =>
      exact x_len_l Try.underlying9 rfl e13
    intro a19 hE e14 kp
    replace e12 := (kp 12 rfl).trans e12
    apply sq_det 15 hE k rfl (by rfl) (by rfl) rfl
    case h =>
      exact x_dec (x_lss rfl e12 e14) (decide_eq_false (by omega))
    intro a20 hE e15 kp
    refine wpList_nil ?_
    replace e0 := hE.eval 0 (by rfl) e0
    replace e1 := hE.eval 1 (by rfl) e1
    replace e2 := hE.eval 2 (by rfl) e2
    replace e3 := hE.eval 3 (by rfl) e3
    replace e4 := hE.eval 4 (by rfl) e4
    replace e10 := hE.eval 10 (by rfl) e10
    replace k := k.env hE
    clear hE
    refine then_n ?_
    refine cond_f e15 rfl ?_
    refine wp_exit ?_
    refine then_x ?_
    refine then_x ?_
    refine block_x ?_
    refine end_F0 rfl k ?_
    exact ⟨rfl, O⟩
set_option maxRecDepth 100000 in
set_option maxHeartbeats 4000000 in
theorem rput18_1 {H : Nat} {A0 : World} {R : List Thing} {S : List Sec} {L : Int → Option Sec} {ys : List Value} {ub n1 c1 n2 c2 sz : Nat} {B1 B2 : Option Addr} (x y m : Nat) (l : List UInt8) (w : World) (O : OwnT H A0 ((tBlk ub 107 #[.slice B1 n1 c1, .slice B2 n2 c2, .int .i64 ↑sz]) :: (tRow 9 1 (.slice B1 n1 c1) n1 (ys)) :: (tRow 9 1 (.slice B2 n2 c2) n2 (strsV (nowL S L))) :: R) w) (hS : S.length = n2) (hn : n2 ≤ 1000000) (hl : l.length = 16 * m) (hx : x * sz + y + m ≤ n2) : Calls Try.prog 62 #[.pointer (some ⟨ub, 0, none⟩), .int .i64 1, .int .i64 x, .int .i64 y, .string (sB l)] w fun e w' => e = .returned (.tuple #[]) ∧ OwnT H A0 ((tBlk ub 107 #[.slice B1 n1 c1, .slice B2 n2 c2, .int .i64 ↑sz]) :: (tRow 9 1 (.slice B1 n1 c1) n1 (ys)) :: (tRow 9 1 (.slice B2 n2 c2) n2 (strsV (nowL S (wrS l ((x * sz + y : Nat) : Int) L m)))) :: R) w' := by
  refine calls_F Try.func62 rfl 42 rfl (by rfl) ?_
  intro a1 k hargs
  have e0 : a1.eval (.tmp 0) = .pointer (some ⟨ub, 0, none⟩) := hargs 0 _ rfl
  have e1 : a1.eval (.tmp 1) = .int .i64 1 := hargs 1 _ rfl
  have e2 : a1.eval (.tmp 2) = .int .i64 ↑x := hargs 2 _ rfl
  have e3 : a1.eval (.tmp 3) = .int .i64 ↑y := hargs 3 _ rfl
  have e4 : a1.eval (.tmp 4) = .string (sB l) := hargs 4 _ rfl
  clear hargs
  refine wp_seq ?_
  refine wp_region_lit ?_
  have hE := Env.refl a1 [10]
  apply sq_det 10 hE k rfl (by rfl) (by rfl) rfl
  case h =>
    exact x_assign rfl rfl
  intro a2 hE e10 kp
  refine wpList_nil ?_
  replace e0 := hE.eval 0 (by rfl) e0
  replace e1 := hE.eval 1 (by rfl) e1
  replace e2 := hE.eval 2 (by rfl) e2
  replace e3 := hE.eval 3 (by rfl) e3
  replace e4 := hE.eval 4 (by rfl) e4
  replace k := k.env hE
  clear hE
  refine then_n ?_
  refine wp_block ?_
  refine wp_loop (fun a w => Fr 42 a ∧ a.eval (.tmp 0) = .pointer (some ⟨ub, 0, none⟩) ∧ a.eval (.tmp 1) = .int .i64 1 ∧ a.eval (.tmp 2) = .int .i64 ↑x ∧ a.eval (.tmp 3) = .int .i64 ↑y ∧ a.eval (.tmp 4) = .string (sB l) ∧ ∃ j : Nat, a.eval (.tmp 10) = .int .i64 ↑j ∧ j ≤ m ∧ OwnT H A0 ((tBlk ub 107 #[.slice B1 n1 c1, .slice B2 n2 c2, .int .i64 ↑sz]) :: (tRow 9 1 (.slice B1 n1 c1) n1 (ys)) :: (tRow 9 1 (.slice B2 n2 c2) n2 (strsV (nowL S (wrS l ((x * sz + y : Nat) : Int) L j)))) :: R) w) (fun a w => m - (intOf (a.eval (.tmp 10))).toNat) ?_ ?_
  · exact ⟨k, e0, e1, e2, e3, e4, 0, e10, Nat.zero_le _, O⟩
  intro a3 w4 hI
  clear k e0 e1 e2 e3 e4
  obtain ⟨k, e0, e1, e2, e3, e4, h_⟩ := hI
  clear O e10
  obtain ⟨j, e10, hj, O⟩ := h_
  have mj := e10
  by_cases hlt : j < m
  · skip
    refine wp_seq ?_
    refine wp_seq ?_
    refine wp_region_lit ?_
    have hE := Env.refl a3 [11, 12, 13, 14, 15]
    apply sq_det 11 hE k rfl (by rfl) (by rfl) rfl
    case h =>
      exact x_move rfl (hE.eval 10 (by rfl) e10)
    intro a5 hE e11 kp
    apply sq_det 12 hE k rfl (by rfl) (by rfl) rfl
    case h =>
      exact x_val (v := .int .i64 ((16 * j : Nat) : Int)) (x_mul rfl rfl e11 (by omega)) (int_eq (by omega))
    intro a6 hE e12 kp
    apply sq_det 13 hE k rfl (by rfl) (by rfl) rfl
    case h =>
      exact x_move rfl (hE.eval 4 (by rfl) e4)
    intro a7 hE e13 kp
    replace e12 := (kp 12 rfl).trans e12
    apply sq_det 14 hE k rfl (by rfl) (by rfl) rfl
    case h =>
      exact x_len_l Try.underlying9 rfl e13
    intro a8 hE e14 kp
    replace e12 := (kp 12 rfl).trans e12
    apply sq_det 15 hE k rfl (by rfl) (by rfl) rfl
    case h =>
      exact x_dec (x_lss rfl e12 e14) (decide_eq_true (by omega))
    intro a9 hE e15 kp
    refine wpList_nil ?_
    replace e0 := hE.eval 0 (by rfl) e0
    replace e1 := hE.eval 1 (by rfl) e1
    replace e2 := hE.eval 2 (by rfl) e2
    replace e3 := hE.eval 3 (by rfl) e3
    replace e4 := hE.eval 4 (by rfl) e4
    replace e10 := hE.eval 10 (by rfl) e10
    replace k := k.env hE
    clear hE
    refine then_n ?_
    refine cond_t e15 rfl ?_
    refine wp_skip ?_
    refine then_n ?_
    refine wp_seq ?_
    refine wp_block ?_
    obtain ⟨g, z1, h1, -⟩ := row1_some (OwnT.get O 2 rfl) (by omega)
    injection h1 with h1 _ h1'
    subst h1 h1'
    obtain ⟨q, hq⟩ : ∃ q, x * sz + y + j = q := ⟨_, rfl⟩
    obtain ⟨s, hs⟩ : ∃ s, secOf l j = s := ⟨_, rfl⟩
    
    refine wp_typed (R := Ext) (w0 := w4) [[], [], [0], [0, 2], [0, 1, 2, 3], [0, 1, 2, 3, 4], [], [], [7], [7, 8], [7, 8, 9], [6, 7, 8, 9, 10], [], [6, 7, 8, 9, 10, 11, 12], [], [6, 7, 8, 9, 10, 11, 12, 13, 14], [], [], [17], [], [19], [19, 20], [16, 17, 18, 19, 20, 21], [0, 1, 2, 3, 4, 5, 6, 7, 8, 9, 10, 11, 12, 13, 14, 15, 16, 17, 18, 19, 20, 21, 22], [0, 1, 2, 3, 4, 5, 6, 7, 8, 9, 10, 11, 12, 13, 14, 15, 16, 17, 18, 19, 20, 21, 22, 23]] [18, 19, 20, 21, 22, 23, 24, 25, 26, 27, 28, 29, 30, 31, 32, 33, 34, 35, 36, 37, 38, 39, 40, 41] Ext.refl (fun _ _ _ => Ext.trans) (Ext.drew _) (by kernel_rfl) ?_
    apply Build.det 18 Ext.refl (by rfl) (by rw [k.size]; rfl) rfl
    case h =>
      intro ax wx hE hR hF
      exact x_move rfl (hE.eval 0 (by rfl) e0)
    apply Build.det 19 Ext.refl (by rfl) (by rw [k.size]; rfl) rfl
    case h =>
      intro ax wx hE hR hF
      exact x_move rfl (hE.eval 1 (by rfl) e1)
    apply Build.det 20 Ext.refl (by rfl) (by rw [k.size]; rfl) rfl
    case h =>
      intro ax wx hE hR hF
      have e18 : ax.eval (.tmp 18) = _ := hF 0 (det 18 _) (by decide) (.tail _ (.head _))
      exact x_nil rfl e18
    apply Build.det 21 Ext.refl (by rfl) (by rw [k.size]; rfl) rfl
    case h =>
      intro ax wx hE hR hF
      have e20 : ax.eval (.tmp 20) = _ := hF 2 (det 20 _) (by decide) (.head _)
      simp [go_sem, ↓IntWalk.iteOmega, ev e20]
      with_reducible rfl
    apply Build.det 22 Ext.refl (by rfl) (by rw [k.size]; rfl) rfl
    case h =>
      intro ax wx hE hR hF
      have e19 : ax.eval (.tmp 19) = _ := hF 1 (det 19 _) (by decide) (.tail _ (.tail _ (.head _)))
      have e21 : ax.eval (.tmp 21) = _ := hF 3 (det 21 _) (by decide) (.head _)
      simp [go_sem, ↓IntWalk.iteOmega, ev e19, ev e21]
      with_reducible rfl
    apply Build.det 23 Ext.refl (by rfl) (by rw [k.size]; rfl) rfl
    case h =>
      intro ax wx hE hR hF
      have e22 : ax.eval (.tmp 22) = _ := hF 4 (det 22 _) (by decide) (.head _)
      have dt : wx.cell? ⟨ub, 1, none⟩ = some (.slice (some ⟨g, 0, none⟩) n2 c2) := (OwnT.blk (OwnT.ext O hR) 0 rfl).cell 1
      have q0 : wx.cell? ⟨ub, 1, none⟩ = some (.slice (some ⟨g, 0, none⟩) n2 c2) := (OwnT.blk (OwnT.ext O hR) 0 rfl).cell 1
      simp [go_sem, ↓IntWalk.iteOmega, ev e22, q0, dt]
      with_reducible rfl
    apply Build.det 24 Ext.refl (by rfl) (by rw [k.size]; rfl) rfl
    case h =>
      intro ax wx hE hR hF
      exact x_move rfl (hE.eval 2 (by rfl) e2)
    apply Build.det 25 Ext.refl (by rfl) (by rw [k.size]; rfl) rfl
    case h =>
      intro ax wx hE hR hF
      exact x_move rfl (hE.eval 0 (by rfl) e0)
    apply Build.det 26 Ext.refl (by rfl) (by rw [k.size]; rfl) rfl
    case h =>
      intro ax wx hE hR hF
      have e25 : ax.eval (.tmp 25) = _ := hF 7 (det 25 _) (by decide) (.head _)
      exact x_nil rfl e25
    apply Build.det 27 Ext.refl (by rfl) (by rw [k.size]; rfl) rfl
    case h =>
      intro ax wx hE hR hF
      have e26 : ax.eval (.tmp 26) = _ := hF 8 (det 26 _) (by decide) (.head _)
      simp [go_sem, ↓IntWalk.iteOmega, ev e26]
      with_reducible rfl
    apply Build.det 28 Ext.refl (by rfl) (by rw [k.size]; rfl) rfl
    case h =>
      intro ax wx hE hR hF
      have e27 : ax.eval (.tmp 27) = _ := hF 9 (det 27 _) (by decide) (.head _)
      have dz : wx.cell? ⟨ub, 2, none⟩ = some (.int .i64 sz) := (OwnT.blk (OwnT.ext O hR) 0 rfl).cell 2
      have q0 : wx.cell? ⟨ub, 2, none⟩ = some (.int .i64 ↑sz) := (OwnT.blk (OwnT.ext O hR) 0 rfl).cell 2
      simp [go_sem, ↓IntWalk.iteOmega, ev e27, q0, dz]
      with_reducible rfl
    apply Build.det 29 Ext.refl (by rfl) (by rw [k.size]; rfl) rfl
    case h =>
      intro ax wx hE hR hF
      have e24 : ax.eval (.tmp 24) = _ := hF 6 (det 24 _) (by decide) (.tail _ (.tail _ (.tail _ (.tail _ (.head _)))))
      have e28 : ax.eval (.tmp 28) = _ := hF 10 (det 28 _) (by decide) (.head _)
      exact x_val (v := .int .i64 ((x * sz : Nat) : Int)) (x_mul rfl e24 e28 (by rw [← Int.natCast_mul]; omega)) (int_eq (Int.natCast_mul x sz).symm)
    apply Build.det 30 Ext.refl (by rfl) (by rw [k.size]; rfl) rfl
    case h =>
      intro ax wx hE hR hF
      exact x_move rfl (hE.eval 3 (by rfl) e3)
    apply Build.det 31 Ext.refl (by rfl) (by rw [k.size]; rfl) rfl
    case h =>
      intro ax wx hE hR hF
      have e29 : ax.eval (.tmp 29) = _ := hF 11 (det 29 _) (by decide) (.tail _ (.head _))
      have e30 : ax.eval (.tmp 30) = _ := hF 12 (det 30 _) (by decide) (.head _)
      exact x_val (v := .int .i64 ((x * sz + y : Nat) : Int)) (x_add rfl e29 e30 (by omega)) (int_eq (by omega))
    apply Build.det 32 Ext.refl (by rfl) (by rw [k.size]; rfl) rfl
    case h =>
      intro ax wx hE hR hF
      exact x_move rfl (hE.eval 10 (by rfl) e10)
    apply Build.det 33 Ext.refl (by rfl) (by rw [k.size]; rfl) rfl
    case h =>
      intro ax wx hE hR hF
      have e31 : ax.eval (.tmp 31) = _ := hF 13 (det 31 _) (by decide) (.tail _ (.head _))
      have e32 : ax.eval (.tmp 32) = _ := hF 14 (det 32 _) (by decide) (.head _)
      exact x_val (v := .int .i64 (q : Int)) (x_add rfl e31 e32 (by omega)) (int_eq (by omega))
    apply Build.det 34 Ext.refl (by rfl) (by rw [k.size]; rfl) rfl
    case h =>
      intro ax wx hE hR hF
      exact x_move rfl (hE.eval 4 (by rfl) e4)
    apply Build.det 35 Ext.refl (by rfl) (by rw [k.size]; rfl) rfl
    case h =>
      intro ax wx hE hR hF
      exact x_move rfl (hE.eval 10 (by rfl) e10)
    apply Build.det 36 Ext.refl (by rfl) (by rw [k.size]; rfl) rfl
    case h =>
      intro ax wx hE hR hF
      have e35 : ax.eval (.tmp 35) = _ := hF 17 (det 35 _) (by decide) (.head _)
      exact x_val (v := .int .i64 ((16 * j : Nat) : Int)) (x_mul rfl rfl e35 (by omega)) (int_eq (by omega))
    apply Build.det 37 Ext.refl (by rfl) (by rw [k.size]; rfl) rfl
    case h =>
      intro ax wx hE hR hF
      exact x_move rfl (hE.eval 10 (by rfl) e10)
    apply Build.det 38 Ext.refl (by rfl) (by rw [k.size]; rfl) rfl
    case h =>
      intro ax wx hE hR hF
      have e37 : ax.eval (.tmp 37) = _ := hF 19 (det 37 _) (by decide) (.head _)
      exact x_val (v := .int .i64 ((16 * j : Nat) : Int)) (x_mul rfl rfl e37 (by omega)) (int_eq (by omega))
    apply Build.det 39 Ext.refl (by rfl) (by rw [k.size]; rfl) rfl
    case h =>
      intro ax wx hE hR hF
      have e38 : ax.eval (.tmp 38) = _ := hF 20 (det 38 _) (by decide) (.head _)
      exact x_val (v := .int .i64 ((16 * j + 16 : Nat) : Int)) (x_add rfl e38 rfl (by omega)) (int_eq (by omega))
    apply Build.det 40 Ext.refl (by rfl) (by rw [k.size]; rfl) rfl
    case h =>
      intro ax wx hE hR hF
      have e34 : ax.eval (.tmp 34) = _ := hF 16 (det 34 _) (by decide) (.tail _ (.tail _ (.tail _ (.tail _ (.tail _ (.head _))))))
      have e36 : ax.eval (.tmp 36) = _ := hF 18 (det 36 _) (by decide) (.tail _ (.tail _ (.tail _ (.head _))))
      have e39 : ax.eval (.tmp 39) = _ := hF 21 (det 39 _) (by decide) (.head _)
      exact x_val (v := .string (sB s)) (x_cut_both (a := 16 * j) (b := 16 * j + 16) Try.underlying9 rfl e34 e36 e39 (by omega) (by omega)) (by rw [secOf_cut, hs])
    apply Build.det 41 Ext.refl (by rfl) (by rw [k.size]; rfl) rfl
    case h =>
      intro ax wx hE hR hF
      have e23 : ax.eval (.tmp 23) = _ := hF 5 (det 23 _) (by decide) (.tail _ (.tail _ (.tail _ (.tail _ (.tail _ (.tail _ (.tail _ (.tail _ (.tail _ (.tail _ (.tail _ (.tail _ (.tail _ (.tail _ (.tail _ (.tail _ (.tail _ (.head _))))))))))))))))))
      have e33 : ax.eval (.tmp 33) = _ := hF 15 (det 33 _) (by decide) (.tail _ (.tail _ (.tail _ (.tail _ (.tail _ (.tail _ (.tail _ (.head _))))))))
      simp [go_sem, ↓IntWalk.iteOmega, ev e23, ev e33]
      with_reducible rfl
    apply Build.stop
    refine ⟨by kernel_rfl, .inr ⟨by kernel_rfl, _, rfl, rfl, ?_⟩⟩
    intro a10 w11 hE R hF
    have e40 : a10.eval (.tmp 40) = _ := hF 22 (det 40 _) (.tail _ (.head _))
    have e41 : a10.eval (.tmp 41) = _ := hF 23 (det 41 _) (.head _)
    clear hF
    replace O := OwnT.ext O R
    clear R
    obtain ⟨hc, hfz⟩ := row1_cell (OwnT.get O 2 rfl) (i := q) (List.getElem?_eq_getElem (by simp only [strsV, List.length_map, nowL_len]; omega))
    refine last_skip (w' := w11.setCell ⟨g, q, none⟩ (.string (sB s))) rfl (by simp [go_sem, ↓IntWalk.iteOmega, ev e40, ev e41, hc, hfz]) ?_
    replace O := OwnT.push (L := _ :: _ :: _ :: R) 2 rfl ((OwnT.pull O 2 rfl).setRow1 (i := q) (by omega) (.string (sB s)))
    clear hc hfz
    generalize (w11.setCell ⟨g, q, none⟩ (.string (sB s))) = w12 at O ⊢
    rw [← strsV_set, ← hs, ← hq, ← nowL_put, show putS (wrS l ((x * sz + y : Nat) : Int) L j) ((x * sz + y + j : Nat) : Int) (secOf l j) = wrS l ((x * sz + y : Nat) : Int) L (j + 1) by show _ = putS _ _ _; congr 1] at O
    replace e0 := hE.eval 0 (by rfl) e0
    replace e1 := hE.eval 1 (by rfl) e1
    replace e2 := hE.eval 2 (by rfl) e2
    replace e3 := hE.eval 3 (by rfl) e3
    replace e4 := hE.eval 4 (by rfl) e4
    replace e10 := hE.eval 10 (by rfl) e10
    replace k := k.env hE
    clear hE e15 e40 e41
    refine block_n ?_
    refine then_n ?_
    refine wp_region_lit ?_
    have hE := Env.refl a10 [16, 17, 10]
    apply sq_det 16 hE k rfl (by rfl) (by rfl) rfl
    case h =>
      exact x_move rfl e10
    intro a13 hE e16 kp
    replace e10 := (kp 10 rfl).trans e10
    apply sq_det 17 hE k rfl (by rfl) (by rfl) rfl
    case h =>
      exact x_add rfl e16 rfl (by omega)
    intro a14 hE e17 kp
    replace e10 := (kp 10 rfl).trans e10
    apply sq_det 10 hE k rfl (by rfl) (by rfl) rfl
    case h =>
      exact x_assign rfl e17
    intro a15 hE e10 kp
    refine wpList_nil ?_
    replace e0 := hE.eval 0 (by rfl) e0
    replace e1 := hE.eval 1 (by rfl) e1
    replace e2 := hE.eval 2 (by rfl) e2
    replace e3 := hE.eval 3 (by rfl) e3
    replace e4 := hE.eval 4 (by rfl) e4
    replace k := k.env hE
    clear hE
    refine then_n ?_
    refine ⟨⟨k, e0, e1, e2, e3, e4, j + 1, e10, by omega, O⟩, ?_⟩
    rw [e10, mj]; simp only [intOf]; omega
  · skip
    obtain rfl : j = m := by omega
    refine wp_seq ?_
    refine wp_seq ?_
    refine wp_region_lit ?_
    have hE := Env.refl a3 [11, 12, 13, 14, 15]
    apply sq_det 11 hE k rfl (by rfl) (by rfl) rfl
    case h =>
      exact x_move rfl (hE.eval 10 (by rfl) e10)
    intro a16 hE e11 kp
    apply sq_det 12 hE k rfl (by rfl) (by rfl) rfl
    case h =>
      exact x_val (v := .int .i64 ((16 * j : Nat) : Int)) (x_mul rfl rfl e11 (by omega)) (int_eq (by omega))
    intro a17 hE e12 kp
    apply sq_det 13 hE k rfl (by rfl) (by rfl) rfl
    case h =>
      exact x_move rfl (hE.eval 4 (by rfl) e4)
    intro a18 hE e13 kp
    replace e12 := (kp 12 rfl).trans e12
    apply sq_det 14 hE k rfl (by rfl) (by rfl) rfl
    case h =>
      exact x_len_l Try.underlying9 rfl e13
    intro a19 hE e14 kp
    replace e12 := (kp 12 rfl).trans e12
    apply sq_det 15 hE k rfl (by rfl) (by rfl) rfl
    case h =>
      exact x_dec (x_lss rfl e12 e14) (decide_eq_false (by omega))
    intro a20 hE e15 kp
    refine wpList_nil ?_
    replace e0 := hE.eval 0 (by rfl) e0
    replace e1 := hE.eval 1 (by rfl) e1
    replace e2 := hE.eval 2 (by rfl) e2
    replace e3 := hE.eval 3 (by rfl) e3
    replace e4 := hE.eval 4 (by rfl) e4
    replace e10 := hE.eval 10 (by rfl) e10
    replace k := k.env hE
    clear hE
    refine then_n ?_
    refine cond_f e15 rfl ?_
    refine wp_exit ?_
    refine then_x ?_
    refine then_x ?_
    refine block_x ?_
    refine end_F0 rfl k ?_
    exact ⟨rfl, O⟩
end Go.Proofs.Ytdpohbaeopidmaa
