/- disc: Of, New (printed by XDiscE.gen.py). -/
import Derived.Test.YtakkhglbdljfiaaGreatDoorKStoreShadows12
namespace Go.Proofs.YtakkhglbdljfiaaGreatDoor
attribute [local simp] BigFrame.eval_const BigFrame.eval_global BigFrame.eval_func
set_option linter.unusedVariables false
set_option linter.unusedSimpArgs false
open Go.RowKit Go.Maps

def strLen (v : Value) : Nat := match v with | .string s => s.size | _ => 0
theorem dok_secs {l : List UInt8} {j : Nat} (h1 : j ≤ l.length / 16) (h2 : j ≤ 16384) : DOk j (secsL l j) (fun _ => none) :=
 ⟨h2, Z6f l j, fun s hs => by
  obtain ⟨i, hi, rfl⟩ := List.mem_map.1 hs
  rw [List.mem_range] at hi
  exact Z6g (by omega), fun i s e => by cases e⟩
def zsec : Sec := List.replicate 16 0
theorem secsL_zero (k n : Nat) (h : k ≤ n) : secsL (List.replicate (16 * n) 0) k = List.replicate k zsec := by
 apply List.ext_getElem?
 intro i
 by_cases hi : i < k
 · rw [secsL_at hi, List.getElem?_replicate, if_pos hi]
   unfold secOf zsec
   rw [List.drop_replicate, List.take_replicate]
   congr 2
   omega
 · rw [List.getElem?_eq_none (by rw [Z6f]; omega), List.getElem?_eq_none (by rw [List.length_replicate]; omega)]
theorem rep_zero (k : Nat) : Lib.repeatL [0] k = List.replicate k (0 : UInt8) := by
 induction k with
 | zero => rfl
 | succ k ih => rw [List.replicate_succ, ← ih]; rfl

set_option maxRecDepth 100000 in
set_option maxHeartbeats 4000000 in
theorem dof_any {H : Nat} {A0 : World} {R : List Thing} {mb : Nat} (l : List UInt8) (w : World) (O : OwnT H A0 R w) (hl : l.length ≤ 1000000000000) : Calls Tryz.prog 35 #[.pointer (some ⟨mb, 0, none⟩), .string (sB l)] w fun e w' => ∃ p B cap bm, e = .returned (.pointer (some ⟨p, 0, none⟩)) ∧ OwnT H A0 (tDisc p mb B (min (l.length / 16) 16384) cap bm (secsL l (min (l.length / 16) 16384)) (fun _ => none) :: R) w' := by
 refine Z0c Tryz.func35 rfl 35 rfl (by rfl) ?_
 intro a1 k hargs
 have e0 : a1.eval (.tmp 0) = .pointer (some ⟨mb, 0, none⟩) := hargs 0 _ rfl
 have e1 : a1.eval (.tmp 1) = .string (sB l) := hargs 1 _ rfl
 clear hargs
 refine wp_seq ?_
 refine wp_region_lit ?_
 have hE := Env.refl a1 [4]
 refine sd 4 hE k (Z01 rfl rfl) ?_
 intro a2 hE e4 kp
 refine wpList_nil ?_
 replace e0 := hE.g e0; replace e1 := hE.g e1
 replace k := k.env hE
 clear hE e4
 refine Z00 (wp_seq ?_)
 refine wp_region_lit ?_
 have hE := Env.refl a2 [6, 7, 8, 9, 5]
 refine zm 6 hE k e0 ?_
 intro a3 hE e6 kp
 refine sq_map O 7 hE k rfl (by rfl) (by rfl) rfl (by simp [go_sem, ↓IntWalk.iteOmega, @run_makeMap Tryz.prog]) ?_
 clear O
 intro bm a4 w5 O hE e7 kp
 replace e6 := kt kp e6
 apply Z02 8 hE k rfl rfl rfl rfl
 case h =>
  simp [go_sem, ↓IntWalk.iteOmega, ev e6, ev e7]
  with_reducible rfl
 intro a6 hE e8 kp
 refine Z1a O (cs := #[.pointer (some ⟨mb, 0, none⟩), .slice none 0 0, .map (some bm)]) (t := 114) 9 hE k rfl (by rfl) (by rfl) rfl (by simp [go_sem, ↓IntWalk.iteOmega, ev e8]) ?_
 clear O
 intro p a7 w8 O hE e9 kp
 refine sd 5 hE k (Z01 rfl e9) ?_
 intro a9 hE e5 kp
 refine wpList_nil ?_
 replace e1 := hE.g e1
 replace k := k.env hE
 clear hE e0
 refine Z00 (wp_seq ?_)
 refine wp_block ?_
 replace O := OwnT.nilRow O 9 1
 refine wp_loop (fun a w => Fr 35 a ∧ a.eval (.tmp 5) = .pointer (some ⟨p, 0, none⟩) ∧ ∃ (j : Nat) (B : Option Addr) (cap : Nat), a.eval (.tmp 1) = .string (sB (l.drop (16 * j))) ∧ j ≤ l.length / 16 ∧ j ≤ 16384 ∧ OwnT H A0 ((tRow 9 1 (.slice B j cap) j (strsV (secsL l j))) :: (tBlk p 114 #[.pointer (some ⟨mb, 0, none⟩), .slice B j cap, .map (some bm)]) :: (tMap bm 0 (fun _ => none)) :: R) w) (fun a w => strLen (a.eval (.tmp 1))) ?_ ?_
 · exact ⟨k, e5, 0, none, 0, e1, Nat.zero_le _, Nat.zero_le _, O⟩
 intro a10 w11 hI
 clear k e5
 obtain ⟨k, e5, h_⟩ := hI
 clear O e1
 obtain ⟨j, B, cap, e1, hj, hj2, O⟩ := h_
 have m1 := e1
 have hd : (l.drop (16 * j)).length = l.length - 16 * j := List.length_drop

 by_cases hlt : j < l.length / 16
 · by_cases hlt2 : j < 16384
   · skip
     refine wp_seq ?_
     refine wp_seq ?_
     refine wp_region_lit ?_
     have hE := Env.refl a10 [10, 11, 12, 13, 14, 15, 16, 17, 18, 19, 20]
     refine zm 10 hE k e1 ?_
     intro a12 hE e10 kp
     refine sd 11 hE k (Z46 Tryz.underlying9 rfl e10) ?_
     intro a13 hE e11 kp
     refine sd 12 hE k (Z08 (Z27 rfl e11 rfl) (decide_eq_true (by omega))) ?_
     intro a14 hE e12 kp
     refine sd 13 hE k (Z03 rfl e12) ?_
     intro a15 hE e13 kp
     apply Z04 14 hE k rfl rfl rfl rfl rfl e13
     case h =>
      exact Z03 rfl (hE.g e5)
     intro a16 hE e14 kp
     replace e13 := kt kp e13
     apply Z04 15 hE k rfl rfl rfl rfl rfl e13
     case h =>
      exact Z0r rfl e14
     intro a17 hE e15 kp
     replace e13 := kt kp e13
     apply Z04 16 hE k rfl rfl rfl rfl rfl e13
     case h =>
      simp [go_sem, ↓IntWalk.iteOmega, ev e15]
      with_reducible rfl
     intro a18 hE e16 kp
     replace e13 := kt kp e13
     apply Z04 17 hE k rfl rfl rfl rfl rfl e13
     case h =>
      have q0 : w11.cell? ⟨p, 1, none⟩ = some (.slice B j cap) := (OwnT.blk O 1 rfl).cell 1
      simp [go_sem, ↓IntWalk.iteOmega, ev e16, q0]
      with_reducible rfl
     intro a19 hE e17 kp
     replace e13 := kt kp e13
     apply Z04 18 hE k rfl rfl rfl rfl rfl e13
     case h =>
      exact Z2r Tryz.underlying111 rfl e17
     intro a20 hE e18 kp
     replace e13 := kt kp e13
     apply Z04 19 hE k rfl rfl rfl rfl rfl e13
     case h =>
      exact Z08 (Z1j rfl e18 rfl) (decide_eq_true (by omega))
     intro a21 hE e19 kp
     replace e13 := kt kp e13
     refine sd 20 hE k (Z0d rfl e13 e19) ?_
     intro a22 hE e20 kp
     refine wpList_nil ?_
     replace e1 := hE.g e1; replace e5 := hE.g e5
     replace k := k.env hE
     clear hE
     refine Z00 ?_
     refine Z0l e20 rfl ?_
     refine wp_skip ?_
     refine Z00 ?_
     refine wp_block ?_
     refine wp_seq ?_
     obtain ⟨gs, hgs⟩ : ∃ z, w11.heap.size = z := ⟨_, rfl⟩
     refine Z50 (fun l_ w_ w_' => if l_ 8 = true then Ext w_ w_' else True) (fun l_ w_ => AppI _ _ 9 1 (.slice B j cap) j (strsV (secsL l j)) gs [Value.string (sB ((l.drop (16 * j)).take 16))] ((tBlk p 114 #[.pointer (some ⟨mb, 0, none⟩), .slice B j cap, .map (some bm)]) :: (tMap bm 0 (fun _ => none)) :: R) (l_ 7) (l_ 8) w_) [[], [], [1], [1, 2], [1, 2, 3], [], [5], [5, 6], [1, 2, 3, 4, 5, 6, 7], [0, 1, 2, 3, 4, 5, 6, 7, 8], [0, 1, 2, 3, 4, 5, 6, 7, 8, 9], [0, 1, 2, 3, 4, 5, 6, 7, 8, 9, 10]] [21, 22, 23, 24, 25, 26, 27, 28, 29, 30, 31] (fun l w => by split; exact Ext.refl _; exact True.intro) (by rw [← hgs]; exact AppI.start O) (by kernel_rfl) ?_
     apply BuildL.det 21 (fun l w => by split; exact Ext.refl _; exact True.intro) (fun l w h => h) (by rfl) (by rw [k.size]; rfl) rfl
     case h =>
      intro lx ax wx hE hR hF
      exact Z03 rfl (hE.g e5)
     apply BuildL.det 22 (fun l w => by split; exact Ext.refl _; exact True.intro) (fun l w h => h) (by rfl) (by rw [k.size]; rfl) rfl
     case h =>
      intro lx ax wx hE hR hF
      exact Z03 rfl (hE.g e5)
     apply BuildL.det 23 (fun l w => by split; exact Ext.refl _; exact True.intro) (fun l w h => h) (by rfl) (by rw [k.size]; rfl) rfl
     case h =>
      intro lx ax wx hE hR hF
      have e22 := hF 1 (detL 1 22 _) (by decide) ml0
      exact Z0r rfl e22
     apply BuildL.det 24 (fun l w => by split; exact Ext.refl _; exact True.intro) (fun l w h => h) (by rfl) (by rw [k.size]; rfl) rfl
     case h =>
      intro lx ax wx hE hR hF
      have e23 := hF 2 (detL 2 23 _) (by decide) ml0
      simp [go_sem, ↓IntWalk.iteOmega, ev e23]
      with_reducible rfl
     apply BuildL.det 25 (fun l w => by split; exact Ext.refl _; exact True.intro) (fun l w h => h) (by rfl) (by rw [k.size]; rfl) rfl
     case h =>
      intro lx ax wx hE hR hF
      have e24 := hF 3 (detL 3 24 _) (by decide) ml0
      have q0 : wx.cell? ⟨p, 1, none⟩ = some (.slice B j cap) := (OwnT.blk (AppI.own hR) 0 rfl).cell 1
      simp [go_sem, ↓IntWalk.iteOmega, ev e24, q0]
      with_reducible rfl
     apply BuildL.det 26 (fun l w => by split; exact Ext.refl _; exact True.intro) (fun l w h => h) (by rfl) (by rw [k.size]; rfl) rfl
     case h =>
      intro lx ax wx hE hR hF
      exact Z03 rfl (hE.g e1)
     apply BuildL.det 27 (fun l w => by split; exact Ext.refl _; exact True.intro) (fun l w h => h) (by rfl) (by rw [k.size]; rfl) rfl
     case h =>
      intro lx ax wx hE hR hF
      have e26 := hF 5 (detL 5 26 _) (by decide) ml0
      exact Z5k (l := l.drop (16 * j)) Tryz.underlying9 rfl e26 rfl 16 rfl (by omega)
     refine BuildL.new 28 (fun v w => v = .slice (some ⟨gs, 0, none⟩) 1 1) (fun l v w w' _ _ h => h) (by rfl) (by rw [k.size]; rfl) rfl ?_ ?_
     · intro lx ax wx hE hR hl hA hF
       have e27 := hF 6 (detL 6 27 _) (by decide) ml0
       exact app_build hR hl (by decide) (by simp [go_sem, ↓IntWalk.iteOmega, ev e27])
     refine BuildL.new 29 (fun v_ w_ => OwnT H A0 (tRow 9 1 v_ (j + 1) ((strsV (secsL l j)) ++ [Value.string (sB ((l.drop (16 * j)).take 16))]) :: tBlk gs 9 #[Value.string (sB ((l.drop (16 * j)).take 16))] :: (tBlk p 114 #[.pointer (some ⟨mb, 0, none⟩), .slice B j cap, .map (some bm)]) :: (tMap bm 0 (fun _ => none)) :: R) w_) (fun l_ v_ w_ w_' hl hR h => by rw [if_pos hl] at hR; exact h.ext hR) (by rfl) (by rw [k.size]; rfl) rfl ?_ ?_
     · intro lx ax wx hE hR hl hA hF
       have e25 := hF 4 (detL 4 25 _) (by decide) ml3
       have f28 := hF 7 _ (by decide) ml0
       exact app_grow hR hl (hA 7 (by decide)) (by decide) elemS (by decide) rfl (by intro u hu; simp at hu; subst hu; rfl) (by unfold maxLen; omega) (by omega) (fun r w' h => Z7z rfl e25 f28 h)
     apply BuildL.det 30 (fun l w => by split; exact Ext.refl _; exact True.intro) (fun l w h => h) (by rfl) (by rw [k.size]; rfl) rfl
     case h =>
      intro lx ax wx hE hR hF
      have e21 := hF 0 (detL 0 21 _) (by decide) ml8
      exact Z0r rfl e21
     apply BuildL.det 31 (fun l w => by split; exact Ext.refl _; exact True.intro) (fun l w h => h) (by rfl) (by rw [k.size]; rfl) rfl
     case h =>
      intro lx ax wx hE hR hF
      have e30 := hF 9 (detL 9 30 _) (by decide) ml0
      simp [go_sem, ↓IntWalk.iteOmega, ev e30]
      with_reducible rfl
     apply BuildL.stop
     refine ⟨by kernel_rfl, ?_⟩
     clear O
     intro lx a23 w24 hE RI hL hF
     clear RI
     have f29 := hF 8 _ ml2
     have e31 : a23.eval (.tmp 31) = _ := hF 10 (detL 10 31 _) ml0
     clear hF hL
     obtain ⟨vr, e29, O⟩ : ∃ v', a23.eval (.tmp 29) = v' ∧ OwnT H A0 (tRow 9 1 v' (j + 1) ((strsV (secsL l j)) ++ [Value.string (sB ((l.drop (16 * j)).take 16))]) :: tBlk gs 9 #[Value.string (sB ((l.drop (16 * j)).take 16))] :: (tBlk p 114 #[.pointer (some ⟨mb, 0, none⟩), .slice B j cap, .map (some bm)]) :: (tMap bm 0 (fun _ => none)) :: R) w24 := ⟨_, rfl, f29⟩
     clear f29
     obtain ⟨gr, cr, rfl⟩ := OwnT.slice0 O (by omega)
     replace O := OwnT.pick01 O
     simp only [List.length_cons, List.length_nil, Nat.zero_add, Nat.reduceAdd, List.drop_succ_cons, List.drop_zero, List.drop_nil, tailOps]
     show Oper.wp _ _ _ _ _ _
     have q0 : w24.cell? ⟨p, 1, none⟩ = some (.slice B j cap) := (OwnT.blk O 1 rfl).cell 1
     have q1 : w24.frozen? ⟨p, 1, none⟩ = false := (OwnT.blk O 1 rfl).frozen 1
     refine last_store (off := 1) (v := .slice (some ⟨gr, 0, none⟩) ((j + 1)) cr) O 1 rfl rfl (by simp [go_sem, ↓IntWalk.iteOmega, ev e29, ev e31, q0, q1]) ?_
     clear q0 q1
     clear O
     intro w25 O
     replace O : OwnT _ _ ((tRow 9 1 (.slice (some ⟨gr, 0, none⟩) ((j + 1)) cr) (j + 1) ((strsV (secsL l j)) ++ [Value.string (sB ((l.drop (16 * j)).take 16))])) :: (tBlk p 114 #[.pointer (some ⟨mb, 0, none⟩), .slice (some ⟨gr, 0, none⟩) ((j + 1)) cr, .map (some bm)]) :: (tMap bm 0 (fun _ => none)) :: R) w25 := O
     replace e1 := hE.g e1; replace e5 := hE.g e5
     replace k := k.env hE
     clear hE e20 e29 e31
     refine Z00 ?_
     refine wp_region_lit ?_
     have hE := Env.refl a23 [32, 33, 1]
     refine sd 32 hE k (Z03 rfl e1) ?_
     intro a26 hE e32 kp
     replace e1 := kt kp e1
     refine sd 33 hE k (Z5j (l := l.drop (16 * j)) Tryz.underlying9 rfl e32 rfl 16 rfl (by omega)) ?_
     intro a27 hE e33 kp
     replace e1 := kt kp e1
     refine sd 1 hE k (Z01 rfl e33) ?_
     intro a28 hE e1 kp
     refine wpList_nil ?_
     replace e5 := hE.g e5
     replace k := k.env hE
     clear hE
     refine Z0n ?_
     refine Z00 ?_
     rw [List.drop_drop, show 16 * j + 16 = 16 * (j + 1) by omega] at e1
     refine ⟨⟨k, e5, j + 1, some ⟨gr, 0, none⟩, cr, e1, by omega, by omega, (by rw [secsL_succ, strsV_app]; exact O)⟩, ?_⟩
     rw [e1, m1]; simp only [strLen, Z1k, List.length_drop]; omega
   · skip
     refine wp_seq ?_
     refine wp_seq ?_
     refine wp_region_lit ?_
     have hE := Env.refl a10 [10, 11, 12, 13, 14, 15, 16, 17, 18, 19, 20]
     refine zm 10 hE k e1 ?_
     intro a29 hE e10 kp
     refine sd 11 hE k (Z46 Tryz.underlying9 rfl e10) ?_
     intro a30 hE e11 kp
     refine sd 12 hE k (Z08 (Z27 rfl e11 rfl) (decide_eq_true (by omega))) ?_
     intro a31 hE e12 kp
     refine sd 13 hE k (Z03 rfl e12) ?_
     intro a32 hE e13 kp
     apply Z04 14 hE k rfl rfl rfl rfl rfl e13
     case h =>
      exact Z03 rfl (hE.g e5)
     intro a33 hE e14 kp
     replace e13 := kt kp e13
     apply Z04 15 hE k rfl rfl rfl rfl rfl e13
     case h =>
      exact Z0r rfl e14
     intro a34 hE e15 kp
     replace e13 := kt kp e13
     apply Z04 16 hE k rfl rfl rfl rfl rfl e13
     case h =>
      simp [go_sem, ↓IntWalk.iteOmega, ev e15]
      with_reducible rfl
     intro a35 hE e16 kp
     replace e13 := kt kp e13
     apply Z04 17 hE k rfl rfl rfl rfl rfl e13
     case h =>
      have q0 : w11.cell? ⟨p, 1, none⟩ = some (.slice B j cap) := (OwnT.blk O 1 rfl).cell 1
      simp [go_sem, ↓IntWalk.iteOmega, ev e16, q0]
      with_reducible rfl
     intro a36 hE e17 kp
     replace e13 := kt kp e13
     apply Z04 18 hE k rfl rfl rfl rfl rfl e13
     case h =>
      exact Z2r Tryz.underlying111 rfl e17
     intro a37 hE e18 kp
     replace e13 := kt kp e13
     apply Z04 19 hE k rfl rfl rfl rfl rfl e13
     case h =>
      exact Z08 (Z1j rfl e18 rfl) (decide_eq_false (by omega))
     intro a38 hE e19 kp
     replace e13 := kt kp e13
     refine sd 20 hE k (Z0d rfl e13 e19) ?_
     intro a39 hE e20 kp
     refine wpList_nil ?_
     replace e1 := hE.g e1; replace e5 := hE.g e5
     replace k := k.env hE
     clear hE
     refine Z00 ?_
     refine Z07 e20 rfl ?_
     refine wp_exit ?_
     refine Z0p ?_
     refine Z0p ?_
     refine Z0z ?_
     refine Z00 (wp_seq ?_)
     refine wp_region_lit ?_
     have hE := Env.refl a39 [34, 4]
     refine zm 34 hE k e5 ?_
     intro a40 hE e34 kp
     refine sd 4 hE k (Z01 rfl e34) ?_
     intro a41 hE e4 kp
     refine wpList_nil ?_
     replace k := k.env hE
     clear hE e1 e5 e20
     refine Z00 ?_
     refine wp_ret ?_
     have hmin : min (l.length / 16) 16384 = j := by omega
     rw [hmin]
     refine Z0i rfl k e4 ?_
     exact ⟨p, B, cap, bm, rfl, (O.perm (.swap _ _ _)).closeD (dok_secs hj hj2)⟩
 · skip
   refine wp_seq ?_
   refine wp_seq ?_
   refine wp_region_lit ?_
   have hE := Env.refl a10 [10, 11, 12, 13, 14, 15, 16, 17, 18, 19, 20]
   refine zm 10 hE k e1 ?_
   intro a42 hE e10 kp
   refine sd 11 hE k (Z46 Tryz.underlying9 rfl e10) ?_
   intro a43 hE e11 kp
   refine sd 12 hE k (Z08 (Z27 rfl e11 rfl) (decide_eq_false (by omega))) ?_
   intro a44 hE e12 kp
   refine sd 13 hE k (Z03 rfl e12) ?_
   intro a45 hE e13 kp
   refine Z05 14 hE k rfl (by rfl) (by rfl) rfl rfl (.inl e13) ?_
   intro a46 hE e14 kp
   replace e13 := kt kp e13
   refine Z05 15 hE k rfl (by rfl) (by rfl) rfl rfl (.inl e13) ?_
   intro a47 hE e15 kp
   replace e13 := kt kp e13
   refine Z05 16 hE k rfl (by rfl) (by rfl) rfl rfl (.inl e13) ?_
   intro a48 hE e16 kp
   replace e13 := kt kp e13
   refine Z05 17 hE k rfl (by rfl) (by rfl) rfl rfl (.inl e13) ?_
   intro a49 hE e17 kp
   replace e13 := kt kp e13
   refine Z05 18 hE k rfl (by rfl) (by rfl) rfl rfl (.inl e13) ?_
   intro a50 hE e18 kp
   replace e13 := kt kp e13
   refine Z05 19 hE k rfl (by rfl) (by rfl) rfl rfl (.inl e13) ?_
   intro a51 hE e19 kp
   replace e13 := kt kp e13
   refine sd 20 hE k (Z0g rfl e13 rfl) ?_
   intro a52 hE e20 kp
   refine wpList_nil ?_
   replace e1 := hE.g e1; replace e5 := hE.g e5
   replace k := k.env hE
   clear hE
   refine Z00 ?_
   refine Z07 e20 rfl ?_
   refine wp_exit ?_
   refine Z0p ?_
   refine Z0p ?_
   refine Z0z ?_
   refine Z00 (wp_seq ?_)
   refine wp_region_lit ?_
   have hE := Env.refl a52 [34, 4]
   refine zm 34 hE k e5 ?_
   intro a53 hE e34 kp
   refine sd 4 hE k (Z01 rfl e34) ?_
   intro a54 hE e4 kp
   refine wpList_nil ?_
   replace k := k.env hE
   clear hE e1 e5 e20
   refine Z00 ?_
   refine wp_ret ?_
   have hmin : min (l.length / 16) 16384 = j := by omega
   rw [hmin]
   refine Z0i rfl k e4 ?_
   exact ⟨p, B, cap, bm, rfl, (O.perm (.swap _ _ _)).closeD (dok_secs hj hj2)⟩
set_option maxRecDepth 100000 in
set_option maxHeartbeats 4000000 in
theorem dnew_any {H : Nat} {A0 : World} {R : List Thing} {mb : Nat} (x : Int) (n : Nat) (w : World) (O : OwnT H A0 R w) (hx : min (max x 0) 16384 = (n : Int)) : Calls Tryz.prog 10 #[.pointer (some ⟨mb, 0, none⟩), .int .i64 x] w fun e w' => ∃ p B cap bm, e = .returned (.pointer (some ⟨p, 0, none⟩)) ∧ OwnT H A0 (tDisc p mb B n cap bm (List.replicate n zsec) (fun _ => none) :: R) w' := by
 have hR := Tryz.strings_Repeat (sB [0]) (16 * n)
 have hn : n ≤ 16384 := by omega
 refine Z0c Tryz.func10 rfl 12 rfl (by rfl) ?_
 intro a1 k hargs
 have e0 : a1.eval (.tmp 0) = .pointer (some ⟨mb, 0, none⟩) := hargs 0 _ rfl
 have e1 : a1.eval (.tmp 1) = .int .i64 x := hargs 1 _ rfl
 clear hargs
 refine wp_seq ?_
 refine wp_region_lit ?_
 have hE := Env.refl a1 [4]
 refine sd 4 hE k (Z01 rfl rfl) ?_
 intro a2 hE e4 kp
 refine wpList_nil ?_
 replace e0 := hE.g e0; replace e1 := hE.g e1
 replace k := k.env hE
 clear hE e4
 refine Z00 (wp_seq ?_)
 refine wp_region_lit ?_
 have hE := Env.refl a2 [5, 6, 7, 8, 9, 10, 11, 4]
 refine zm 5 hE k e0 ?_
 intro a3 hE e5 kp
 refine zm 6 hE k e1 ?_
 intro a4 hE e6 kp
 replace e5 := kt kp e5
 refine sd 7 hE k (x_max rfl e6 rfl) ?_
 intro a5 hE e7 kp
 replace e5 := kt kp e5
 refine sd 8 hE k (x_min rfl e7 rfl) ?_
 intro a6 hE e8 kp
 replace e5 := kt kp e5
 replace e8 := e8.trans (Z18 hx)
 refine sd 9 hE k (x_mul rfl e8 rfl (by omega)) ?_
 intro a7 hE e9 kp
 replace e5 := kt kp e5
 replace e9 := e9.trans (Z18 (show (n : Int) * 16 = ((16 * n : Nat) : Int) by omega))
 apply Z06 10 hE k rfl (by rfl) (by rfl) rfl
 case h =>
  simp [go_sem, ↓IntWalk.iteOmega, ev e9]
  with_reducible exact ⟨rfl, rfl⟩
 case hc => exact hR w (by omega) (by rw [Z1k]; simp only [List.length_cons, List.length_nil]; omega)
 rintro e w9 ⟨rfl, R⟩
 replace O := OwnT.ext O R
 refine ⟨_, by rw [Z4c, rep_zero], ?_⟩
 intro a8 hE e10 kp
 replace e5 := kt kp e5
 apply Z06 11 hE k rfl (by rfl) (by rfl) rfl
 case h =>
  simp [go_sem, ↓IntWalk.iteOmega, ev e5, ev e10]
  with_reducible exact ⟨rfl, rfl⟩
 case hc => exact dof_any _ _ O (by rw [List.length_replicate]; omega)
 clear O
 rintro e w11 ⟨p, B, cap, bm, rfl, O⟩
 refine ⟨_, rfl, ?_⟩
 intro a10 hE e11 kp
 refine sd 4 hE k (Z01 rfl e11) ?_
 intro a12 hE e4 kp
 refine wpList_nil ?_
 replace k := k.env hE
 clear hE e0 e1
 refine Z00 ?_
 refine wp_ret ?_
 rw [List.length_replicate, show min (16 * n / 16) 16384 = n by omega, secsL_zero n n (Nat.le_refl _)] at O
 refine Z0i rfl k e4 ?_
 exact ⟨p, B, cap, bm, rfl, O⟩
end Go.Proofs.YtakkhglbdljfiaaGreatDoor

/- disc: power that stays; writes that are all done. -/
namespace Go.Proofs.YtakkhglbdljfiaaGreatDoor
set_option linter.unusedVariables false
set_option linter.unusedSimpArgs false
open Go.RowKit Go.Maps

/-- Power that is there, without a fuse. -/
structure Mn.Free (M : Mn) : Prop where
  away : M.away = false
  fuse : M.fuse = -1
theorem mn0_free : mn0.Free := ⟨rfl, rfl⟩
section
variable {M : Mn} {H : Nat} {A0 : World} {R : List Thing} {p mb n cap bm : Nat} {B : Option Addr} {S : List Sec} {L : Int → Option Sec} {c : Int}
theorem Mn.Free.up (h : M.Free) : M.up = true := by unfold Mn.up; rw [h.away, h.fuse]; rfl
theorem Mn.Free.use (h : M.Free) : M.use.Free := by
  unfold Mn.use
  rw [h.up]
  exact ⟨rfl, by show max (M.fuse - 1) (-1) = -1; rw [h.fuse]; decide⟩
theorem Mn.Free.useN (h : M.Free) : ∀ j, (M.useN j).Free
  | 0 => h
  | j + 1 => (h.useN j).use
theorem Mn.Free.come (h : M.cut.away = true) : M.cut.come.Free := by unfold Mn.come; rw [if_pos h]; exact ⟨rfl, rfl⟩
end
end Go.Proofs.YtakkhglbdljfiaaGreatDoor
