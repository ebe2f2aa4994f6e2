/- the reference's store: Next, Add (printed by XStU.gen.py). -/
import Derived.Test.YtakkhglbdljfiaaGreatDoorKStoreExact21
namespace Go.Proofs.YtakkhglbdljfiaaGreatDoor
attribute [local simp] BigFrame.eval_const BigFrame.eval_global BigFrame.eval_func
set_option linter.unusedVariables false
set_option linter.unusedSimpArgs false
open Go.RowKit Go.Maps

theorem lost_out {P : Nat} {K : Int → Bool} {F : Int → Option Nd} {x : Int} (h : ¬ (1 ≤ x ∧ x < (P : Nat))) : lostB P K F x = true := by unfold lostB; rw [decide_eq_false h]; rfl
theorem lost_in {P : Nat} {K : Int → Bool} {F : Int → Option Nd} {x : Int} (h : 1 ≤ x ∧ x < (P : Nat)) : lostB P K F x = freeB K F x := by unfold lostB; rw [decide_eq_true h]; rfl
theorem any_take {P : Nat} {K : Int → Bool} {F : Int → Option Nd} {xs : List Int} {i : Nat} {x : Int} (hx : xs[i]? = some x) (h : (xs.take i).any (lostB P K F) = false) (hl : lostB P K F x = false) : (xs.take (i + 1)).any (lostB P K F) = false := by
 rw [List.take_add_one, hx, List.any_append, h]
 simp [hl]
theorem Z73 {P : Nat} {K : Int → Bool} {F : Int → Option Nd} {xs : List Int} {i : Nat} {x : Int} (hx : xs[i]? = some x) (hl : lostB P K F x = true) : ¬ xs.any (lostB P K F) = false := fun h => by
 rw [List.any_eq_false] at h
 exact h x (List.mem_of_getElem? hx) hl

set_option maxRecDepth 100000 in
set_option maxHeartbeats 8000000 in
theorem unext_any {H : Nat} {A0 : World} {R : List Thing} {ub P g1 g2 g3 : Nat} {h : Hd} {K : Int → Bool} {F : Int → Option Nd} {T : Int → Value} {A : Option Addr} {ca : Nat} {xs : List Int} (root : Int) (w : World) (O : OwnT H A0 (usL ub P g1 g2 g3 h K (isF F) T R) w) (hrow : ∀ W, OwnT H A0 R W → Row1 W A (Value.int .i64) xs) (hn : xs.length ≤ 1000000) (hP : 1 ≤ P ∧ P ≤ 512) (hg : 0 ≤ h.g ∧ h.g ≤ 4294967295) : Calls Tryz.prog 18 #[.pointer (some ⟨ub, 0, none⟩), .int .i64 root, .slice A xs.length ca] w fun e w' => ∃ b : Bool, e = .returned (.tuple #[(nextHd h root).v, .bool b]) ∧ OwnT H A0 (usL ub P g1 g2 g3 h K (isF F) T R) w' ∧ (b = true ↔ (nextHd h root).Ok ∧ xs.any (lostB P K F) = false ∧ (root = 0 ∨ root ∈ xs)) := by
 refine Z0c Tryz.func18 rfl 81 rfl (by rfl) ?_
 intro a1 k hargs; have e0 : a1.eval (.tmp 0) = .pointer (some ⟨ub, 0, none⟩) := hargs 0 _ rfl
 have e1 : a1.eval (.tmp 1) = .int .i64 root := hargs 1 _ rfl
 have e2 : a1.eval (.tmp 2) = .slice A xs.length ca := hargs 2 _ rfl
 clear hargs; refine wp_seq ?_; refine wp_region_lit ?_
 have hE := Env.refl a1 [6, 7]; refine Z0v O (cs := #[.int .u64 0, .int .i64 0, .int .i64 0, .int .i64 0, .int .i64 0]) (t := 39) 6 hE k rfl (by rfl) (by rfl) rfl (by simp [go_sem, ↓IntWalk.iteOmega]) ?_
 clear O; intro rb a2 w3 O hE e6 kp; refine sd 7 hE k (Z01 rfl rfl) ?_; intro a4 hE e7 kp; replace e6 := kt kp e6; refine wpList_nil ?_; replace e0 := hE.g e0; replace e1 := hE.g e1; replace e2 := hE.g e2; replace k := k.env hE; clear hE e7; refine Z00 (wp_seq ?_); refine wp_region_lit ?_
 have hE := Env.refl a4 [10, 11, 12, 13, 8]; refine zm 10 hE k e0 ?_; intro a5 hE e10 kp; refine sd 11 hE k (Z0d rfl e10) ?_; intro a6 hE e11 kp; apply Z03 12 hE k rfl rfl rfl rfl; case h =>
  simp [go_sem, ↓IntWalk.iteOmega, ev e11]
  with_reducible rfl
 intro a7 hE e12 kp; refine sd 13 hE k (Z1n O 1 rfl rfl e12 [.int .u64 h.g, .int .i64 h.r, .int .i64 h.a, .int .i64 h.b, .int .i64 h.c] rfl Tryz.underlying39 rfl (by kernel_rfl)) ?_; intro a8 hE e13 kp; refine Z0v O (cs := #[.int .u64 0, .int .i64 0, .int .i64 0, .int .i64 0, .int .i64 0]) (t := 39) 8 hE k rfl (by rfl) (by rfl) rfl (by simp [go_sem, ↓IntWalk.iteOmega]) ?_
 clear O; intro hb a9 w10 O hE e8 kp; replace e13 := kt kp e13; refine Z1b O 0 0 hE e8 e13 ?_
 clear O; intro w11 O; replace O : OwnT _ _ ((tBlk hb 39 #[.int .u64 h.g, .int .i64 h.r, .int .i64 h.a, .int .i64 h.b, .int .i64 h.c]) :: _) w11 := O
 refine wpList_nil ?_; replace e0 := hE.g e0; replace e1 := hE.g e1; replace e2 := hE.g e2; replace e6 := hE.g e6; replace k := k.env hE; clear hE e13; refine Z00 (wp_seq ?_); refine wp_region_lit ?_
 have hE := Env.refl a9 [14, 15, 16, 17]; apply Z03 14 hE k rfl rfl rfl rfl; case h =>
  simp [go_sem, ↓IntWalk.iteOmega, ev (hE.g e8)]
  with_reducible rfl
 intro a12 hE e14 kp; refine sd 15 hE k (Z0a O 0 rfl rfl e14 rfl Tryz.underlying37 rfl) ?_; intro a13 hE e15 kp; refine sd 16 hE k (Z83 rfl e15 rfl (by omega) (by omega)) ?_; intro a14 hE e16 kp; apply Z03 17 hE k rfl rfl rfl rfl; case h =>
  simp [go_sem, ↓IntWalk.iteOmega, ev (hE.g e8)]
  with_reducible rfl
 intro a15 hE e17 kp; replace e16 := kt kp e16; refine Z1b O 0 0 hE e17 e16 ?_
 clear O; intro w16 O; replace O : OwnT _ _ ((tBlk hb 39 #[.int .u64 (h.g + 1), .int .i64 h.r, .int .i64 h.a, .int .i64 h.b, .int .i64 h.c]) :: _) w16 := O
 refine wpList_nil ?_; replace e0 := hE.g e0; replace e1 := hE.g e1; replace e2 := hE.g e2; replace e6 := hE.g e6; replace e8 := hE.g e8; replace k := k.env hE; clear hE e16 e17; refine Z00 (wp_seq ?_); refine wp_region_lit ?_
 have hE := Env.refl a15 [18, 19]; refine zm 18 hE k e1 ?_; intro a17 hE e18 kp; apply Z03 19 hE k rfl rfl rfl rfl; case h =>
  simp [go_sem, ↓IntWalk.iteOmega, ev (hE.g e8)]
  with_reducible rfl
 intro a18 hE e19 kp; replace e18 := kt kp e18; refine Z1b O 0 1 hE e19 e18 ?_
 clear O; intro w19 O; replace O : OwnT _ _ ((tBlk hb 39 #[.int .u64 (h.g + 1), .int .i64 root, .int .i64 h.a, .int .i64 h.b, .int .i64 h.c]) :: _) w19 := O
 refine wpList_nil ?_; replace e0 := hE.g e0; replace e1 := hE.g e1; replace e2 := hE.g e2; replace e6 := hE.g e6; replace e8 := hE.g e8; replace k := k.env hE; clear hE e18 e19; refine Z00 (wp_seq ?_); refine wp_seq ?_; refine wp_region_lit ?_
 have hE := Env.refl a18 [9]; refine sd 9 hE k (Z01 rfl rfl) ?_; intro a20 hE e9 kp; refine wpList_nil ?_; replace e0 := hE.g e0; replace e1 := hE.g e1; replace e2 := hE.g e2; replace e6 := hE.g e6; replace e8 := hE.g e8; replace k := k.env hE; clear hE; refine Z00 ?_; refine wp_block ?_; refine wp_loop (fun a w => Fr 81 a ∧ a.eval (.tmp 0) = .pointer (some ⟨ub, 0, none⟩) ∧ a.eval (.tmp 1) = .int .i64 root ∧ a.eval (.tmp 2) = .slice A xs.length ca ∧ a.eval (.tmp 6) = .pointer (some ⟨rb, 0, none⟩) ∧ a.eval (.tmp 8) = .pointer (some ⟨hb, 0, none⟩) ∧ ∃ (i : Nat), a.eval (.tmp 9) = .int .i64 ↑i ∧ i ≤ xs.length ∧ (xs.take i).any (lostB P K F) = false ∧ OwnT H A0 ((tBlk hb 39 #[.int .u64 (h.g + 1), .int .i64 root, .int .i64 h.a, .int .i64 h.b, .int .i64 h.c]) :: (tBlk rb 39 #[.int .u64 0, .int .i64 0, .int .i64 0, .int .i64 0, .int .i64 0]) :: (tBlk ub 62 #[.int .i64 ↑P, .slice (some ⟨g1, 0, none⟩) P P, .slice (some ⟨g2, 0, none⟩) P P, .slice (some ⟨g3, 0, none⟩) P P, .int .u64 h.g, .int .i64 h.r, .int .i64 h.a, .int .i64 h.b, .int .i64 h.c]) :: (tBlk g1 4 (boA P K)) :: (tBlk g2 4 (boA P (isF F))) :: (tBlk g3 47 (ndA P T)) :: R) w) (fun a w => xs.length - (intOf (a.eval (.tmp 9))).toNat) ?_ ?_
 · exact ⟨k, e0, e1, e2, e6, e8, 0, e9, Nat.zero_le _, rfl, O⟩
 intro a21 w22 hI; clear k e0 e1 e2 e6 e8; obtain ⟨k, e0, e1, e2, e6, e8, h_⟩ := hI
 clear O e9; obtain ⟨i, e9, hi, hno, O⟩ := h_
 have mi := e9
 by_cases hlt : i < xs.length
 · obtain ⟨x, hx⟩ : ∃ x, xs[i]? = some x := ⟨_, List.getElem?_eq_getElem hlt⟩
   obtain ⟨b, o, rfl, hc⟩ := Z2m (hrow _ (OwnT.pickR (L := [_, _, _, _, _, _]) (R := R) O [] (by decide))) hx

   refine wp_seq ?_; refine wp_seq ?_; refine wp_region_lit ?_
   have hE := Env.refl a21 [20, 21, 22, 23]; refine zm 20 hE k e9 ?_; intro a23 hE e20 kp; refine zm 21 hE k e2 ?_; intro a24 hE e21 kp; replace e20 := kt kp e20; refine sd 22 hE k (Z1w Tryz.underlying40 rfl e21) ?_; intro a25 hE e22 kp; replace e20 := kt kp e20; refine sd 23 hE k (Z08 (Z0z rfl e20 e22) (decide_eq_true (by omega))) ?_
   intro a26 hE e23 kp; refine wpList_nil ?_; replace e0 := hE.g e0; replace e1 := hE.g e1; replace e2 := hE.g e2; replace e6 := hE.g e6; replace e8 := hE.g e8; replace e9 := hE.g e9; replace k := k.env hE; clear hE; refine Z00 ?_; refine Z0h e23 rfl ?_
   refine wp_skip ?_; refine Z00 (wp_seq ?_); refine wp_block ?_; by_cases h1 : 1 ≤ x
   rotate_left
   · skip
     refine wp_seq ?_; refine Z0l (R := Ext) (w0 := w22) [[], [], [0, 1], [0, 1, 2], rg 4, rg 5, rg 6, rg 6, rg 8, rg 9, rg 6, [0, 1, 2, 3, 4, 5, 10], [0, 1, 2, 3, 4, 5, 10, 11], [0, 1, 2, 3, 4, 5, 10, 11, 12], rg 14, rg 15, rg 16, rg 17, rg 18, rg 19, rg 20, rg 17, rg 17, [0, 1, 2, 3, 4, 5, 6, 7, 8, 9, 10, 11, 12, 13, 14, 15, 16, 21, 22], [0, 1, 2, 3, 4, 5, 6, 7, 8, 9, 10, 11, 12, 13, 14, 15, 16, 21, 22, 23], rg 25, rg 26, rg 27, rg 28, rg 29, rg 30, rg 31, rg 32, rg 29, rg 29, [0, 1, 2, 3, 4, 5, 6, 7, 8, 9, 10, 11, 12, 13, 14, 15, 16, 17, 18, 19, 20, 21, 22, 23, 24, 25, 26, 27, 28, 33, 34], [0, 1, 2, 3, 4, 5, 6, 7, 8, 9, 10, 11, 12, 13, 14, 15, 16, 17, 18, 19, 20, 21, 22, 23, 24, 25, 26, 27, 28, 33, 34, 35], rg 37, rg 38, rg 39, rg 40, rg 41] [26, 27, 28, 29, 30, 31, 32, 33, 34, 35, 36, 37, 38, 39, 40, 41, 42, 43, 44, 45, 46, 47, 48, 49, 50, 51, 52, 53, 54, 55, 56, 57, 58, 59, 60, 61, 62, 63, 64, 65, 66, 67] Ext.refl (fun _ _ _ => Ext.trans) (Ext.drew _) (by kernel_rfl) ?_
     refine bd 26 k rfl rfl rfl (fun ax wx hE hR hF => Z02 rfl (hE.g e2)) ?_
     refine bd 27 k rfl rfl rfl (fun ax wx hE hR hF => Z02 rfl (hE.g e9)) ?_
     apply bd 28 k rfl rfl rfl; case h =>
      intro ax wx hE hR hF; have e26 := zhF hF 0 26 ml1; have e27 := zhF hF 1 27 ml0; simp [go_sem, ↓IntWalk.iteOmega, ev e26, ev e27]
      with_reducible rfl
     apply bd 29 k rfl rfl rfl; case h =>
      intro ax wx hE hR hF; have e28 := zhF hF 2 28 ml0; have d0 := hc wx hR
      simp [go_sem, ↓IntWalk.iteOmega, ev e28, d0]
      with_reducible rfl
     refine bd 30 k rfl rfl rfl (fun ax wx hE hR hF => have e29 := zhF hF 3 29 ml0; Z08 (Z0z rfl e29 rfl) (decide_eq_true (by omega))) ?_
     refine bd 31 k rfl rfl rfl (fun ax wx hE hR hF => have e30 := zhF hF 4 30 ml0; Z02 rfl e30) ?_
     refine bsk 32 k rfl rfl rfl rfl (fun hF => zhF hF 5 31 ml0) ?_
     refine bsk 33 k rfl rfl rfl rfl (fun hF => zhF hF 5 31 ml1) ?_
     refine bsk 34 k rfl rfl rfl rfl (fun hF => zhF hF 5 31 ml2) ?_
     refine bsk 35 k rfl rfl rfl rfl (fun hF => zhF hF 5 31 ml3) ?_
     refine bsk 36 k rfl rfl rfl rfl (fun hF => zhF hF 5 31 ml4) ?_
     refine bsk 37 k rfl rfl rfl rfl (fun hF => zhF hF 5 31 ml5) ?_
     refine bsk 38 k rfl rfl rfl rfl (fun hF => zhF hF 5 31 ml6) ?_
     refine bsk 39 k rfl rfl rfl rfl (fun hF => zhF hF 5 31 ml7) ?_
     refine bsk 40 k rfl rfl rfl rfl (fun hF => zhF hF 5 31 ml8) ?_
     refine bd 41 k rfl rfl rfl (fun ax wx hE hR hF => have e31 := zhF hF 5 31 ml9; have e40 := zhF hF 14 40 ml0; Z0b rfl e31 rfl) ?_
     refine bd 42 k rfl rfl rfl (fun ax wx hE hR hF => have e41 := zhF hF 15 41 ml0; Z02 rfl e41) ?_
     refine bsk 43 k rfl rfl rfl rfl (fun hF => zhF hF 16 42 ml0) ?_
     refine bsk 44 k rfl rfl rfl rfl (fun hF => zhF hF 16 42 ml1) ?_
     refine bsk 45 k rfl rfl rfl rfl (fun hF => zhF hF 16 42 ml2) ?_
     refine bsk 46 k rfl rfl rfl rfl (fun hF => zhF hF 16 42 ml3) ?_
     refine bsk 47 k rfl rfl rfl rfl (fun hF => zhF hF 16 42 ml4) ?_
     refine bsk 48 k rfl rfl rfl rfl (fun hF => zhF hF 16 42 ml5) ?_
     refine bsk 49 k rfl rfl rfl rfl (fun hF => zhF hF 16 42 ml6) ?_
     refine bsk 50 k rfl rfl rfl rfl (fun hF => zhF hF 16 42 ml7) ?_
     refine bsk 51 k rfl rfl rfl rfl (fun hF => zhF hF 16 42 ml8) ?_
     refine bsk 52 k rfl rfl rfl rfl (fun hF => zhF hF 16 42 ml9) ?_
     refine bsk 53 k rfl rfl rfl rfl (fun hF => zhF hF 16 42 ml10) ?_
     refine bsk 54 k rfl rfl rfl rfl (fun hF => zhF hF 16 42 ml11) ?_
     refine bsku 55 k rfl rfl rfl rfl (fun hF => zhF hF 28 54 ml0) ?_
     refine bsku 56 k rfl rfl rfl rfl (fun hF => zhF hF 28 54 ml1) ?_
     refine bsku 57 k rfl rfl rfl rfl (fun hF => zhF hF 28 54 ml2) ?_
     refine bsku 58 k rfl rfl rfl rfl (fun hF => zhF hF 28 54 ml3) ?_
     refine bsku 59 k rfl rfl rfl rfl (fun hF => zhF hF 28 54 ml4) ?_
     refine bsku 60 k rfl rfl rfl rfl (fun hF => zhF hF 28 54 ml5) ?_
     refine bsku 61 k rfl rfl rfl rfl (fun hF => zhF hF 28 54 ml6) ?_
     refine bsku 62 k rfl rfl rfl rfl (fun hF => zhF hF 28 54 ml7) ?_
     refine bsku 63 k rfl rfl rfl rfl (fun hF => zhF hF 28 54 ml8) ?_
     refine bsku 64 k rfl rfl rfl rfl (fun hF => zhF hF 28 54 ml9) ?_
     refine bsku 65 k rfl rfl rfl rfl (fun hF => zhF hF 28 54 ml10) ?_
     refine bsk 66 k rfl rfl rfl rfl (fun hF => zhF hF 16 42 ml23) ?_
     refine bd 67 k rfl rfl rfl (fun ax wx hE hR hF => have e42 := zhF hF 16 42 ml24; have e66 := zhF hF 40 66 ml0; Z0b rfl e42 rfl) ?_
     apply Build.stop
     refine ⟨by kernel_rfl, .inl ⟨rfl, ?_⟩⟩
     intro a27 w28 hE R hF; have e67 : a27.eval (.tmp 67) = _ := hF 41 (det 67 _) ml0
     clear hF; replace O := OwnT.ext O R; clear R; replace e0 := hE.g e0; replace e1 := hE.g e1; replace e2 := hE.g e2; replace e6 := hE.g e6; replace e8 := hE.g e8; replace e9 := hE.g e9; replace k := k.env hE; clear hE e23; refine Z00 ?_; refine Z0h e67 rfl ?_
     refine wp_seq ?_; refine wp_region_lit ?_
     have hE := Env.refl a27 [68, 7]; refine sd 68 hE k (Z1n O 0 rfl rfl (hE.g e8) [.int .u64 (h.g + 1), .int .i64 root, .int .i64 h.a, .int .i64 h.b, .int .i64 h.c] rfl Tryz.underlying39 rfl (by kernel_rfl)) ?_; intro a29 hE e68 kp; refine Z1b O 1 0 hE (hE.g e6) e68 ?_
     clear O; intro w30 O; replace O : OwnT _ _ (_ :: (tBlk rb 39 #[.int .u64 (h.g + 1), .int .i64 root, .int .i64 h.a, .int .i64 h.b, .int .i64 h.c]) :: _) w30 := O
     refine sd 7 hE k (Z01 rfl rfl) ?_; intro a31 hE e7 kp; refine wpList_nil ?_; replace e6 := hE.g e6; replace k := k.env hE; clear hE e0 e1 e2 e8 e9 e67; refine Z00 ?_; refine wp_ret ?_
     refine Z12 ?_
     refine Z0m ?_
     refine Z0m ?_
     refine Z12 ?_
     refine Z0m ?_
     have hno2 := Z73 (K := K) (F := F) (P := P) hx (lost_out (by omega))
     have q0 : w30.cell? ⟨rb, 0, none⟩ = some (.int .u64 (h.g + 1)) := (OwnT.blk O 1 rfl).cell 0
     have q1 : w30.cell? ⟨rb, 1, none⟩ = some (.int .i64 root) := (OwnT.blk O 1 rfl).cell 1
     have q2 : w30.cell? ⟨rb, 2, none⟩ = some (.int .i64 h.a) := (OwnT.blk O 1 rfl).cell 2
     have q3 : w30.cell? ⟨rb, 3, none⟩ = some (.int .i64 h.b) := (OwnT.blk O 1 rfl).cell 3
     have q4 : w30.cell? ⟨rb, 4, none⟩ = some (.int .i64 h.c) := (OwnT.blk O 1 rfl).cell 4
     refine Z20 rfl k e6 e7 (v := .agg #[.int .u64 (h.g + 1), .int .i64 root, .int .i64 h.a, .int .i64 h.b, .int .i64 h.c]) (by simp [go_sem, ↓IntWalk.iteOmega, q0, q1, q2, q3, q4]) ?_
     exact ⟨false, rfl, OwnT.pickR (L := [_, _, _, _, _, _]) (R := R) O [2, 3, 4, 5] (by decide), fun h => (by cases h), fun h => absurd h.2.1 hno2⟩
   by_cases h2 : x < (P : Int)
   rotate_left
   · skip
     refine wp_seq ?_; refine Z0l (R := Ext) (w0 := w22) [[], [], [0, 1], [0, 1, 2], rg 4, rg 5, rg 6, rg 6, rg 8, rg 9, rg 6, [0, 1, 2, 3, 4, 5, 10], [0, 1, 2, 3, 4, 5, 10, 11], [0, 1, 2, 3, 4, 5, 10, 11, 12], rg 14, rg 15, rg 16, rg 17, rg 18, rg 19, rg 20, rg 17, rg 17, [0, 1, 2, 3, 4, 5, 6, 7, 8, 9, 10, 11, 12, 13, 14, 15, 16, 21, 22], [0, 1, 2, 3, 4, 5, 6, 7, 8, 9, 10, 11, 12, 13, 14, 15, 16, 21, 22, 23], rg 25, rg 26, rg 27, rg 28, rg 29, rg 30, rg 31, rg 32, rg 29, rg 29, [0, 1, 2, 3, 4, 5, 6, 7, 8, 9, 10, 11, 12, 13, 14, 15, 16, 17, 18, 19, 20, 21, 22, 23, 24, 25, 26, 27, 28, 33, 34], [0, 1, 2, 3, 4, 5, 6, 7, 8, 9, 10, 11, 12, 13, 14, 15, 16, 17, 18, 19, 20, 21, 22, 23, 24, 25, 26, 27, 28, 33, 34, 35], rg 37, rg 38, rg 39, rg 40, rg 41] [26, 27, 28, 29, 30, 31, 32, 33, 34, 35, 36, 37, 38, 39, 40, 41, 42, 43, 44, 45, 46, 47, 48, 49, 50, 51, 52, 53, 54, 55, 56, 57, 58, 59, 60, 61, 62, 63, 64, 65, 66, 67] Ext.refl (fun _ _ _ => Ext.trans) (Ext.drew _) (by kernel_rfl) ?_
     refine bd 26 k rfl rfl rfl (fun ax wx hE hR hF => Z02 rfl (hE.g e2)) ?_
     refine bd 27 k rfl rfl rfl (fun ax wx hE hR hF => Z02 rfl (hE.g e9)) ?_
     apply bd 28 k rfl rfl rfl; case h =>
      intro ax wx hE hR hF; have e26 := zhF hF 0 26 ml1; have e27 := zhF hF 1 27 ml0; simp [go_sem, ↓IntWalk.iteOmega, ev e26, ev e27]
      with_reducible rfl
     apply bd 29 k rfl rfl rfl; case h =>
      intro ax wx hE hR hF; have e28 := zhF hF 2 28 ml0; have d0 := hc wx hR
      simp [go_sem, ↓IntWalk.iteOmega, ev e28, d0]
      with_reducible rfl
     refine bd 30 k rfl rfl rfl (fun ax wx hE hR hF => have e29 := zhF hF 3 29 ml0; Z08 (Z0z rfl e29 rfl) (decide_eq_false (by omega))) ?_
     refine bd 31 k rfl rfl rfl (fun ax wx hE hR hF => have e30 := zhF hF 4 30 ml0; Z02 rfl e30) ?_
     refine bdg 32 k rfl rfl rfl rfl (fun ax wx hE hR hF => have e31 := zhF hF 5 31 ml0; ⟨e31, Z02 rfl (hE.g e2)⟩) ?_
     refine bdg 33 k rfl rfl rfl rfl (fun ax wx hE hR hF => have e31 := zhF hF 5 31 ml1; ⟨e31, Z02 rfl (hE.g e9)⟩) ?_
     apply bdg 34 k rfl rfl rfl rfl; case h =>
      intro ax wx hE hR hF; have e32 := zhF hF 6 32 ml1; have e33 := zhF hF 7 33 ml0; have e31 := zhF hF 5 31 ml2; refine ⟨e31, ?_⟩; simp [go_sem, ↓IntWalk.iteOmega, ev e32, ev e33]
      with_reducible rfl
     apply bdg 35 k rfl rfl rfl rfl; case h =>
      intro ax wx hE hR hF; have e34 := zhF hF 8 34 ml0; have e31 := zhF hF 5 31 ml3; refine ⟨e31, ?_⟩; have d0 := hc wx hR
      simp [go_sem, ↓IntWalk.iteOmega, ev e34, d0]
      with_reducible rfl
     refine bdg 36 k rfl rfl rfl rfl (fun ax wx hE hR hF => have e31 := zhF hF 5 31 ml4; ⟨e31, Z02 rfl (hE.g e0)⟩) ?_
     refine bdg 37 k rfl rfl rfl rfl (fun ax wx hE hR hF => have e36 := zhF hF 10 36 ml0; have e31 := zhF hF 5 31 ml5; ⟨e31, Z0d rfl e36⟩) ?_
     apply bdg 38 k rfl rfl rfl rfl; case h =>
      intro ax wx hE hR hF; have e37 := zhF hF 11 37 ml0; have e31 := zhF hF 5 31 ml6; refine ⟨e31, ?_⟩; simp [go_sem, ↓IntWalk.iteOmega, ev e37]
      with_reducible rfl
     refine bdg 39 k rfl rfl rfl rfl (fun ax wx hE hR hF => have e38 := zhF hF 12 38 ml0; have e31 := zhF hF 5 31 ml7; ⟨e31, Z0a (OwnT.ext O hR) 2 rfl rfl e38 rfl Tryz.underlying3 rfl⟩) ?_
     refine bdg 40 k rfl rfl rfl rfl (fun ax wx hE hR hF => have e35 := zhF hF 9 35 ml4; have e39 := zhF hF 13 39 ml0; have e31 := zhF hF 5 31 ml8; ⟨e31, Z08 (Z1l rfl e35 e39) (decide_eq_true (by omega))⟩) ?_
     refine bd 41 k rfl rfl rfl (fun ax wx hE hR hF => have e31 := zhF hF 5 31 ml9; have e40 := zhF hF 14 40 ml0; Z09 rfl e31 e40) ?_
     refine bd 42 k rfl rfl rfl (fun ax wx hE hR hF => have e41 := zhF hF 15 41 ml0; Z02 rfl e41) ?_
     refine bsk 43 k rfl rfl rfl rfl (fun hF => zhF hF 16 42 ml0) ?_
     refine bsk 44 k rfl rfl rfl rfl (fun hF => zhF hF 16 42 ml1) ?_
     refine bsk 45 k rfl rfl rfl rfl (fun hF => zhF hF 16 42 ml2) ?_
     refine bsk 46 k rfl rfl rfl rfl (fun hF => zhF hF 16 42 ml3) ?_
     refine bsk 47 k rfl rfl rfl rfl (fun hF => zhF hF 16 42 ml4) ?_
     refine bsk 48 k rfl rfl rfl rfl (fun hF => zhF hF 16 42 ml5) ?_
     refine bsk 49 k rfl rfl rfl rfl (fun hF => zhF hF 16 42 ml6) ?_
     refine bsk 50 k rfl rfl rfl rfl (fun hF => zhF hF 16 42 ml7) ?_
     refine bsk 51 k rfl rfl rfl rfl (fun hF => zhF hF 16 42 ml8) ?_
     refine bsk 52 k rfl rfl rfl rfl (fun hF => zhF hF 16 42 ml9) ?_
     refine bsk 53 k rfl rfl rfl rfl (fun hF => zhF hF 16 42 ml10) ?_
     refine bsk 54 k rfl rfl rfl rfl (fun hF => zhF hF 16 42 ml11) ?_
     refine bsku 55 k rfl rfl rfl rfl (fun hF => zhF hF 28 54 ml0) ?_
     refine bsku 56 k rfl rfl rfl rfl (fun hF => zhF hF 28 54 ml1) ?_
     refine bsku 57 k rfl rfl rfl rfl (fun hF => zhF hF 28 54 ml2) ?_
     refine bsku 58 k rfl rfl rfl rfl (fun hF => zhF hF 28 54 ml3) ?_
     refine bsku 59 k rfl rfl rfl rfl (fun hF => zhF hF 28 54 ml4) ?_
     refine bsku 60 k rfl rfl rfl rfl (fun hF => zhF hF 28 54 ml5) ?_
     refine bsku 61 k rfl rfl rfl rfl (fun hF => zhF hF 28 54 ml6) ?_
     refine bsku 62 k rfl rfl rfl rfl (fun hF => zhF hF 28 54 ml7) ?_
     refine bsku 63 k rfl rfl rfl rfl (fun hF => zhF hF 28 54 ml8) ?_
     refine bsku 64 k rfl rfl rfl rfl (fun hF => zhF hF 28 54 ml9) ?_
     refine bsku 65 k rfl rfl rfl rfl (fun hF => zhF hF 28 54 ml10) ?_
     refine bsk 66 k rfl rfl rfl rfl (fun hF => zhF hF 16 42 ml23) ?_
     refine bd 67 k rfl rfl rfl (fun ax wx hE hR hF => have e42 := zhF hF 16 42 ml24; have e66 := zhF hF 40 66 ml0; Z0b rfl e42 rfl) ?_
     apply Build.stop
     refine ⟨by kernel_rfl, .inl ⟨rfl, ?_⟩⟩
     intro a32 w33 hE R hF; have e67 : a32.eval (.tmp 67) = _ := hF 41 (det 67 _) ml0
     clear hF; replace O := OwnT.ext O R; clear R; replace e0 := hE.g e0; replace e1 := hE.g e1; replace e2 := hE.g e2; replace e6 := hE.g e6; replace e8 := hE.g e8; replace e9 := hE.g e9; replace k := k.env hE; clear hE e23; refine Z00 ?_; refine Z0h e67 rfl ?_
     refine wp_seq ?_; refine wp_region_lit ?_
     have hE := Env.refl a32 [68, 7]; refine sd 68 hE k (Z1n O 0 rfl rfl (hE.g e8) [.int .u64 (h.g + 1), .int .i64 root, .int .i64 h.a, .int .i64 h.b, .int .i64 h.c] rfl Tryz.underlying39 rfl (by kernel_rfl)) ?_; intro a34 hE e68 kp; refine Z1b O 1 0 hE (hE.g e6) e68 ?_
     clear O; intro w35 O; replace O : OwnT _ _ (_ :: (tBlk rb 39 #[.int .u64 (h.g + 1), .int .i64 root, .int .i64 h.a, .int .i64 h.b, .int .i64 h.c]) :: _) w35 := O
     refine sd 7 hE k (Z01 rfl rfl) ?_; intro a36 hE e7 kp; refine wpList_nil ?_; replace e6 := hE.g e6; replace k := k.env hE; clear hE e0 e1 e2 e8 e9 e67; refine Z00 ?_; refine wp_ret ?_
     refine Z12 ?_
     refine Z0m ?_
     refine Z0m ?_
     refine Z12 ?_
     refine Z0m ?_
     have hno2 := Z73 (K := K) (F := F) (P := P) hx (lost_out (by omega))
     have q0 : w35.cell? ⟨rb, 0, none⟩ = some (.int .u64 (h.g + 1)) := (OwnT.blk O 1 rfl).cell 0
     have q1 : w35.cell? ⟨rb, 1, none⟩ = some (.int .i64 root) := (OwnT.blk O 1 rfl).cell 1
     have q2 : w35.cell? ⟨rb, 2, none⟩ = some (.int .i64 h.a) := (OwnT.blk O 1 rfl).cell 2
     have q3 : w35.cell? ⟨rb, 3, none⟩ = some (.int .i64 h.b) := (OwnT.blk O 1 rfl).cell 3
     have q4 : w35.cell? ⟨rb, 4, none⟩ = some (.int .i64 h.c) := (OwnT.blk O 1 rfl).cell 4
     refine Z20 rfl k e6 e7 (v := .agg #[.int .u64 (h.g + 1), .int .i64 root, .int .i64 h.a, .int .i64 h.b, .int .i64 h.c]) (by simp [go_sem, ↓IntWalk.iteOmega, q0, q1, q2, q3, q4]) ?_
     exact ⟨false, rfl, OwnT.pickR (L := [_, _, _, _, _, _]) (R := R) O [2, 3, 4, 5] (by decide), fun h => (by cases h), fun h => absurd h.2.1 hno2⟩
   obtain ⟨z, rfl⟩ : ∃ z : Nat, x = z := ⟨x.toNat, by omega⟩
   have hzP : z < P := by omega
   have hli := lost_in (K := K) (F := F) (x := (z : Int)) (P := P) (by omega)
   unfold freeB at hli

   cases hG : (F (z : Int)).isSome with
   | true =>
    have hl : lostB P K F (z : Int) = false := by rw [hli, hG]; rfl
    have hGi : isF F ((z : Nat) : Int) = true := hG
    refine wp_seq ?_; refine Z0l (R := Ext) (w0 := w22) [[], [], [0, 1], [0, 1, 2], rg 4, rg 5, rg 6, rg 6, rg 8, rg 9, rg 6, [0, 1, 2, 3, 4, 5, 10], [0, 1, 2, 3, 4, 5, 10, 11], [0, 1, 2, 3, 4, 5, 10, 11, 12], rg 14, rg 15, rg 16, rg 17, rg 18, rg 19, rg 20, rg 17, rg 17, [0, 1, 2, 3, 4, 5, 6, 7, 8, 9, 10, 11, 12, 13, 14, 15, 16, 21, 22], [0, 1, 2, 3, 4, 5, 6, 7, 8, 9, 10, 11, 12, 13, 14, 15, 16, 21, 22, 23], rg 25, rg 26, rg 27, rg 28, rg 29, rg 30, rg 31, rg 32, rg 29, rg 29, [0, 1, 2, 3, 4, 5, 6, 7, 8, 9, 10, 11, 12, 13, 14, 15, 16, 17, 18, 19, 20, 21, 22, 23, 24, 25, 26, 27, 28, 33, 34], [0, 1, 2, 3, 4, 5, 6, 7, 8, 9, 10, 11, 12, 13, 14, 15, 16, 17, 18, 19, 20, 21, 22, 23, 24, 25, 26, 27, 28, 33, 34, 35], rg 37, rg 38, rg 39, rg 40, rg 41] [26, 27, 28, 29, 30, 31, 32, 33, 34, 35, 36, 37, 38, 39, 40, 41, 42, 43, 44, 45, 46, 47, 48, 49, 50, 51, 52, 53, 54, 55, 56, 57, 58, 59, 60, 61, 62, 63, 64, 65, 66, 67] Ext.refl (fun _ _ _ => Ext.trans) (Ext.drew _) (by kernel_rfl) ?_
    refine bd 26 k rfl rfl rfl (fun ax wx hE hR hF => Z02 rfl (hE.g e2)) ?_
    refine bd 27 k rfl rfl rfl (fun ax wx hE hR hF => Z02 rfl (hE.g e9)) ?_
    apply bd 28 k rfl rfl rfl; case h =>
     intro ax wx hE hR hF; have e26 := zhF hF 0 26 ml1; have e27 := zhF hF 1 27 ml0; simp [go_sem, ↓IntWalk.iteOmega, ev e26, ev e27]
     with_reducible rfl
    apply bd 29 k rfl rfl rfl; case h =>
     intro ax wx hE hR hF; have e28 := zhF hF 2 28 ml0; have d0 := hc wx hR
     simp [go_sem, ↓IntWalk.iteOmega, ev e28, d0]
     with_reducible rfl
    refine bd 30 k rfl rfl rfl (fun ax wx hE hR hF => have e29 := zhF hF 3 29 ml0; Z08 (Z0z rfl e29 rfl) (decide_eq_false (by omega))) ?_
    refine bd 31 k rfl rfl rfl (fun ax wx hE hR hF => have e30 := zhF hF 4 30 ml0; Z02 rfl e30) ?_
    refine bdg 32 k rfl rfl rfl rfl (fun ax wx hE hR hF => have e31 := zhF hF 5 31 ml0; ⟨e31, Z02 rfl (hE.g e2)⟩) ?_
    refine bdg 33 k rfl rfl rfl rfl (fun ax wx hE hR hF => have e31 := zhF hF 5 31 ml1; ⟨e31, Z02 rfl (hE.g e9)⟩) ?_
    apply bdg 34 k rfl rfl rfl rfl; case h =>
     intro ax wx hE hR hF; have e32 := zhF hF 6 32 ml1; have e33 := zhF hF 7 33 ml0; have e31 := zhF hF 5 31 ml2; refine ⟨e31, ?_⟩; simp [go_sem, ↓IntWalk.iteOmega, ev e32, ev e33]
     with_reducible rfl
    apply bdg 35 k rfl rfl rfl rfl; case h =>
     intro ax wx hE hR hF; have e34 := zhF hF 8 34 ml0; have e31 := zhF hF 5 31 ml3; refine ⟨e31, ?_⟩; have d0 := hc wx hR
     simp [go_sem, ↓IntWalk.iteOmega, ev e34, d0]
     with_reducible rfl
    refine bdg 36 k rfl rfl rfl rfl (fun ax wx hE hR hF => have e31 := zhF hF 5 31 ml4; ⟨e31, Z02 rfl (hE.g e0)⟩) ?_
    refine bdg 37 k rfl rfl rfl rfl (fun ax wx hE hR hF => have e36 := zhF hF 10 36 ml0; have e31 := zhF hF 5 31 ml5; ⟨e31, Z0d rfl e36⟩) ?_
    apply bdg 38 k rfl rfl rfl rfl; case h =>
     intro ax wx hE hR hF; have e37 := zhF hF 11 37 ml0; have e31 := zhF hF 5 31 ml6; refine ⟨e31, ?_⟩; simp [go_sem, ↓IntWalk.iteOmega, ev e37]
     with_reducible rfl
    refine bdg 39 k rfl rfl rfl rfl (fun ax wx hE hR hF => have e38 := zhF hF 12 38 ml0; have e31 := zhF hF 5 31 ml7; ⟨e31, Z0a (OwnT.ext O hR) 2 rfl rfl e38 rfl Tryz.underlying3 rfl⟩) ?_
    refine bdg 40 k rfl rfl rfl rfl (fun ax wx hE hR hF => have e35 := zhF hF 9 35 ml4; have e39 := zhF hF 13 39 ml0; have e31 := zhF hF 5 31 ml8; ⟨e31, Z08 (Z1l rfl e35 e39) (decide_eq_false (by omega))⟩) ?_
    refine bd 41 k rfl rfl rfl (fun ax wx hE hR hF => have e31 := zhF hF 5 31 ml9; have e40 := zhF hF 14 40 ml0; Z09 rfl e31 e40) ?_
    refine bd 42 k rfl rfl rfl (fun ax wx hE hR hF => have e41 := zhF hF 15 41 ml0; Z02 rfl e41) ?_
    refine bdg 43 k rfl rfl rfl rfl (fun ax wx hE hR hF => have e42 := zhF hF 16 42 ml0; ⟨e42, Z02 rfl (hE.g e0)⟩) ?_
    refine bdg 44 k rfl rfl rfl rfl (fun ax wx hE hR hF => have e43 := zhF hF 17 43 ml0; have e42 := zhF hF 16 42 ml1; ⟨e42, Z0d rfl e43⟩) ?_
    apply bdg 45 k rfl rfl rfl rfl; case h =>
     intro ax wx hE hR hF; have e44 := zhF hF 18 44 ml0; have e42 := zhF hF 16 42 ml2; refine ⟨e42, ?_⟩; simp [go_sem, ↓IntWalk.iteOmega, ev e44]
     with_reducible rfl
    refine bdg 46 k rfl rfl rfl rfl (fun ax wx hE hR hF => have e45 := zhF hF 19 45 ml0; have e42 := zhF hF 16 42 ml3; ⟨e42, Z0a (OwnT.ext O hR) 2 rfl rfl e45 rfl Tryz.underlying59 rfl⟩) ?_
    refine bdg 47 k rfl rfl rfl rfl (fun ax wx hE hR hF => have e42 := zhF hF 16 42 ml4; ⟨e42, Z02 rfl (hE.g e2)⟩) ?_
    refine bdg 48 k rfl rfl rfl rfl (fun ax wx hE hR hF => have e42 := zhF hF 16 42 ml5; ⟨e42, Z02 rfl (hE.g e9)⟩) ?_
    apply bdg 49 k rfl rfl rfl rfl; case h =>
     intro ax wx hE hR hF; have e47 := zhF hF 21 47 ml1; have e48 := zhF hF 22 48 ml0; have e42 := zhF hF 16 42 ml6; refine ⟨e42, ?_⟩; simp [go_sem, ↓IntWalk.iteOmega, ev e47, ev e48]
     with_reducible rfl
    apply bdg 50 k rfl rfl rfl rfl; case h =>
     intro ax wx hE hR hF; have e49 := zhF hF 23 49 ml0; have e42 := zhF hF 16 42 ml7; refine ⟨e42, ?_⟩; have d0 := hc wx hR
     simp [go_sem, ↓IntWalk.iteOmega, ev e49, d0]
     with_reducible rfl
    apply bdg 51 k rfl rfl rfl rfl; case h =>
     intro ax wx hE hR hF; have e46 := zhF hF 20 46 ml4; have e50 := zhF hF 24 50 ml0; have e42 := zhF hF 16 42 ml8; refine ⟨e42, ?_⟩; simp [go_sem, ↓IntWalk.iteOmega, ev e46, ev e50]
     with_reducible rfl
    apply bdg 52 k rfl rfl rfl rfl; case h =>
     intro ax wx hE hR hF; have e51 := zhF hF 25 51 ml0; have e42 := zhF hF 16 42 ml9; refine ⟨e42, ?_⟩; have d1 := Z0u (OwnT.blk (OwnT.ext O hR) 4 rfl) hzP
     simp [go_sem, ↓IntWalk.iteOmega, ev e51, d1, hGi]
     with_reducible rfl
    refine bdg 53 k rfl rfl rfl rfl (fun ax wx hE hR hF => have e52 := zhF hF 26 52 ml0; have e42 := zhF hF 16 42 ml10; ⟨e42, Z15 rfl e52⟩) ?_
    refine bdg 54 k rfl rfl rfl rfl (fun ax wx hE hR hF => have e53 := zhF hF 27 53 ml0; have e42 := zhF hF 16 42 ml11; ⟨e42, Z02 rfl e53⟩) ?_
    refine bsk 55 k rfl rfl rfl rfl (fun hF => zhF hF 28 54 ml0) ?_
    refine bsk 56 k rfl rfl rfl rfl (fun hF => zhF hF 28 54 ml1) ?_
    refine bsk 57 k rfl rfl rfl rfl (fun hF => zhF hF 28 54 ml2) ?_
    refine bsk 58 k rfl rfl rfl rfl (fun hF => zhF hF 28 54 ml3) ?_
    refine bsk 59 k rfl rfl rfl rfl (fun hF => zhF hF 28 54 ml4) ?_
    refine bsk 60 k rfl rfl rfl rfl (fun hF => zhF hF 28 54 ml5) ?_
    refine bsk 61 k rfl rfl rfl rfl (fun hF => zhF hF 28 54 ml6) ?_
    refine bsk 62 k rfl rfl rfl rfl (fun hF => zhF hF 28 54 ml7) ?_
    refine bsk 63 k rfl rfl rfl rfl (fun hF => zhF hF 28 54 ml8) ?_
    refine bsk 64 k rfl rfl rfl rfl (fun hF => zhF hF 28 54 ml9) ?_
    refine bsk 65 k rfl rfl rfl rfl (fun hF => zhF hF 28 54 ml10) ?_
    refine bdg 66 k rfl rfl rfl rfl (fun ax wx hE hR hF => have e54 := zhF hF 28 54 ml11; have e65 := zhF hF 39 65 ml0; have e42 := zhF hF 16 42 ml23; ⟨e42, Z09 rfl e54 rfl⟩) ?_
    refine bd 67 k rfl rfl rfl (fun ax wx hE hR hF => have e42 := zhF hF 16 42 ml24; have e66 := zhF hF 40 66 ml0; Z09 rfl e42 e66) ?_
    apply Build.stop
    refine ⟨by kernel_rfl, .inl ⟨rfl, ?_⟩⟩
    intro a37 w38 hE R hF; have e67 : a37.eval (.tmp 67) = _ := hF 41 (det 67 _) ml0
    clear hF; replace O := OwnT.ext O R; clear R; replace e0 := hE.g e0; replace e1 := hE.g e1; replace e2 := hE.g e2; replace e6 := hE.g e6; replace e8 := hE.g e8; replace e9 := hE.g e9; replace k := k.env hE; clear hE e23; refine Z00 ?_; refine Z07 e67 rfl ?_
    refine wp_skip ?_; refine Z0f ?_; refine Z00 ?_; refine wp_region_lit ?_
    have hE := Env.refl a37 [24, 25, 9]; refine sd 24 hE k (Z02 rfl e9) ?_; intro a39 hE e24 kp; replace e9 := kt kp e9; refine sd 25 hE k (Z1i rfl e24 rfl (by omega)) ?_; intro a40 hE e25 kp; replace e9 := kt kp e9; replace e25 := e25.trans (Z10 (show (i : Int) + 1 = ((i + 1 : Nat) : Int) by omega))
    refine sd 9 hE k (Z01 rfl e25) ?_; intro a41 hE e9 kp; refine wpList_nil ?_; replace e0 := hE.g e0; replace e1 := hE.g e1; replace e2 := hE.g e2; replace e6 := hE.g e6; replace e8 := hE.g e8; replace k := k.env hE; clear hE e67; refine Z00 ?_; refine ⟨⟨k, e0, e1, e2, e6, e8, i + 1, e9, by omega, any_take hx hno hl, O⟩, ?_⟩
    rw [e9, mi]; simp only [intOf]; omega
   | false =>
    have hGi : isF F ((z : Nat) : Int) = false := hG
    cases hK : K (z : Int) with
    | true =>
     have hl : lostB P K F (z : Int) = false := by rw [hli, hG, hK]; rfl
     refine wp_seq ?_; refine Z0l (R := Ext) (w0 := w22) [[], [], [0, 1], [0, 1, 2], rg 4, rg 5, rg 6, rg 6, rg 8, rg 9, rg 6, [0, 1, 2, 3, 4, 5, 10], [0, 1, 2, 3, 4, 5, 10, 11], [0, 1, 2, 3, 4, 5, 10, 11, 12], rg 14, rg 15, rg 16, rg 17, rg 18, rg 19, rg 20, rg 17, rg 17, [0, 1, 2, 3, 4, 5, 6, 7, 8, 9, 10, 11, 12, 13, 14, 15, 16, 21, 22], [0, 1, 2, 3, 4, 5, 6, 7, 8, 9, 10, 11, 12, 13, 14, 15, 16, 21, 22, 23], rg 25, rg 26, rg 27, rg 28, rg 29, rg 30, rg 31, rg 32, rg 29, rg 29, [0, 1, 2, 3, 4, 5, 6, 7, 8, 9, 10, 11, 12, 13, 14, 15, 16, 17, 18, 19, 20, 21, 22, 23, 24, 25, 26, 27, 28, 33, 34], [0, 1, 2, 3, 4, 5, 6, 7, 8, 9, 10, 11, 12, 13, 14, 15, 16, 17, 18, 19, 20, 21, 22, 23, 24, 25, 26, 27, 28, 33, 34, 35], rg 37, rg 38, rg 39, rg 40, rg 41] [26, 27, 28, 29, 30, 31, 32, 33, 34, 35, 36, 37, 38, 39, 40, 41, 42, 43, 44, 45, 46, 47, 48, 49, 50, 51, 52, 53, 54, 55, 56, 57, 58, 59, 60, 61, 62, 63, 64, 65, 66, 67] Ext.refl (fun _ _ _ => Ext.trans) (Ext.drew _) (by kernel_rfl) ?_
     refine bd 26 k rfl rfl rfl (fun ax wx hE hR hF => Z02 rfl (hE.g e2)) ?_
     refine bd 27 k rfl rfl rfl (fun ax wx hE hR hF => Z02 rfl (hE.g e9)) ?_
     apply bd 28 k rfl rfl rfl; case h =>
      intro ax wx hE hR hF; have e26 := zhF hF 0 26 ml1; have e27 := zhF hF 1 27 ml0; simp [go_sem, ↓IntWalk.iteOmega, ev e26, ev e27]
      with_reducible rfl
     apply bd 29 k rfl rfl rfl; case h =>
      intro ax wx hE hR hF; have e28 := zhF hF 2 28 ml0; have d0 := hc wx hR
      simp [go_sem, ↓IntWalk.iteOmega, ev e28, d0]
      with_reducible rfl
     refine bd 30 k rfl rfl rfl (fun ax wx hE hR hF => have e29 := zhF hF 3 29 ml0; Z08 (Z0z rfl e29 rfl) (decide_eq_false (by omega))) ?_
     refine bd 31 k rfl rfl rfl (fun ax wx hE hR hF => have e30 := zhF hF 4 30 ml0; Z02 rfl e30) ?_
     refine bdg 32 k rfl rfl rfl rfl (fun ax wx hE hR hF => have e31 := zhF hF 5 31 ml0; ⟨e31, Z02 rfl (hE.g e2)⟩) ?_
     refine bdg 33 k rfl rfl rfl rfl (fun ax wx hE hR hF => have e31 := zhF hF 5 31 ml1; ⟨e31, Z02 rfl (hE.g e9)⟩) ?_
     apply bdg 34 k rfl rfl rfl rfl; case h =>
      intro ax wx hE hR hF; have e32 := zhF hF 6 32 ml1; have e33 := zhF hF 7 33 ml0; have e31 := zhF hF 5 31 ml2; refine ⟨e31, ?_⟩; simp [go_sem, ↓IntWalk.iteOmega, ev e32, ev e33]
      with_reducible rfl
     apply bdg 35 k rfl rfl rfl rfl; case h =>
      intro ax wx hE hR hF; have e34 := zhF hF 8 34 ml0; have e31 := zhF hF 5 31 ml3; refine ⟨e31, ?_⟩; have d0 := hc wx hR
      simp [go_sem, ↓IntWalk.iteOmega, ev e34, d0]
      with_reducible rfl
     refine bdg 36 k rfl rfl rfl rfl (fun ax wx hE hR hF => have e31 := zhF hF 5 31 ml4; ⟨e31, Z02 rfl (hE.g e0)⟩) ?_
     refine bdg 37 k rfl rfl rfl rfl (fun ax wx hE hR hF => have e36 := zhF hF 10 36 ml0; have e31 := zhF hF 5 31 ml5; ⟨e31, Z0d rfl e36⟩) ?_
     apply bdg 38 k rfl rfl rfl rfl; case h =>
      intro ax wx hE hR hF; have e37 := zhF hF 11 37 ml0; have e31 := zhF hF 5 31 ml6; refine ⟨e31, ?_⟩; simp [go_sem, ↓IntWalk.iteOmega, ev e37]
      with_reducible rfl
     refine bdg 39 k rfl rfl rfl rfl (fun ax wx hE hR hF => have e38 := zhF hF 12 38 ml0; have e31 := zhF hF 5 31 ml7; ⟨e31, Z0a (OwnT.ext O hR) 2 rfl rfl e38 rfl Tryz.underlying3 rfl⟩) ?_
     refine bdg 40 k rfl rfl rfl rfl (fun ax wx hE hR hF => have e35 := zhF hF 9 35 ml4; have e39 := zhF hF 13 39 ml0; have e31 := zhF hF 5 31 ml8; ⟨e31, Z08 (Z1l rfl e35 e39) (decide_eq_false (by omega))⟩) ?_
     refine bd 41 k rfl rfl rfl (fun ax wx hE hR hF => have e31 := zhF hF 5 31 ml9; have e40 := zhF hF 14 40 ml0; Z09 rfl e31 e40) ?_
     refine bd 42 k rfl rfl rfl (fun ax wx hE hR hF => have e41 := zhF hF 15 41 ml0; Z02 rfl e41) ?_
     refine bdg 43 k rfl rfl rfl rfl (fun ax wx hE hR hF => have e42 := zhF hF 16 42 ml0; ⟨e42, Z02 rfl (hE.g e0)⟩) ?_
     refine bdg 44 k rfl rfl rfl rfl (fun ax wx hE hR hF => have e43 := zhF hF 17 43 ml0; have e42 := zhF hF 16 42 ml1; ⟨e42, Z0d rfl e43⟩) ?_
     apply bdg 45 k rfl rfl rfl rfl; case h =>
      intro ax wx hE hR hF; have e44 := zhF hF 18 44 ml0; have e42 := zhF hF 16 42 ml2; refine ⟨e42, ?_⟩; simp [go_sem, ↓IntWalk.iteOmega, ev e44]
      with_reducible rfl
     refine bdg 46 k rfl rfl rfl rfl (fun ax wx hE hR hF => have e45 := zhF hF 19 45 ml0; have e42 := zhF hF 16 42 ml3; ⟨e42, Z0a (OwnT.ext O hR) 2 rfl rfl e45 rfl Tryz.underlying59 rfl⟩) ?_
     refine bdg 47 k rfl rfl rfl rfl (fun ax wx hE hR hF => have e42 := zhF hF 16 42 ml4; ⟨e42, Z02 rfl (hE.g e2)⟩) ?_
     refine bdg 48 k rfl rfl rfl rfl (fun ax wx hE hR hF => have e42 := zhF hF 16 42 ml5; ⟨e42, Z02 rfl (hE.g e9)⟩) ?_
     apply bdg 49 k rfl rfl rfl rfl; case h =>
      intro ax wx hE hR hF; have e47 := zhF hF 21 47 ml1; have e48 := zhF hF 22 48 ml0; have e42 := zhF hF 16 42 ml6; refine ⟨e42, ?_⟩; simp [go_sem, ↓IntWalk.iteOmega, ev e47, ev e48]
      with_reducible rfl
     apply bdg 50 k rfl rfl rfl rfl; case h =>
      intro ax wx hE hR hF; have e49 := zhF hF 23 49 ml0; have e42 := zhF hF 16 42 ml7; refine ⟨e42, ?_⟩; have d0 := hc wx hR
      simp [go_sem, ↓IntWalk.iteOmega, ev e49, d0]
      with_reducible rfl
     apply bdg 51 k rfl rfl rfl rfl; case h =>
      intro ax wx hE hR hF; have e46 := zhF hF 20 46 ml4; have e50 := zhF hF 24 50 ml0; have e42 := zhF hF 16 42 ml8; refine ⟨e42, ?_⟩; simp [go_sem, ↓IntWalk.iteOmega, ev e46, ev e50]
      with_reducible rfl
     apply bdg 52 k rfl rfl rfl rfl; case h =>
      intro ax wx hE hR hF; have e51 := zhF hF 25 51 ml0; have e42 := zhF hF 16 42 ml9; refine ⟨e42, ?_⟩; have d1 := Z0u (OwnT.blk (OwnT.ext O hR) 4 rfl) hzP
      simp [go_sem, ↓IntWalk.iteOmega, ev e51, d1, hGi]
      with_reducible rfl
     refine bdg 53 k rfl rfl rfl rfl (fun ax wx hE hR hF => have e52 := zhF hF 26 52 ml0; have e42 := zhF hF 16 42 ml10; ⟨e42, Z15 rfl e52⟩) ?_
     refine bdg 54 k rfl rfl rfl rfl (fun ax wx hE hR hF => have e53 := zhF hF 27 53 ml0; have e42 := zhF hF 16 42 ml11; ⟨e42, Z02 rfl e53⟩) ?_
     refine bdg 55 k rfl rfl rfl rfl (fun ax wx hE hR hF => have e54 := zhF hF 28 54 ml0; ⟨e54, Z02 rfl (hE.g e0)⟩) ?_
     refine bdg 56 k rfl rfl rfl rfl (fun ax wx hE hR hF => have e55 := zhF hF 29 55 ml0; have e54 := zhF hF 28 54 ml1; ⟨e54, Z0d rfl e55⟩) ?_
     apply bdg 57 k rfl rfl rfl rfl; case h =>
      intro ax wx hE hR hF; have e56 := zhF hF 30 56 ml0; have e54 := zhF hF 28 54 ml2; refine ⟨e54, ?_⟩; simp [go_sem, ↓IntWalk.iteOmega, ev e56]
      with_reducible rfl
     refine bdg 58 k rfl rfl rfl rfl (fun ax wx hE hR hF => have e57 := zhF hF 31 57 ml0; have e54 := zhF hF 28 54 ml3; ⟨e54, Z0a (OwnT.ext O hR) 2 rfl rfl e57 rfl Tryz.underlying59 rfl⟩) ?_
     refine bdg 59 k rfl rfl rfl rfl (fun ax wx hE hR hF => have e54 := zhF hF 28 54 ml4; ⟨e54, Z02 rfl (hE.g e2)⟩) ?_
     refine bdg 60 k rfl rfl rfl rfl (fun ax wx hE hR hF => have e54 := zhF hF 28 54 ml5; ⟨e54, Z02 rfl (hE.g e9)⟩) ?_
     apply bdg 61 k rfl rfl rfl rfl; case h =>
      intro ax wx hE hR hF; have e59 := zhF hF 33 59 ml1; have e60 := zhF hF 34 60 ml0; have e54 := zhF hF 28 54 ml6; refine ⟨e54, ?_⟩; simp [go_sem, ↓IntWalk.iteOmega, ev e59, ev e60]
      with_reducible rfl
     apply bdg 62 k rfl rfl rfl rfl; case h =>
      intro ax wx hE hR hF; have e61 := zhF hF 35 61 ml0; have e54 := zhF hF 28 54 ml7; refine ⟨e54, ?_⟩; have d0 := hc wx hR
      simp [go_sem, ↓IntWalk.iteOmega, ev e61, d0]
      with_reducible rfl
     apply bdg 63 k rfl rfl rfl rfl; case h =>
      intro ax wx hE hR hF; have e58 := zhF hF 32 58 ml4; have e62 := zhF hF 36 62 ml0; have e54 := zhF hF 28 54 ml8; refine ⟨e54, ?_⟩; simp [go_sem, ↓IntWalk.iteOmega, ev e58, ev e62]
      with_reducible rfl
     apply bdg 64 k rfl rfl rfl rfl; case h =>
      intro ax wx hE hR hF; have e63 := zhF hF 37 63 ml0; have e54 := zhF hF 28 54 ml9; refine ⟨e54, ?_⟩; have d1 := Z0u (OwnT.blk (OwnT.ext O hR) 3 rfl) hzP
      simp [go_sem, ↓IntWalk.iteOmega, ev e63, d1, hK]
      with_reducible rfl
     refine bdg 65 k rfl rfl rfl rfl (fun ax wx hE hR hF => have e64 := zhF hF 38 64 ml0; have e54 := zhF hF 28 54 ml10; ⟨e54, Z15 rfl e64⟩) ?_
     refine bdg 66 k rfl rfl rfl rfl (fun ax wx hE hR hF => have e54 := zhF hF 28 54 ml11; have e65 := zhF hF 39 65 ml0; have e42 := zhF hF 16 42 ml23; ⟨e42, Z0b rfl e54 e65⟩) ?_
     refine bd 67 k rfl rfl rfl (fun ax wx hE hR hF => have e42 := zhF hF 16 42 ml24; have e66 := zhF hF 40 66 ml0; Z09 rfl e42 e66) ?_
     apply Build.stop
     refine ⟨by kernel_rfl, .inl ⟨rfl, ?_⟩⟩
     intro a42 w43 hE R hF; have e67 : a42.eval (.tmp 67) = _ := hF 41 (det 67 _) ml0
     clear hF; replace O := OwnT.ext O R; clear R; replace e0 := hE.g e0; replace e1 := hE.g e1; replace e2 := hE.g e2; replace e6 := hE.g e6; replace e8 := hE.g e8; replace e9 := hE.g e9; replace k := k.env hE; clear hE e23; refine Z00 ?_; refine Z07 e67 rfl ?_
     refine wp_skip ?_; refine Z0f ?_; refine Z00 ?_; refine wp_region_lit ?_
     have hE := Env.refl a42 [24, 25, 9]; refine sd 24 hE k (Z02 rfl e9) ?_; intro a44 hE e24 kp; replace e9 := kt kp e9; refine sd 25 hE k (Z1i rfl e24 rfl (by omega)) ?_; intro a45 hE e25 kp; replace e9 := kt kp e9; replace e25 := e25.trans (Z10 (show (i : Int) + 1 = ((i + 1 : Nat) : Int) by omega))
     refine sd 9 hE k (Z01 rfl e25) ?_; intro a46 hE e9 kp; refine wpList_nil ?_; replace e0 := hE.g e0; replace e1 := hE.g e1; replace e2 := hE.g e2; replace e6 := hE.g e6; replace e8 := hE.g e8; replace k := k.env hE; clear hE e67; refine Z00 ?_; refine ⟨⟨k, e0, e1, e2, e6, e8, i + 1, e9, by omega, any_take hx hno hl, O⟩, ?_⟩
     rw [e9, mi]; simp only [intOf]; omega
    | false =>
     refine wp_seq ?_; refine Z0l (R := Ext) (w0 := w22) [[], [], [0, 1], [0, 1, 2], rg 4, rg 5, rg 6, rg 6, rg 8, rg 9, rg 6, [0, 1, 2, 3, 4, 5, 10], [0, 1, 2, 3, 4, 5, 10, 11], [0, 1, 2, 3, 4, 5, 10, 11, 12], rg 14, rg 15, rg 16, rg 17, rg 18, rg 19, rg 20, rg 17, rg 17, [0, 1, 2, 3, 4, 5, 6, 7, 8, 9, 10, 11, 12, 13, 14, 15, 16, 21, 22], [0, 1, 2, 3, 4, 5, 6, 7, 8, 9, 10, 11, 12, 13, 14, 15, 16, 21, 22, 23], rg 25, rg 26, rg 27, rg 28, rg 29, rg 30, rg 31, rg 32, rg 29, rg 29, [0, 1, 2, 3, 4, 5, 6, 7, 8, 9, 10, 11, 12, 13, 14, 15, 16, 17, 18, 19, 20, 21, 22, 23, 24, 25, 26, 27, 28, 33, 34], [0, 1, 2, 3, 4, 5, 6, 7, 8, 9, 10, 11, 12, 13, 14, 15, 16, 17, 18, 19, 20, 21, 22, 23, 24, 25, 26, 27, 28, 33, 34, 35], rg 37, rg 38, rg 39, rg 40, rg 41] [26, 27, 28, 29, 30, 31, 32, 33, 34, 35, 36, 37, 38, 39, 40, 41, 42, 43, 44, 45, 46, 47, 48, 49, 50, 51, 52, 53, 54, 55, 56, 57, 58, 59, 60, 61, 62, 63, 64, 65, 66, 67] Ext.refl (fun _ _ _ => Ext.trans) (Ext.drew _) (by kernel_rfl) ?_
     refine bd 26 k rfl rfl rfl (fun ax wx hE hR hF => Z02 rfl (hE.g e2)) ?_
     refine bd 27 k rfl rfl rfl (fun ax wx hE hR hF => Z02 rfl (hE.g e9)) ?_
     apply bd 28 k rfl rfl rfl; case h =>
      intro ax wx hE hR hF; have e26 := zhF hF 0 26 ml1; have e27 := zhF hF 1 27 ml0; simp [go_sem, ↓IntWalk.iteOmega, ev e26, ev e27]
      with_reducible rfl
     apply bd 29 k rfl rfl rfl; case h =>
      intro ax wx hE hR hF; have e28 := zhF hF 2 28 ml0; have d0 := hc wx hR
      simp [go_sem, ↓IntWalk.iteOmega, ev e28, d0]
      with_reducible rfl
     refine bd 30 k rfl rfl rfl (fun ax wx hE hR hF => have e29 := zhF hF 3 29 ml0; Z08 (Z0z rfl e29 rfl) (decide_eq_false (by omega))) ?_
     refine bd 31 k rfl rfl rfl (fun ax wx hE hR hF => have e30 := zhF hF 4 30 ml0; Z02 rfl e30) ?_
     refine bdg 32 k rfl rfl rfl rfl (fun ax wx hE hR hF => have e31 := zhF hF 5 31 ml0; ⟨e31, Z02 rfl (hE.g e2)⟩) ?_
     refine bdg 33 k rfl rfl rfl rfl (fun ax wx hE hR hF => have e31 := zhF hF 5 31 ml1; ⟨e31, Z02 rfl (hE.g e9)⟩) ?_
     apply bdg 34 k rfl rfl rfl rfl; case h =>
      intro ax wx hE hR hF; have e32 := zhF hF 6 32 ml1; have e33 := zhF hF 7 33 ml0; have e31 := zhF hF 5 31 ml2; refine ⟨e31, ?_⟩; simp [go_sem, ↓IntWalk.iteOmega, ev e32, ev e33]
      with_reducible rfl
     apply bdg 35 k rfl rfl rfl rfl; case h =>
      intro ax wx hE hR hF; have e34 := zhF hF 8 34 ml0; have e31 := zhF hF 5 31 ml3; refine ⟨e31, ?_⟩; have d0 := hc wx hR
      simp [go_sem, ↓IntWalk.iteOmega, ev e34, d0]
      with_reducible rfl
     refine bdg 36 k rfl rfl rfl rfl (fun ax wx hE hR hF => have e31 := zhF hF 5 31 ml4; ⟨e31, Z02 rfl (hE.g e0)⟩) ?_
     refine bdg 37 k rfl rfl rfl rfl (fun ax wx hE hR hF => have e36 := zhF hF 10 36 ml0; have e31 := zhF hF 5 31 ml5; ⟨e31, Z0d rfl e36⟩) ?_
     apply bdg 38 k rfl rfl rfl rfl; case h =>
      intro ax wx hE hR hF; have e37 := zhF hF 11 37 ml0; have e31 := zhF hF 5 31 ml6; refine ⟨e31, ?_⟩; simp [go_sem, ↓IntWalk.iteOmega, ev e37]
      with_reducible rfl
     refine bdg 39 k rfl rfl rfl rfl (fun ax wx hE hR hF => have e38 := zhF hF 12 38 ml0; have e31 := zhF hF 5 31 ml7; ⟨e31, Z0a (OwnT.ext O hR) 2 rfl rfl e38 rfl Tryz.underlying3 rfl⟩) ?_
     refine bdg 40 k rfl rfl rfl rfl (fun ax wx hE hR hF => have e35 := zhF hF 9 35 ml4; have e39 := zhF hF 13 39 ml0; have e31 := zhF hF 5 31 ml8; ⟨e31, Z08 (Z1l rfl e35 e39) (decide_eq_false (by omega))⟩) ?_
     refine bd 41 k rfl rfl rfl (fun ax wx hE hR hF => have e31 := zhF hF 5 31 ml9; have e40 := zhF hF 14 40 ml0; Z09 rfl e31 e40) ?_
     refine bd 42 k rfl rfl rfl (fun ax wx hE hR hF => have e41 := zhF hF 15 41 ml0; Z02 rfl e41) ?_
     refine bdg 43 k rfl rfl rfl rfl (fun ax wx hE hR hF => have e42 := zhF hF 16 42 ml0; ⟨e42, Z02 rfl (hE.g e0)⟩) ?_
     refine bdg 44 k rfl rfl rfl rfl (fun ax wx hE hR hF => have e43 := zhF hF 17 43 ml0; have e42 := zhF hF 16 42 ml1; ⟨e42, Z0d rfl e43⟩) ?_
     apply bdg 45 k rfl rfl rfl rfl; case h =>
      intro ax wx hE hR hF; have e44 := zhF hF 18 44 ml0; have e42 := zhF hF 16 42 ml2; refine ⟨e42, ?_⟩; simp [go_sem, ↓IntWalk.iteOmega, ev e44]
      with_reducible rfl
     refine bdg 46 k rfl rfl rfl rfl (fun ax wx hE hR hF => have e45 := zhF hF 19 45 ml0; have e42 := zhF hF 16 42 ml3; ⟨e42, Z0a (OwnT.ext O hR) 2 rfl rfl e45 rfl Tryz.underlying59 rfl⟩) ?_
     refine bdg 47 k rfl rfl rfl rfl (fun ax wx hE hR hF => have e42 := zhF hF 16 42 ml4; ⟨e42, Z02 rfl (hE.g e2)⟩) ?_
     refine bdg 48 k rfl rfl rfl rfl (fun ax wx hE hR hF => have e42 := zhF hF 16 42 ml5; ⟨e42, Z02 rfl (hE.g e9)⟩) ?_
     apply bdg 49 k rfl rfl rfl rfl; case h =>
      intro ax wx hE hR hF; have e47 := zhF hF 21 47 ml1; have e48 := zhF hF 22 48 ml0; have e42 := zhF hF 16 42 ml6; refine ⟨e42, ?_⟩; simp [go_sem, ↓IntWalk.iteOmega, ev e47, ev e48]
      with_reducible rfl
     apply bdg 50 k rfl rfl rfl rfl; case h =>
      intro ax wx hE hR hF; have e49 := zhF hF 23 49 ml0; have e42 := zhF hF 16 42 ml7; refine ⟨e42, ?_⟩; have d0 := hc wx hR
      simp [go_sem, ↓IntWalk.iteOmega, ev e49, d0]
      with_reducible rfl
     apply bdg 51 k rfl rfl rfl rfl; case h =>
      intro ax wx hE hR hF; have e46 := zhF hF 20 46 ml4; have e50 := zhF hF 24 50 ml0; have e42 := zhF hF 16 42 ml8; refine ⟨e42, ?_⟩; simp [go_sem, ↓IntWalk.iteOmega, ev e46, ev e50]
      with_reducible rfl
     apply bdg 52 k rfl rfl rfl rfl; case h =>
      intro ax wx hE hR hF; have e51 := zhF hF 25 51 ml0; have e42 := zhF hF 16 42 ml9; refine ⟨e42, ?_⟩; have d1 := Z0u (OwnT.blk (OwnT.ext O hR) 4 rfl) hzP
      simp [go_sem, ↓IntWalk.iteOmega, ev e51, d1, hGi]
      with_reducible rfl
     refine bdg 53 k rfl rfl rfl rfl (fun ax wx hE hR hF => have e52 := zhF hF 26 52 ml0; have e42 := zhF hF 16 42 ml10; ⟨e42, Z15 rfl e52⟩) ?_
     refine bdg 54 k rfl rfl rfl rfl (fun ax wx hE hR hF => have e53 := zhF hF 27 53 ml0; have e42 := zhF hF 16 42 ml11; ⟨e42, Z02 rfl e53⟩) ?_
     refine bdg 55 k rfl rfl rfl rfl (fun ax wx hE hR hF => have e54 := zhF hF 28 54 ml0; ⟨e54, Z02 rfl (hE.g e0)⟩) ?_
     refine bdg 56 k rfl rfl rfl rfl (fun ax wx hE hR hF => have e55 := zhF hF 29 55 ml0; have e54 := zhF hF 28 54 ml1; ⟨e54, Z0d rfl e55⟩) ?_
     apply bdg 57 k rfl rfl rfl rfl; case h =>
      intro ax wx hE hR hF; have e56 := zhF hF 30 56 ml0; have e54 := zhF hF 28 54 ml2; refine ⟨e54, ?_⟩; simp [go_sem, ↓IntWalk.iteOmega, ev e56]
      with_reducible rfl
     refine bdg 58 k rfl rfl rfl rfl (fun ax wx hE hR hF => have e57 := zhF hF 31 57 ml0; have e54 := zhF hF 28 54 ml3; ⟨e54, Z0a (OwnT.ext O hR) 2 rfl rfl e57 rfl Tryz.underlying59 rfl⟩) ?_
     refine bdg 59 k rfl rfl rfl rfl (fun ax wx hE hR hF => have e54 := zhF hF 28 54 ml4; ⟨e54, Z02 rfl (hE.g e2)⟩) ?_
     refine bdg 60 k rfl rfl rfl rfl (fun ax wx hE hR hF => have e54 := zhF hF 28 54 ml5; ⟨e54, Z02 rfl (hE.g e9)⟩) ?_
     apply bdg 61 k rfl rfl rfl rfl; case h =>
      intro ax wx hE hR hF; have e59 := zhF hF 33 59 ml1; have e60 := zhF hF 34 60 ml0; have e54 := zhF hF 28 54 ml6; refine ⟨e54, ?_⟩; simp [go_sem, ↓IntWalk.iteOmega, ev e59, ev e60]
      with_reducible rfl
     apply bdg 62 k rfl rfl rfl rfl; case h =>
      intro ax wx hE hR hF; have e61 := zhF hF 35 61 ml0; have e54 := zhF hF 28 54 ml7; refine ⟨e54, ?_⟩; have d0 := hc wx hR
      simp [go_sem, ↓IntWalk.iteOmega, ev e61, d0]
      with_reducible rfl
     apply bdg 63 k rfl rfl rfl rfl; case h =>
      intro ax wx hE hR hF; have e58 := zhF hF 32 58 ml4; have e62 := zhF hF 36 62 ml0; have e54 := zhF hF 28 54 ml8; refine ⟨e54, ?_⟩; simp [go_sem, ↓IntWalk.iteOmega, ev e58, ev e62]
      with_reducible rfl
     apply bdg 64 k rfl rfl rfl rfl; case h =>
      intro ax wx hE hR hF; have e63 := zhF hF 37 63 ml0; have e54 := zhF hF 28 54 ml9; refine ⟨e54, ?_⟩; have d1 := Z0u (OwnT.blk (OwnT.ext O hR) 3 rfl) hzP
      simp [go_sem, ↓IntWalk.iteOmega, ev e63, d1, hK]
      with_reducible rfl
     refine bdg 65 k rfl rfl rfl rfl (fun ax wx hE hR hF => have e64 := zhF hF 38 64 ml0; have e54 := zhF hF 28 54 ml10; ⟨e54, Z15 rfl e64⟩) ?_
     refine bdg 66 k rfl rfl rfl rfl (fun ax wx hE hR hF => have e54 := zhF hF 28 54 ml11; have e65 := zhF hF 39 65 ml0; have e42 := zhF hF 16 42 ml23; ⟨e42, Z0b rfl e54 e65⟩) ?_
     refine bd 67 k rfl rfl rfl (fun ax wx hE hR hF => have e42 := zhF hF 16 42 ml24; have e66 := zhF hF 40 66 ml0; Z09 rfl e42 e66) ?_
     apply Build.stop
     refine ⟨by kernel_rfl, .inl ⟨rfl, ?_⟩⟩
     intro a47 w48 hE R hF; have e67 : a47.eval (.tmp 67) = _ := hF 41 (det 67 _) ml0
     clear hF; replace O := OwnT.ext O R; clear R; replace e0 := hE.g e0; replace e1 := hE.g e1; replace e2 := hE.g e2; replace e6 := hE.g e6; replace e8 := hE.g e8; replace e9 := hE.g e9; replace k := k.env hE; clear hE e23; refine Z00 ?_; refine Z0h e67 rfl ?_
     refine wp_seq ?_; refine wp_region_lit ?_
     have hE := Env.refl a47 [68, 7]; refine sd 68 hE k (Z1n O 0 rfl rfl (hE.g e8) [.int .u64 (h.g + 1), .int .i64 root, .int .i64 h.a, .int .i64 h.b, .int .i64 h.c] rfl Tryz.underlying39 rfl (by kernel_rfl)) ?_; intro a49 hE e68 kp; refine Z1b O 1 0 hE (hE.g e6) e68 ?_
     clear O; intro w50 O; replace O : OwnT _ _ (_ :: (tBlk rb 39 #[.int .u64 (h.g + 1), .int .i64 root, .int .i64 h.a, .int .i64 h.b, .int .i64 h.c]) :: _) w50 := O
     refine sd 7 hE k (Z01 rfl rfl) ?_; intro a51 hE e7 kp; refine wpList_nil ?_; replace e6 := hE.g e6; replace k := k.env hE; clear hE e0 e1 e2 e8 e9 e67; refine Z00 ?_; refine wp_ret ?_
     refine Z12 ?_
     refine Z0m ?_
     refine Z0m ?_
     refine Z12 ?_
     refine Z0m ?_
     have hno2 := Z73 (K := K) (F := F) (P := P) hx (by rw [hli, hG, hK]; rfl)
     have q0 : w50.cell? ⟨rb, 0, none⟩ = some (.int .u64 (h.g + 1)) := (OwnT.blk O 1 rfl).cell 0
     have q1 : w50.cell? ⟨rb, 1, none⟩ = some (.int .i64 root) := (OwnT.blk O 1 rfl).cell 1
     have q2 : w50.cell? ⟨rb, 2, none⟩ = some (.int .i64 h.a) := (OwnT.blk O 1 rfl).cell 2
     have q3 : w50.cell? ⟨rb, 3, none⟩ = some (.int .i64 h.b) := (OwnT.blk O 1 rfl).cell 3
     have q4 : w50.cell? ⟨rb, 4, none⟩ = some (.int .i64 h.c) := (OwnT.blk O 1 rfl).cell 4
     refine Z20 rfl k e6 e7 (v := .agg #[.int .u64 (h.g + 1), .int .i64 root, .int .i64 h.a, .int .i64 h.b, .int .i64 h.c]) (by simp [go_sem, ↓IntWalk.iteOmega, q0, q1, q2, q3, q4]) ?_
     exact ⟨false, rfl, OwnT.pickR (L := [_, _, _, _, _, _]) (R := R) O [2, 3, 4, 5] (by decide), fun h => (by cases h), fun h => absurd h.2.1 hno2⟩
 · obtain rfl : i = xs.length := by omega
   rw [List.take_length] at hno
   refine wp_seq ?_; refine wp_seq ?_; refine wp_region_lit ?_
   have hE := Env.refl a21 [20, 21, 22, 23]; refine zm 20 hE k e9 ?_; intro a52 hE e20 kp; refine zm 21 hE k e2 ?_; intro a53 hE e21 kp; replace e20 := kt kp e20; refine sd 22 hE k (Z1w Tryz.underlying40 rfl e21) ?_; intro a54 hE e22 kp; replace e20 := kt kp e20; refine sd 23 hE k (Z08 (Z0z rfl e20 e22) (decide_eq_false (by omega))) ?_
   intro a55 hE e23 kp; refine wpList_nil ?_; replace e0 := hE.g e0; replace e1 := hE.g e1; replace e2 := hE.g e2; replace e6 := hE.g e6; replace e8 := hE.g e8; replace e9 := hE.g e9; replace k := k.env hE; clear hE; refine Z00 ?_; refine Z07 e23 rfl ?_
   refine wp_exit ?_
   refine Z0p ?_
   refine Z0p ?_
   refine Z11 ?_
   refine Z00 (wp_seq ?_); by_cases hok : (nextHd h root).Ok
   rotate_left
   · skip
     refine wp_st1 (L0 := (tBlk hb 39 #[.int .u64 (h.g + 1), .int .i64 root, .int .i64 h.a, .int .i64 h.b, .int .i64 h.c]) :: (tBlk rb 39 #[.int .u64 0, .int .i64 0, .int .i64 0, .int .i64 0, .int .i64 0]) :: (tBlk ub 62 #[.int .i64 ↑P, .slice (some ⟨g1, 0, none⟩) P P, .slice (some ⟨g2, 0, none⟩) P P, .slice (some ⟨g3, 0, none⟩) P P, .int .u64 h.g, .int .i64 h.r, .int .i64 h.a, .int .i64 h.b, .int .i64 h.c]) :: (tBlk g1 4 (boA P K)) :: (tBlk g2 4 (boA P (isF F))) :: (tBlk g3 47 (ndA P T)) :: R) (L1 := (tBlk hb 39 #[.int .u64 (h.g + 1), .int .i64 root, .int .i64 h.a, .int .i64 h.b, .int .i64 h.c]) :: (tBlk rb 39 #[.int .u64 (h.g + 1), .int .i64 root, .int .i64 h.a, .int .i64 h.b, .int .i64 h.c]) :: (tBlk ub 62 #[.int .i64 ↑P, .slice (some ⟨g1, 0, none⟩) P P, .slice (some ⟨g2, 0, none⟩) P P, .slice (some ⟨g3, 0, none⟩) P P, .int .u64 h.g, .int .i64 h.r, .int .i64 h.a, .int .i64 h.b, .int .i64 h.c]) :: (tBlk g1 4 (boA P K)) :: (tBlk g2 4 (boA P (isF F))) :: (tBlk g3 47 (ndA P T)) :: R) 12 [[], [], [1], [1, 2], [1, 2, 3], [1, 2, 3, 4], [1, 2, 3, 4, 5], [1, 2, 3, 4, 5, 6], [1, 2, 3, 4, 5, 6], [1, 2, 3, 4, 5, 6, 7, 8], [1, 2, 3, 4, 5, 6, 7, 8, 9], [1, 2, 3, 4, 5, 6, 7, 8, 9, 10], rg 10, rg 13] [69, 70, 71, 72, 73, 74, 75, 76, 77, 78, 79, 80, 7] O (by kernel_rfl) ?_
     apply Build1.det 69 (by kernel_rfl) rfl (by rw [k.size]; rfl) rfl
     case h =>
      intro ax wx hE hO hF; have q0 : wx.cell? ⟨hb, 0, none⟩ = some (.int .u64 (h.g + 1)) := by rcases hO with O | O <;> exact (OwnT.blk O 0 rfl).cell 0
      have q1 : wx.cell? ⟨hb, 1, none⟩ = some (.int .i64 root) := by rcases hO with O | O <;> exact (OwnT.blk O 0 rfl).cell 1
      have q2 : wx.cell? ⟨hb, 2, none⟩ = some (.int .i64 h.a) := by rcases hO with O | O <;> exact (OwnT.blk O 0 rfl).cell 2
      have q3 : wx.cell? ⟨hb, 3, none⟩ = some (.int .i64 h.b) := by rcases hO with O | O <;> exact (OwnT.blk O 0 rfl).cell 3
      have q4 : wx.cell? ⟨hb, 4, none⟩ = some (.int .i64 h.c) := by rcases hO with O | O <;> exact (OwnT.blk O 0 rfl).cell 4
      simp [go_sem, ↓IntWalk.iteOmega, ev (hE.g e8), q0, q1, q2, q3, q4]
      with_reducible rfl
     apply Build1.det 70 (by kernel_rfl) rfl (by rw [k.size]; rfl) rfl
     case h =>
      intro ax wx hE hO hF; have q0 : wx.cell? ⟨hb, 0, none⟩ = some (.int .u64 (h.g + 1)) := by rcases hO with O | O <;> exact (OwnT.blk O 0 rfl).cell 0
      have q1 : wx.cell? ⟨hb, 1, none⟩ = some (.int .i64 root) := by rcases hO with O | O <;> exact (OwnT.blk O 0 rfl).cell 1
      have q2 : wx.cell? ⟨hb, 2, none⟩ = some (.int .i64 h.a) := by rcases hO with O | O <;> exact (OwnT.blk O 0 rfl).cell 2
      have q3 : wx.cell? ⟨hb, 3, none⟩ = some (.int .i64 h.b) := by rcases hO with O | O <;> exact (OwnT.blk O 0 rfl).cell 3
      have q4 : wx.cell? ⟨hb, 4, none⟩ = some (.int .i64 h.c) := by rcases hO with O | O <;> exact (OwnT.blk O 0 rfl).cell 4
      simp [go_sem, ↓IntWalk.iteOmega, ev (hE.g e8), q0, q1, q2, q3, q4]
      with_reducible rfl
     apply Build1.call 71 (by kernel_rfl) rfl (by rw [k.size]; rfl) rfl
     case h =>
      intro ax wx hE hO hF; have e70 := hF 1 (detL 1 70 _) (by decide) ml0
      simp [go_sem, ↓IntWalk.iteOmega, ev e70]
      with_reducible exact ⟨rfl, rfl⟩
     case hc => intro wx hO; exact rhgood_no _ _ _ _ _ wx hok
     apply Build1.det 72 (by kernel_rfl) rfl (by rw [k.size]; rfl) rfl
     case h =>
      intro ax wx hE hO hF; have e71 := hF 2 (detL 2 71 _) (by decide) ml0
      exact Z02 rfl e71
     refine Build1.skip 73 (by kernel_rfl) rfl (by rw [k.size]; rfl) rfl rfl ?_ ?_
     · intro ax wx hE hF; have e72 := hF 3 (detL 3 72 _) (by decide) ml0
       exact e72
     refine Build1.skip 74 (by kernel_rfl) rfl (by rw [k.size]; rfl) rfl rfl ?_ ?_
     · intro ax wx hE hF; have e72 := hF 3 (detL 3 72 _) (by decide) ml1
       exact e72
     refine Build1.skip 75 (by kernel_rfl) rfl (by rw [k.size]; rfl) rfl rfl ?_ ?_
     · intro ax wx hE hF; have e72 := hF 3 (detL 3 72 _) (by decide) ml2
       exact e72
     refine Build1.skipu 76 (by kernel_rfl) rfl (by rw [k.size]; rfl) rfl rfl ?_ ?_
     · intro ax wx hE hF; have e75 := hF 6 (detL 6 75 _) (by decide) ml0
       exact e75
     refine Build1.skipu 77 (by kernel_rfl) rfl (by rw [k.size]; rfl) rfl rfl ?_ ?_
     · intro ax wx hE hF; have e75 := hF 6 (detL 6 75 _) (by decide) ml1
       exact e75
     refine Build1.skipu 78 (by kernel_rfl) rfl (by rw [k.size]; rfl) rfl rfl ?_ ?_
     · intro ax wx hE hF; have e75 := hF 6 (detL 6 75 _) (by decide) ml2
       exact e75
     refine Build1.skip 79 (by kernel_rfl) rfl (by rw [k.size]; rfl) rfl rfl ?_ ?_
     · intro ax wx hE hF; have e72 := hF 3 (detL 3 72 _) (by decide) ml6
       exact e72
     apply Build1.det 80 (by kernel_rfl) rfl (by rw [k.size]; rfl) rfl
     case h =>
      intro ax wx hE hO hF; have e72 := hF 3 (detL 3 72 _) (by decide) ml7
      have e79 := hF 10 (detL 10 79 _) (by decide) ml0
      exact Z09 rfl e72 rfl
     refine Build1.store rfl rfl rfl ?_ ?_
     · intro ax wx hE O hF; have e69 := hF 0 (detL 0 69 _) (by decide) ml11
       have hbk := OwnT.blk O 1 rfl
       have q0 : wx.cell? ⟨rb, 0, none⟩ = some (.int .u64 0) := hbk.cell 0
       have q1 : wx.cell? ⟨rb, 1, none⟩ = some (.int .i64 0) := hbk.cell 1
       have q2 : wx.cell? ⟨rb, 2, none⟩ = some (.int .i64 0) := hbk.cell 2
       have q3 : wx.cell? ⟨rb, 3, none⟩ = some (.int .i64 0) := hbk.cell 3
       have q4 : wx.cell? ⟨rb, 4, none⟩ = some (.int .i64 0) := hbk.cell 4
       have z0 : wx.frozen? ⟨rb, 0, none⟩ = false := hbk.frozen 0
       have z1 : wx.frozen? ⟨rb, 1, none⟩ = false := hbk.frozen 1
       have z2 : wx.frozen? ⟨rb, 2, none⟩ = false := hbk.frozen 2
       have z3 : wx.frozen? ⟨rb, 3, none⟩ = false := hbk.frozen 3
       have z4 : wx.frozen? ⟨rb, 4, none⟩ = false := hbk.frozen 4
       refine ⟨(((((wx.setCell ⟨rb, 0, none⟩ (.int .u64 (h.g + 1))).setCell ⟨rb, 1, none⟩ (.int .i64 root)).setCell ⟨rb, 2, none⟩ (.int .i64 h.a)).setCell ⟨rb, 3, none⟩ (.int .i64 h.b)).setCell ⟨rb, 4, none⟩ (.int .i64 h.c)), by simp [go_sem, ↓IntWalk.iteOmega, ev (hE.g e6), ev e69, q0, z0, q1, z1, q2, z2, q3, z3, q4, z4], OwnT.push 1 rfl ((((((OwnT.pull O 1 rfl).set 0 (.int .u64 (h.g + 1))).set 1 (.int .i64 root)).set 2 (.int .i64 h.a)).set 3 (.int .i64 h.b)).set 4 (.int .i64 h.c))⟩
     apply Build1.det 7 (by kernel_rfl) rfl (by rw [k.size]; rfl) rfl
     case h =>
      intro ax wx hE hO hF; have e80 := hF 11 (detL 11 80 _) (by decide) ml1
      exact Z01 rfl e80
     apply BuildL.stop
     refine ⟨by kernel_rfl, ?_⟩
     clear O; intro lx a56 w57 hE hI hL hF; have O := hI.end_ (hL 12 (Nat.le_of_ble_eq_true rfl))
     have e7 : a56.eval (.tmp 7) = _ := hF 13 (detL 13 7 _) ml0
     clear hF hI hL; simp only [List.length_cons, List.length_nil, Nat.zero_add, Nat.reduceAdd, List.drop_succ_cons, List.drop_zero, List.drop_nil, tailOps]
     replace e6 := hE.g e6; replace k := k.env hE; clear hE e0 e1 e2 e8 e9 e23; refine Z00 ?_; refine wp_ret ?_
     have q0 : w57.cell? ⟨rb, 0, none⟩ = some (.int .u64 (h.g + 1)) := (OwnT.blk O 1 rfl).cell 0
     have q1 : w57.cell? ⟨rb, 1, none⟩ = some (.int .i64 root) := (OwnT.blk O 1 rfl).cell 1
     have q2 : w57.cell? ⟨rb, 2, none⟩ = some (.int .i64 h.a) := (OwnT.blk O 1 rfl).cell 2
     have q3 : w57.cell? ⟨rb, 3, none⟩ = some (.int .i64 h.b) := (OwnT.blk O 1 rfl).cell 3
     have q4 : w57.cell? ⟨rb, 4, none⟩ = some (.int .i64 h.c) := (OwnT.blk O 1 rfl).cell 4
     refine Z20 rfl k e6 e7 (v := .agg #[.int .u64 (h.g + 1), .int .i64 root, .int .i64 h.a, .int .i64 h.b, .int .i64 h.c]) (by simp [go_sem, ↓IntWalk.iteOmega, q0, q1, q2, q3, q4]) ?_
     exact ⟨false, rfl, OwnT.pickR (L := [_, _, _, _, _, _]) (R := R) O [2, 3, 4, 5] (by decide), fun h => (by cases h), fun h => absurd h.1 hok⟩
   by_cases hr0 : root = 0
   · skip
     refine wp_st1 (L0 := (tBlk hb 39 #[.int .u64 (h.g + 1), .int .i64 root, .int .i64 h.a, .int .i64 h.b, .int .i64 h.c]) :: (tBlk rb 39 #[.int .u64 0, .int .i64 0, .int .i64 0, .int .i64 0, .int .i64 0]) :: (tBlk ub 62 #[.int .i64 ↑P, .slice (some ⟨g1, 0, none⟩) P P, .slice (some ⟨g2, 0, none⟩) P P, .slice (some ⟨g3, 0, none⟩) P P, .int .u64 h.g, .int .i64 h.r, .int .i64 h.a, .int .i64 h.b, .int .i64 h.c]) :: (tBlk g1 4 (boA P K)) :: (tBlk g2 4 (boA P (isF F))) :: (tBlk g3 47 (ndA P T)) :: R) (L1 := (tBlk hb 39 #[.int .u64 (h.g + 1), .int .i64 root, .int .i64 h.a, .int .i64 h.b, .int .i64 h.c]) :: (tBlk rb 39 #[.int .u64 (h.g + 1), .int .i64 root, .int .i64 h.a, .int .i64 h.b, .int .i64 h.c]) :: (tBlk ub 62 #[.int .i64 ↑P, .slice (some ⟨g1, 0, none⟩) P P, .slice (some ⟨g2, 0, none⟩) P P, .slice (some ⟨g3, 0, none⟩) P P, .int .u64 h.g, .int .i64 h.r, .int .i64 h.a, .int .i64 h.b, .int .i64 h.c]) :: (tBlk g1 4 (boA P K)) :: (tBlk g2 4 (boA P (isF F))) :: (tBlk g3 47 (ndA P T)) :: R) 12 [[], [], [1], [1, 2], [1, 2, 3], [1, 2, 3, 4], [1, 2, 3, 4, 5], [1, 2, 3, 4, 5, 6], [1, 2, 3, 4, 5, 6], [1, 2, 3, 4, 5, 6, 7, 8], [1, 2, 3, 4, 5, 6, 7, 8, 9], [1, 2, 3, 4, 5, 6, 7, 8, 9, 10], rg 10, rg 13] [69, 70, 71, 72, 73, 74, 75, 76, 77, 78, 79, 80, 7] O (by kernel_rfl) ?_
     apply Build1.det 69 (by kernel_rfl) rfl (by rw [k.size]; rfl) rfl
     case h =>
      intro ax wx hE hO hF; have q0 : wx.cell? ⟨hb, 0, none⟩ = some (.int .u64 (h.g + 1)) := by rcases hO with O | O <;> exact (OwnT.blk O 0 rfl).cell 0
      have q1 : wx.cell? ⟨hb, 1, none⟩ = some (.int .i64 root) := by rcases hO with O | O <;> exact (OwnT.blk O 0 rfl).cell 1
      have q2 : wx.cell? ⟨hb, 2, none⟩ = some (.int .i64 h.a) := by rcases hO with O | O <;> exact (OwnT.blk O 0 rfl).cell 2
      have q3 : wx.cell? ⟨hb, 3, none⟩ = some (.int .i64 h.b) := by rcases hO with O | O <;> exact (OwnT.blk O 0 rfl).cell 3
      have q4 : wx.cell? ⟨hb, 4, none⟩ = some (.int .i64 h.c) := by rcases hO with O | O <;> exact (OwnT.blk O 0 rfl).cell 4
      simp [go_sem, ↓IntWalk.iteOmega, ev (hE.g e8), q0, q1, q2, q3, q4]
      with_reducible rfl
     apply Build1.det 70 (by kernel_rfl) rfl (by rw [k.size]; rfl) rfl
     case h =>
      intro ax wx hE hO hF; have q0 : wx.cell? ⟨hb, 0, none⟩ = some (.int .u64 (h.g + 1)) := by rcases hO with O | O <;> exact (OwnT.blk O 0 rfl).cell 0
      have q1 : wx.cell? ⟨hb, 1, none⟩ = some (.int .i64 root) := by rcases hO with O | O <;> exact (OwnT.blk O 0 rfl).cell 1
      have q2 : wx.cell? ⟨hb, 2, none⟩ = some (.int .i64 h.a) := by rcases hO with O | O <;> exact (OwnT.blk O 0 rfl).cell 2
      have q3 : wx.cell? ⟨hb, 3, none⟩ = some (.int .i64 h.b) := by rcases hO with O | O <;> exact (OwnT.blk O 0 rfl).cell 3
      have q4 : wx.cell? ⟨hb, 4, none⟩ = some (.int .i64 h.c) := by rcases hO with O | O <;> exact (OwnT.blk O 0 rfl).cell 4
      simp [go_sem, ↓IntWalk.iteOmega, ev (hE.g e8), q0, q1, q2, q3, q4]
      with_reducible rfl
     apply Build1.call 71 (by kernel_rfl) rfl (by rw [k.size]; rfl) rfl
     case h =>
      intro ax wx hE hO hF; have e70 := hF 1 (detL 1 70 _) (by decide) ml0
      simp [go_sem, ↓IntWalk.iteOmega, ev e70]
      with_reducible exact ⟨rfl, rfl⟩
     case hc => intro wx hO; exact Z40 _ _ _ _ _ wx hok
     apply Build1.det 72 (by kernel_rfl) rfl (by rw [k.size]; rfl) rfl
     case h =>
      intro ax wx hE hO hF; have e71 := hF 2 (detL 2 71 _) (by decide) ml0
      exact Z02 rfl e71
     apply Build1.detg 73 (by kernel_rfl) rfl (by rw [k.size]; rfl) rfl rfl
     case h =>
      intro ax wx hE hO hF; have e72 := hF 3 (detL 3 72 _) (by decide) ml0
      refine ⟨e72, ?_⟩; exact Z02 rfl (hE.g e1)
     apply Build1.detg 74 (by kernel_rfl) rfl (by rw [k.size]; rfl) rfl rfl
     case h =>
      intro ax wx hE hO hF; have e73 := hF 4 (detL 4 73 _) (by decide) ml0
      have e72 := hF 3 (detL 3 72 _) (by decide) ml1
      refine ⟨e72, ?_⟩; exact Z08 (Z19 rfl e73 rfl) (decide_eq_true (by omega))
     apply Build1.detg 75 (by kernel_rfl) rfl (by rw [k.size]; rfl) rfl rfl
     case h =>
      intro ax wx hE hO hF; have e74 := hF 5 (detL 5 74 _) (by decide) ml0
      have e72 := hF 3 (detL 3 72 _) (by decide) ml2
      refine ⟨e72, ?_⟩; exact Z02 rfl e74
     refine Build1.skip 76 (by kernel_rfl) rfl (by rw [k.size]; rfl) rfl rfl ?_ ?_
     · intro ax wx hE hF; have e75 := hF 6 (detL 6 75 _) (by decide) ml0
       exact e75
     refine Build1.skip 77 (by kernel_rfl) rfl (by rw [k.size]; rfl) rfl rfl ?_ ?_
     · intro ax wx hE hF; have e75 := hF 6 (detL 6 75 _) (by decide) ml1
       exact e75
     refine Build1.skip 78 (by kernel_rfl) rfl (by rw [k.size]; rfl) rfl rfl ?_ ?_
     · intro ax wx hE hF; have e75 := hF 6 (detL 6 75 _) (by decide) ml2
       exact e75
     apply Build1.detg 79 (by kernel_rfl) rfl (by rw [k.size]; rfl) rfl rfl
     case h =>
      intro ax wx hE hO hF; have e75 := hF 6 (detL 6 75 _) (by decide) ml3
      have e78 := hF 9 (detL 9 78 _) (by decide) ml0
      have e72 := hF 3 (detL 3 72 _) (by decide) ml6
      refine ⟨e72, ?_⟩; exact Z0b rfl e75 rfl
     apply Build1.det 80 (by kernel_rfl) rfl (by rw [k.size]; rfl) rfl
     case h =>
      intro ax wx hE hO hF; have e72 := hF 3 (detL 3 72 _) (by decide) ml7
      have e79 := hF 10 (detL 10 79 _) (by decide) ml0
      exact Z0b rfl e72 e79
     refine Build1.store rfl rfl rfl ?_ ?_
     · intro ax wx hE O hF; have e69 := hF 0 (detL 0 69 _) (by decide) ml11
       have hbk := OwnT.blk O 1 rfl
       have q0 : wx.cell? ⟨rb, 0, none⟩ = some (.int .u64 0) := hbk.cell 0
       have q1 : wx.cell? ⟨rb, 1, none⟩ = some (.int .i64 0) := hbk.cell 1
       have q2 : wx.cell? ⟨rb, 2, none⟩ = some (.int .i64 0) := hbk.cell 2
       have q3 : wx.cell? ⟨rb, 3, none⟩ = some (.int .i64 0) := hbk.cell 3
       have q4 : wx.cell? ⟨rb, 4, none⟩ = some (.int .i64 0) := hbk.cell 4
       have z0 : wx.frozen? ⟨rb, 0, none⟩ = false := hbk.frozen 0
       have z1 : wx.frozen? ⟨rb, 1, none⟩ = false := hbk.frozen 1
       have z2 : wx.frozen? ⟨rb, 2, none⟩ = false := hbk.frozen 2
       have z3 : wx.frozen? ⟨rb, 3, none⟩ = false := hbk.frozen 3
       have z4 : wx.frozen? ⟨rb, 4, none⟩ = false := hbk.frozen 4
       refine ⟨(((((wx.setCell ⟨rb, 0, none⟩ (.int .u64 (h.g + 1))).setCell ⟨rb, 1, none⟩ (.int .i64 root)).setCell ⟨rb, 2, none⟩ (.int .i64 h.a)).setCell ⟨rb, 3, none⟩ (.int .i64 h.b)).setCell ⟨rb, 4, none⟩ (.int .i64 h.c)), by simp [go_sem, ↓IntWalk.iteOmega, ev (hE.g e6), ev e69, q0, z0, q1, z1, q2, z2, q3, z3, q4, z4], OwnT.push 1 rfl ((((((OwnT.pull O 1 rfl).set 0 (.int .u64 (h.g + 1))).set 1 (.int .i64 root)).set 2 (.int .i64 h.a)).set 3 (.int .i64 h.b)).set 4 (.int .i64 h.c))⟩
     apply Build1.det 7 (by kernel_rfl) rfl (by rw [k.size]; rfl) rfl
     case h =>
      intro ax wx hE hO hF; have e80 := hF 11 (detL 11 80 _) (by decide) ml1
      exact Z01 rfl e80
     apply BuildL.stop
     refine ⟨by kernel_rfl, ?_⟩
     clear O; intro lx a58 w59 hE hI hL hF; have O := hI.end_ (hL 12 (Nat.le_of_ble_eq_true rfl))
     have e7 : a58.eval (.tmp 7) = _ := hF 13 (detL 13 7 _) ml0
     clear hF hI hL; simp only [List.length_cons, List.length_nil, Nat.zero_add, Nat.reduceAdd, List.drop_succ_cons, List.drop_zero, List.drop_nil, tailOps]
     replace e6 := hE.g e6; replace k := k.env hE; clear hE e0 e1 e2 e8 e9 e23; refine Z00 ?_; refine wp_ret ?_
     have q0 : w59.cell? ⟨rb, 0, none⟩ = some (.int .u64 (h.g + 1)) := (OwnT.blk O 1 rfl).cell 0
     have q1 : w59.cell? ⟨rb, 1, none⟩ = some (.int .i64 root) := (OwnT.blk O 1 rfl).cell 1
     have q2 : w59.cell? ⟨rb, 2, none⟩ = some (.int .i64 h.a) := (OwnT.blk O 1 rfl).cell 2
     have q3 : w59.cell? ⟨rb, 3, none⟩ = some (.int .i64 h.b) := (OwnT.blk O 1 rfl).cell 3
     have q4 : w59.cell? ⟨rb, 4, none⟩ = some (.int .i64 h.c) := (OwnT.blk O 1 rfl).cell 4
     refine Z20 rfl k e6 e7 (v := .agg #[.int .u64 (h.g + 1), .int .i64 root, .int .i64 h.a, .int .i64 h.b, .int .i64 h.c]) (by simp [go_sem, ↓IntWalk.iteOmega, q0, q1, q2, q3, q4]) ?_
     exact ⟨true, rfl, OwnT.pickR (L := [_, _, _, _, _, _]) (R := R) O [2, 3, 4, 5] (by decide), fun _ => ⟨hok, hno, .inl hr0⟩, fun _ => rfl⟩
   by_cases hin : root ∈ xs
   · skip
     refine wp_st1 (L0 := (tBlk hb 39 #[.int .u64 (h.g + 1), .int .i64 root, .int .i64 h.a, .int .i64 h.b, .int .i64 h.c]) :: (tBlk rb 39 #[.int .u64 0, .int .i64 0, .int .i64 0, .int .i64 0, .int .i64 0]) :: (tBlk ub 62 #[.int .i64 ↑P, .slice (some ⟨g1, 0, none⟩) P P, .slice (some ⟨g2, 0, none⟩) P P, .slice (some ⟨g3, 0, none⟩) P P, .int .u64 h.g, .int .i64 h.r, .int .i64 h.a, .int .i64 h.b, .int .i64 h.c]) :: (tBlk g1 4 (boA P K)) :: (tBlk g2 4 (boA P (isF F))) :: (tBlk g3 47 (ndA P T)) :: R) (L1 := (tBlk hb 39 #[.int .u64 (h.g + 1), .int .i64 root, .int .i64 h.a, .int .i64 h.b, .int .i64 h.c]) :: (tBlk rb 39 #[.int .u64 (h.g + 1), .int .i64 root, .int .i64 h.a, .int .i64 h.b, .int .i64 h.c]) :: (tBlk ub 62 #[.int .i64 ↑P, .slice (some ⟨g1, 0, none⟩) P P, .slice (some ⟨g2, 0, none⟩) P P, .slice (some ⟨g3, 0, none⟩) P P, .int .u64 h.g, .int .i64 h.r, .int .i64 h.a, .int .i64 h.b, .int .i64 h.c]) :: (tBlk g1 4 (boA P K)) :: (tBlk g2 4 (boA P (isF F))) :: (tBlk g3 47 (ndA P T)) :: R) 12 [[], [], [1], [1, 2], [1, 2, 3], [1, 2, 3, 4], [1, 2, 3, 4, 5], [1, 2, 3, 4, 5, 6], [1, 2, 3, 4, 5, 6], [1, 2, 3, 4, 5, 6, 7, 8], [1, 2, 3, 4, 5, 6, 7, 8, 9], [1, 2, 3, 4, 5, 6, 7, 8, 9, 10], rg 10, rg 13] [69, 70, 71, 72, 73, 74, 75, 76, 77, 78, 79, 80, 7] O (by kernel_rfl) ?_
     apply Build1.det 69 (by kernel_rfl) rfl (by rw [k.size]; rfl) rfl
     case h =>
      intro ax wx hE hO hF; have q0 : wx.cell? ⟨hb, 0, none⟩ = some (.int .u64 (h.g + 1)) := by rcases hO with O | O <;> exact (OwnT.blk O 0 rfl).cell 0
      have q1 : wx.cell? ⟨hb, 1, none⟩ = some (.int .i64 root) := by rcases hO with O | O <;> exact (OwnT.blk O 0 rfl).cell 1
      have q2 : wx.cell? ⟨hb, 2, none⟩ = some (.int .i64 h.a) := by rcases hO with O | O <;> exact (OwnT.blk O 0 rfl).cell 2
      have q3 : wx.cell? ⟨hb, 3, none⟩ = some (.int .i64 h.b) := by rcases hO with O | O <;> exact (OwnT.blk O 0 rfl).cell 3
      have q4 : wx.cell? ⟨hb, 4, none⟩ = some (.int .i64 h.c) := by rcases hO with O | O <;> exact (OwnT.blk O 0 rfl).cell 4
      simp [go_sem, ↓IntWalk.iteOmega, ev (hE.g e8), q0, q1, q2, q3, q4]
      with_reducible rfl
     apply Build1.det 70 (by kernel_rfl) rfl (by rw [k.size]; rfl) rfl
     case h =>
      intro ax wx hE hO hF; have q0 : wx.cell? ⟨hb, 0, none⟩ = some (.int .u64 (h.g + 1)) := by rcases hO with O | O <;> exact (OwnT.blk O 0 rfl).cell 0
      have q1 : wx.cell? ⟨hb, 1, none⟩ = some (.int .i64 root) := by rcases hO with O | O <;> exact (OwnT.blk O 0 rfl).cell 1
      have q2 : wx.cell? ⟨hb, 2, none⟩ = some (.int .i64 h.a) := by rcases hO with O | O <;> exact (OwnT.blk O 0 rfl).cell 2
      have q3 : wx.cell? ⟨hb, 3, none⟩ = some (.int .i64 h.b) := by rcases hO with O | O <;> exact (OwnT.blk O 0 rfl).cell 3
      have q4 : wx.cell? ⟨hb, 4, none⟩ = some (.int .i64 h.c) := by rcases hO with O | O <;> exact (OwnT.blk O 0 rfl).cell 4
      simp [go_sem, ↓IntWalk.iteOmega, ev (hE.g e8), q0, q1, q2, q3, q4]
      with_reducible rfl
     apply Build1.call 71 (by kernel_rfl) rfl (by rw [k.size]; rfl) rfl
     case h =>
      intro ax wx hE hO hF; have e70 := hF 1 (detL 1 70 _) (by decide) ml0
      simp [go_sem, ↓IntWalk.iteOmega, ev e70]
      with_reducible exact ⟨rfl, rfl⟩
     case hc => intro wx hO; exact Z40 _ _ _ _ _ wx hok
     apply Build1.det 72 (by kernel_rfl) rfl (by rw [k.size]; rfl) rfl
     case h =>
      intro ax wx hE hO hF; have e71 := hF 2 (detL 2 71 _) (by decide) ml0
      exact Z02 rfl e71
     apply Build1.detg 73 (by kernel_rfl) rfl (by rw [k.size]; rfl) rfl rfl
     case h =>
      intro ax wx hE hO hF; have e72 := hF 3 (detL 3 72 _) (by decide) ml0
      refine ⟨e72, ?_⟩; exact Z02 rfl (hE.g e1)
     apply Build1.detg 74 (by kernel_rfl) rfl (by rw [k.size]; rfl) rfl rfl
     case h =>
      intro ax wx hE hO hF; have e73 := hF 4 (detL 4 73 _) (by decide) ml0
      have e72 := hF 3 (detL 3 72 _) (by decide) ml1
      refine ⟨e72, ?_⟩; exact Z08 (Z19 rfl e73 rfl) (decide_eq_false (by omega))
     apply Build1.detg 75 (by kernel_rfl) rfl (by rw [k.size]; rfl) rfl rfl
     case h =>
      intro ax wx hE hO hF; have e74 := hF 5 (detL 5 74 _) (by decide) ml0
      have e72 := hF 3 (detL 3 72 _) (by decide) ml2
      refine ⟨e72, ?_⟩; exact Z02 rfl e74
     apply Build1.detg 76 (by kernel_rfl) rfl (by rw [k.size]; rfl) rfl rfl
     case h =>
      intro ax wx hE hO hF; have e75 := hF 6 (detL 6 75 _) (by decide) ml0
      refine ⟨e75, ?_⟩; exact Z02 rfl (hE.g e2)
     apply Build1.detg 77 (by kernel_rfl) rfl (by rw [k.size]; rfl) rfl rfl
     case h =>
      intro ax wx hE hO hF; have e75 := hF 6 (detL 6 75 _) (by decide) ml1
      refine ⟨e75, ?_⟩; exact Z02 rfl (hE.g e1)
     apply Build1.callg 78 (by kernel_rfl) rfl (by rw [k.size]; rfl) rfl rfl
     case h =>
      intro ax wx hE hO hF; have e76 := hF 7 (detL 7 76 _) (by decide) ml1
      have e77 := hF 8 (detL 8 77 _) (by decide) ml0
      have e75 := hF 6 (detL 6 75 _) (by decide) ml2
      refine ⟨e75, ?_⟩; simp [go_sem, ↓IntWalk.iteOmega, ev e76, ev e77]
      with_reducible exact ⟨rfl, rfl⟩
     case hc => intro wx hO; exact (Z54 root wx (hrow wx (by rcases hO with O | O; exact (OwnT.pickR (L := [_, _, _, _, _, _]) (R := R) O [] (by decide)); exact (OwnT.pickR (L := [_, _, _, _, _, _]) (R := R) O [] (by decide)))) hn).mono (fun e w' h => (⟨h.1.trans (congrArg (fun b => Ending.returned (.bool b)) (decide_eq_true hin)), h.2⟩ : e = .returned (.bool true) ∧ Ext wx w'))
     apply Build1.detg 79 (by kernel_rfl) rfl (by rw [k.size]; rfl) rfl rfl
     case h =>
      intro ax wx hE hO hF; have e75 := hF 6 (detL 6 75 _) (by decide) ml3
      have e78 := hF 9 (detL 9 78 _) (by decide) ml0
      have e72 := hF 3 (detL 3 72 _) (by decide) ml6
      refine ⟨e72, ?_⟩; exact Z09 rfl e75 e78
     apply Build1.det 80 (by kernel_rfl) rfl (by rw [k.size]; rfl) rfl
     case h =>
      intro ax wx hE hO hF; have e72 := hF 3 (detL 3 72 _) (by decide) ml7
      have e79 := hF 10 (detL 10 79 _) (by decide) ml0
      exact Z0b rfl e72 e79
     refine Build1.store rfl rfl rfl ?_ ?_
     · intro ax wx hE O hF; have e69 := hF 0 (detL 0 69 _) (by decide) ml11
       have hbk := OwnT.blk O 1 rfl
       have q0 : wx.cell? ⟨rb, 0, none⟩ = some (.int .u64 0) := hbk.cell 0
       have q1 : wx.cell? ⟨rb, 1, none⟩ = some (.int .i64 0) := hbk.cell 1
       have q2 : wx.cell? ⟨rb, 2, none⟩ = some (.int .i64 0) := hbk.cell 2
       have q3 : wx.cell? ⟨rb, 3, none⟩ = some (.int .i64 0) := hbk.cell 3
       have q4 : wx.cell? ⟨rb, 4, none⟩ = some (.int .i64 0) := hbk.cell 4
       have z0 : wx.frozen? ⟨rb, 0, none⟩ = false := hbk.frozen 0
       have z1 : wx.frozen? ⟨rb, 1, none⟩ = false := hbk.frozen 1
       have z2 : wx.frozen? ⟨rb, 2, none⟩ = false := hbk.frozen 2
       have z3 : wx.frozen? ⟨rb, 3, none⟩ = false := hbk.frozen 3
       have z4 : wx.frozen? ⟨rb, 4, none⟩ = false := hbk.frozen 4
       refine ⟨(((((wx.setCell ⟨rb, 0, none⟩ (.int .u64 (h.g + 1))).setCell ⟨rb, 1, none⟩ (.int .i64 root)).setCell ⟨rb, 2, none⟩ (.int .i64 h.a)).setCell ⟨rb, 3, none⟩ (.int .i64 h.b)).setCell ⟨rb, 4, none⟩ (.int .i64 h.c)), by simp [go_sem, ↓IntWalk.iteOmega, ev (hE.g e6), ev e69, q0, z0, q1, z1, q2, z2, q3, z3, q4, z4], OwnT.push 1 rfl ((((((OwnT.pull O 1 rfl).set 0 (.int .u64 (h.g + 1))).set 1 (.int .i64 root)).set 2 (.int .i64 h.a)).set 3 (.int .i64 h.b)).set 4 (.int .i64 h.c))⟩
     apply Build1.det 7 (by kernel_rfl) rfl (by rw [k.size]; rfl) rfl
     case h =>
      intro ax wx hE hO hF; have e80 := hF 11 (detL 11 80 _) (by decide) ml1
      exact Z01 rfl e80
     apply BuildL.stop
     refine ⟨by kernel_rfl, ?_⟩
     clear O; intro lx a60 w61 hE hI hL hF; have O := hI.end_ (hL 12 (Nat.le_of_ble_eq_true rfl))
     have e7 : a60.eval (.tmp 7) = _ := hF 13 (detL 13 7 _) ml0
     clear hF hI hL; simp only [List.length_cons, List.length_nil, Nat.zero_add, Nat.reduceAdd, List.drop_succ_cons, List.drop_zero, List.drop_nil, tailOps]
     replace e6 := hE.g e6; replace k := k.env hE; clear hE e0 e1 e2 e8 e9 e23; refine Z00 ?_; refine wp_ret ?_
     have q0 : w61.cell? ⟨rb, 0, none⟩ = some (.int .u64 (h.g + 1)) := (OwnT.blk O 1 rfl).cell 0
     have q1 : w61.cell? ⟨rb, 1, none⟩ = some (.int .i64 root) := (OwnT.blk O 1 rfl).cell 1
     have q2 : w61.cell? ⟨rb, 2, none⟩ = some (.int .i64 h.a) := (OwnT.blk O 1 rfl).cell 2
     have q3 : w61.cell? ⟨rb, 3, none⟩ = some (.int .i64 h.b) := (OwnT.blk O 1 rfl).cell 3
     have q4 : w61.cell? ⟨rb, 4, none⟩ = some (.int .i64 h.c) := (OwnT.blk O 1 rfl).cell 4
     refine Z20 rfl k e6 e7 (v := .agg #[.int .u64 (h.g + 1), .int .i64 root, .int .i64 h.a, .int .i64 h.b, .int .i64 h.c]) (by simp [go_sem, ↓IntWalk.iteOmega, q0, q1, q2, q3, q4]) ?_
     exact ⟨true, rfl, OwnT.pickR (L := [_, _, _, _, _, _]) (R := R) O [2, 3, 4, 5] (by decide), fun _ => ⟨hok, hno, .inr hin⟩, fun _ => rfl⟩
   · skip
     refine wp_st1 (L0 := (tBlk hb 39 #[.int .u64 (h.g + 1), .int .i64 root, .int .i64 h.a, .int .i64 h.b, .int .i64 h.c]) :: (tBlk rb 39 #[.int .u64 0, .int .i64 0, .int .i64 0, .int .i64 0, .int .i64 0]) :: (tBlk ub 62 #[.int .i64 ↑P, .slice (some ⟨g1, 0, none⟩) P P, .slice (some ⟨g2, 0, none⟩) P P, .slice (some ⟨g3, 0, none⟩) P P, .int .u64 h.g, .int .i64 h.r, .int .i64 h.a, .int .i64 h.b, .int .i64 h.c]) :: (tBlk g1 4 (boA P K)) :: (tBlk g2 4 (boA P (isF F))) :: (tBlk g3 47 (ndA P T)) :: R) (L1 := (tBlk hb 39 #[.int .u64 (h.g + 1), .int .i64 root, .int .i64 h.a, .int .i64 h.b, .int .i64 h.c]) :: (tBlk rb 39 #[.int .u64 (h.g + 1), .int .i64 root, .int .i64 h.a, .int .i64 h.b, .int .i64 h.c]) :: (tBlk ub 62 #[.int .i64 ↑P, .slice (some ⟨g1, 0, none⟩) P P, .slice (some ⟨g2, 0, none⟩) P P, .slice (some ⟨g3, 0, none⟩) P P, .int .u64 h.g, .int .i64 h.r, .int .i64 h.a, .int .i64 h.b, .int .i64 h.c]) :: (tBlk g1 4 (boA P K)) :: (tBlk g2 4 (boA P (isF F))) :: (tBlk g3 47 (ndA P T)) :: R) 12 [[], [], [1], [1, 2], [1, 2, 3], [1, 2, 3, 4], [1, 2, 3, 4, 5], [1, 2, 3, 4, 5, 6], [1, 2, 3, 4, 5, 6], [1, 2, 3, 4, 5, 6, 7, 8], [1, 2, 3, 4, 5, 6, 7, 8, 9], [1, 2, 3, 4, 5, 6, 7, 8, 9, 10], rg 10, rg 13] [69, 70, 71, 72, 73, 74, 75, 76, 77, 78, 79, 80, 7] O (by kernel_rfl) ?_
     apply Build1.det 69 (by kernel_rfl) rfl (by rw [k.size]; rfl) rfl
     case h =>
      intro ax wx hE hO hF; have q0 : wx.cell? ⟨hb, 0, none⟩ = some (.int .u64 (h.g + 1)) := by rcases hO with O | O <;> exact (OwnT.blk O 0 rfl).cell 0
      have q1 : wx.cell? ⟨hb, 1, none⟩ = some (.int .i64 root) := by rcases hO with O | O <;> exact (OwnT.blk O 0 rfl).cell 1
      have q2 : wx.cell? ⟨hb, 2, none⟩ = some (.int .i64 h.a) := by rcases hO with O | O <;> exact (OwnT.blk O 0 rfl).cell 2
      have q3 : wx.cell? ⟨hb, 3, none⟩ = some (.int .i64 h.b) := by rcases hO with O | O <;> exact (OwnT.blk O 0 rfl).cell 3
      have q4 : wx.cell? ⟨hb, 4, none⟩ = some (.int .i64 h.c) := by rcases hO with O | O <;> exact (OwnT.blk O 0 rfl).cell 4
      simp [go_sem, ↓IntWalk.iteOmega, ev (hE.g e8), q0, q1, q2, q3, q4]
      with_reducible rfl
     apply Build1.det 70 (by kernel_rfl) rfl (by rw [k.size]; rfl) rfl
     case h =>
      intro ax wx hE hO hF; have q0 : wx.cell? ⟨hb, 0, none⟩ = some (.int .u64 (h.g + 1)) := by rcases hO with O | O <;> exact (OwnT.blk O 0 rfl).cell 0
      have q1 : wx.cell? ⟨hb, 1, none⟩ = some (.int .i64 root) := by rcases hO with O | O <;> exact (OwnT.blk O 0 rfl).cell 1
      have q2 : wx.cell? ⟨hb, 2, none⟩ = some (.int .i64 h.a) := by rcases hO with O | O <;> exact (OwnT.blk O 0 rfl).cell 2
      have q3 : wx.cell? ⟨hb, 3, none⟩ = some (.int .i64 h.b) := by rcases hO with O | O <;> exact (OwnT.blk O 0 rfl).cell 3
      have q4 : wx.cell? ⟨hb, 4, none⟩ = some (.int .i64 h.c) := by rcases hO with O | O <;> exact (OwnT.blk O 0 rfl).cell 4
      simp [go_sem, ↓IntWalk.iteOmega, ev (hE.g e8), q0, q1, q2, q3, q4]
      with_reducible rfl
     apply Build1.call 71 (by kernel_rfl) rfl (by rw [k.size]; rfl) rfl
     case h =>
      intro ax wx hE hO hF; have e70 := hF 1 (detL 1 70 _) (by decide) ml0
      simp [go_sem, ↓IntWalk.iteOmega, ev e70]
      with_reducible exact ⟨rfl, rfl⟩
     case hc => intro wx hO; exact Z40 _ _ _ _ _ wx hok
     apply Build1.det 72 (by kernel_rfl) rfl (by rw [k.size]; rfl) rfl
     case h =>
      intro ax wx hE hO hF; have e71 := hF 2 (detL 2 71 _) (by decide) ml0
      exact Z02 rfl e71
     apply Build1.detg 73 (by kernel_rfl) rfl (by rw [k.size]; rfl) rfl rfl
     case h =>
      intro ax wx hE hO hF; have e72 := hF 3 (detL 3 72 _) (by decide) ml0
      refine ⟨e72, ?_⟩; exact Z02 rfl (hE.g e1)
     apply Build1.detg 74 (by kernel_rfl) rfl (by rw [k.size]; rfl) rfl rfl
     case h =>
      intro ax wx hE hO hF; have e73 := hF 4 (detL 4 73 _) (by decide) ml0
      have e72 := hF 3 (detL 3 72 _) (by decide) ml1
      refine ⟨e72, ?_⟩; exact Z08 (Z19 rfl e73 rfl) (decide_eq_false (by omega))
     apply Build1.detg 75 (by kernel_rfl) rfl (by rw [k.size]; rfl) rfl rfl
     case h =>
      intro ax wx hE hO hF; have e74 := hF 5 (detL 5 74 _) (by decide) ml0
      have e72 := hF 3 (detL 3 72 _) (by decide) ml2
      refine ⟨e72, ?_⟩; exact Z02 rfl e74
     apply Build1.detg 76 (by kernel_rfl) rfl (by rw [k.size]; rfl) rfl rfl
     case h =>
      intro ax wx hE hO hF; have e75 := hF 6 (detL 6 75 _) (by decide) ml0
      refine ⟨e75, ?_⟩; exact Z02 rfl (hE.g e2)
     apply Build1.detg 77 (by kernel_rfl) rfl (by rw [k.size]; rfl) rfl rfl
     case h =>
      intro ax wx hE hO hF; have e75 := hF 6 (detL 6 75 _) (by decide) ml1
      refine ⟨e75, ?_⟩; exact Z02 rfl (hE.g e1)
     apply Build1.callg 78 (by kernel_rfl) rfl (by rw [k.size]; rfl) rfl rfl
     case h =>
      intro ax wx hE hO hF; have e76 := hF 7 (detL 7 76 _) (by decide) ml1
      have e77 := hF 8 (detL 8 77 _) (by decide) ml0
      have e75 := hF 6 (detL 6 75 _) (by decide) ml2
      refine ⟨e75, ?_⟩; simp [go_sem, ↓IntWalk.iteOmega, ev e76, ev e77]
      with_reducible exact ⟨rfl, rfl⟩
     case hc => intro wx hO; exact (Z54 root wx (hrow wx (by rcases hO with O | O; exact (OwnT.pickR (L := [_, _, _, _, _, _]) (R := R) O [] (by decide)); exact (OwnT.pickR (L := [_, _, _, _, _, _]) (R := R) O [] (by decide)))) hn).mono (fun e w' h => (⟨h.1.trans (congrArg (fun b => Ending.returned (.bool b)) (decide_eq_false hin)), h.2⟩ : e = .returned (.bool false) ∧ Ext wx w'))
     apply Build1.detg 79 (by kernel_rfl) rfl (by rw [k.size]; rfl) rfl rfl
     case h =>
      intro ax wx hE hO hF; have e75 := hF 6 (detL 6 75 _) (by decide) ml3
      have e78 := hF 9 (detL 9 78 _) (by decide) ml0
      have e72 := hF 3 (detL 3 72 _) (by decide) ml6
      refine ⟨e72, ?_⟩; exact Z09 rfl e75 e78
     apply Build1.det 80 (by kernel_rfl) rfl (by rw [k.size]; rfl) rfl
     case h =>
      intro ax wx hE hO hF; have e72 := hF 3 (detL 3 72 _) (by decide) ml7
      have e79 := hF 10 (detL 10 79 _) (by decide) ml0
      exact Z0b rfl e72 e79
     refine Build1.store rfl rfl rfl ?_ ?_
     · intro ax wx hE O hF; have e69 := hF 0 (detL 0 69 _) (by decide) ml11
       have hbk := OwnT.blk O 1 rfl
       have q0 : wx.cell? ⟨rb, 0, none⟩ = some (.int .u64 0) := hbk.cell 0
       have q1 : wx.cell? ⟨rb, 1, none⟩ = some (.int .i64 0) := hbk.cell 1
       have q2 : wx.cell? ⟨rb, 2, none⟩ = some (.int .i64 0) := hbk.cell 2
       have q3 : wx.cell? ⟨rb, 3, none⟩ = some (.int .i64 0) := hbk.cell 3
       have q4 : wx.cell? ⟨rb, 4, none⟩ = some (.int .i64 0) := hbk.cell 4
       have z0 : wx.frozen? ⟨rb, 0, none⟩ = false := hbk.frozen 0
       have z1 : wx.frozen? ⟨rb, 1, none⟩ = false := hbk.frozen 1
       have z2 : wx.frozen? ⟨rb, 2, none⟩ = false := hbk.frozen 2
       have z3 : wx.frozen? ⟨rb, 3, none⟩ = false := hbk.frozen 3
       have z4 : wx.frozen? ⟨rb, 4, none⟩ = false := hbk.frozen 4
       refine ⟨(((((wx.setCell ⟨rb, 0, none⟩ (.int .u64 (h.g + 1))).setCell ⟨rb, 1, none⟩ (.int .i64 root)).setCell ⟨rb, 2, none⟩ (.int .i64 h.a)).setCell ⟨rb, 3, none⟩ (.int .i64 h.b)).setCell ⟨rb, 4, none⟩ (.int .i64 h.c)), by simp [go_sem, ↓IntWalk.iteOmega, ev (hE.g e6), ev e69, q0, z0, q1, z1, q2, z2, q3, z3, q4, z4], OwnT.push 1 rfl ((((((OwnT.pull O 1 rfl).set 0 (.int .u64 (h.g + 1))).set 1 (.int .i64 root)).set 2 (.int .i64 h.a)).set 3 (.int .i64 h.b)).set 4 (.int .i64 h.c))⟩
     apply Build1.det 7 (by kernel_rfl) rfl (by rw [k.size]; rfl) rfl
     case h =>
      intro ax wx hE hO hF; have e80 := hF 11 (detL 11 80 _) (by decide) ml1
      exact Z01 rfl e80
     apply BuildL.stop
     refine ⟨by kernel_rfl, ?_⟩
     clear O; intro lx a62 w63 hE hI hL hF; have O := hI.end_ (hL 12 (Nat.le_of_ble_eq_true rfl))
     have e7 : a62.eval (.tmp 7) = _ := hF 13 (detL 13 7 _) ml0
     clear hF hI hL; simp only [List.length_cons, List.length_nil, Nat.zero_add, Nat.reduceAdd, List.drop_succ_cons, List.drop_zero, List.drop_nil, tailOps]
     replace e6 := hE.g e6; replace k := k.env hE; clear hE e0 e1 e2 e8 e9 e23; refine Z00 ?_; refine wp_ret ?_
     have q0 : w63.cell? ⟨rb, 0, none⟩ = some (.int .u64 (h.g + 1)) := (OwnT.blk O 1 rfl).cell 0
     have q1 : w63.cell? ⟨rb, 1, none⟩ = some (.int .i64 root) := (OwnT.blk O 1 rfl).cell 1
     have q2 : w63.cell? ⟨rb, 2, none⟩ = some (.int .i64 h.a) := (OwnT.blk O 1 rfl).cell 2
     have q3 : w63.cell? ⟨rb, 3, none⟩ = some (.int .i64 h.b) := (OwnT.blk O 1 rfl).cell 3
     have q4 : w63.cell? ⟨rb, 4, none⟩ = some (.int .i64 h.c) := (OwnT.blk O 1 rfl).cell 4
     refine Z20 rfl k e6 e7 (v := .agg #[.int .u64 (h.g + 1), .int .i64 root, .int .i64 h.a, .int .i64 h.b, .int .i64 h.c]) (by simp [go_sem, ↓IntWalk.iteOmega, q0, q1, q2, q3, q4]) ?_
     exact ⟨false, rfl, OwnT.pickR (L := [_, _, _, _, _, _]) (R := R) O [2, 3, 4, 5] (by decide), fun h => (by cases h), fun h => absurd h.2.2 (fun e => by rcases e with e | e; exact hr0 e; exact hin e)⟩
set_option maxRecDepth 100000 in
set_option maxHeartbeats 8000000 in
theorem rgood_node {g : Nat} (W0 : World) : Calls Tryz.prog 51 #[.agg #[.int .i64 0, .slice (some ⟨g, 0, none⟩) 1 1]] W0 fun e w' => e = .returned (.bool true) ∧ Ext W0 w' := by
 have O := OwnT.start W0
 refine Z0c Tryz.func51 rfl 77 rfl (by rfl) ?_
 intro a1 k hargs; have e0 : a1.eval (.tmp 0) = .agg #[.int .i64 0, .slice (some ⟨g, 0, none⟩) 1 1] := hargs 0 _ rfl
 clear hargs; refine wp_seq ?_; refine wp_region_lit ?_
 have hE := Env.refl a1 [1, 2]; refine Z0v O (cs := #[.int .i64 0, .slice (some ⟨g, 0, none⟩) 1 1]) (t := 47) 1 hE k rfl (by rfl) (by rfl) rfl (by simp [go_sem, ↓IntWalk.iteOmega, ev (hE.g e0)]) ?_
 clear O; intro lb a2 w3 O hE e1 kp; refine sd 2 hE k (Z01 rfl rfl) ?_; intro a4 hE e2 kp; replace e1 := kt kp e1; refine wpList_nil ?_; replace k := k.env hE; clear hE e0 e2; refine Z00 (wp_seq ?_); refine wp_seq ?_; refine wp_region_lit ?_
 have hE := Env.refl a4 [4, 5, 6, 7, 8, 9, 10, 11, 12, 13, 14, 15, 16, 17, 18, 19, 20, 21, 22, 23, 24, 25, 26, 27, 28]; apply Z03 4 hE k rfl rfl rfl rfl; case h =>
  simp [go_sem, ↓IntWalk.iteOmega, ev (hE.g e1)]
  with_reducible rfl
 intro a5 hE e4 kp; refine sd 5 hE k (Z0a O 0 rfl rfl e4 rfl Tryz.underlying3 rfl) ?_; intro a6 hE e5 kp; refine sd 6 hE k (Z0z rfl e5 rfl) ?_; intro a7 hE e6 kp; refine sd 7 hE k (Z02 rfl e6) ?_; intro a8 hE e7 kp; apply Z04 8 hE k rfl rfl rfl rfl rfl e7
 case h =>
  simp [go_sem, ↓IntWalk.iteOmega, ev (hE.g e1)]
  with_reducible rfl
 intro a9 hE e8 kp; replace e7 := kt kp e7; apply Z04 9 hE k rfl rfl rfl rfl rfl e7
 case h =>
  exact Z0a O 0 rfl rfl e8 rfl Tryz.underlying3 rfl
 intro a10 hE e9 kp; replace e7 := kt kp e7; apply Z04 10 hE k rfl rfl rfl rfl rfl e7
 case h =>
  exact Z82 rfl e9 rfl
 intro a11 hE e10 kp; replace e7 := kt kp e7; refine sd 11 hE k (Z09 rfl e7 e10) ?_; intro a12 hE e11 kp; refine sd 12 hE k (Z02 rfl e11) ?_; intro a13 hE e12 kp; apply Z04 13 hE k rfl rfl rfl rfl rfl e12
 case h =>
  simp [go_sem, ↓IntWalk.iteOmega, ev (hE.g e1)]
  with_reducible rfl
 intro a14 hE e13 kp; replace e12 := kt kp e12; apply Z04 14 hE k rfl rfl rfl rfl rfl e12
 case h =>
  exact Z0a O 0 rfl rfl e13 rfl Tryz.underlying45 rfl
 intro a15 hE e14 kp; replace e12 := kt kp e12; apply Z04 15 hE k rfl rfl rfl rfl rfl e12
 case h =>
  exact Z1w Tryz.underlying45 rfl e14
 intro a16 hE e15 kp; replace e12 := kt kp e12; apply Z04 16 hE k rfl rfl rfl rfl rfl e12
 case h =>
  exact Z82 rfl e15 rfl
 intro a17 hE e16 kp; replace e12 := kt kp e12; refine sd 17 hE k (Z09 rfl e12 e16) ?_; intro a18 hE e17 kp; refine sd 18 hE k (Z02 rfl e17) ?_; intro a19 hE e18 kp; apply Z04 19 hE k rfl rfl rfl rfl rfl e18
 case h =>
  simp [go_sem, ↓IntWalk.iteOmega, ev (hE.g e1)]
  with_reducible rfl
 intro a20 hE e19 kp; replace e18 := kt kp e18; apply Z04 20 hE k rfl rfl rfl rfl rfl e18
 case h =>
  exact Z0a O 0 rfl rfl e19 rfl Tryz.underlying3 rfl
 intro a21 hE e20 kp; replace e18 := kt kp e18; apply Z04 21 hE k rfl rfl rfl rfl rfl e18
 case h =>
  exact Z82 rfl e20 rfl
 intro a22 hE e21 kp; replace e18 := kt kp e18; apply Z04 22 hE k rfl rfl rfl rfl rfl e18
 case h =>
  exact Z02 rfl e21
 intro a23 hE e22 kp; replace e18 := kt kp e18; refine Z05 23 hE k rfl (by rfl) (by rfl) rfl rfl (.inl e22) ?_
 intro a24 hE e23 kp; replace e18 := kt kp e18; replace e22 := kt kp e22; refine Z05 24 hE k rfl (by rfl) (by rfl) rfl rfl (.inl e22) ?_
 intro a25 hE e24 kp; replace e18 := kt kp e18; replace e22 := kt kp e22; refine Z05 25 hE k rfl (by rfl) (by rfl) rfl rfl (.inl e22) ?_
 intro a26 hE e25 kp; replace e18 := kt kp e18; replace e22 := kt kp e22; refine Z05 26 hE k rfl (by rfl) (by rfl) rfl rfl (.inl e22) ?_
 intro a27 hE e26 kp; replace e18 := kt kp e18; replace e22 := kt kp e22; apply Z04 27 hE k rfl rfl rfl rfl rfl e18
 case h =>
  exact Z09 rfl e22 rfl
 intro a28 hE e27 kp; replace e18 := kt kp e18; refine sd 28 hE k (Z09 rfl e18 e27) ?_; intro a29 hE e28 kp; refine wpList_nil ?_; replace e1 := hE.g e1; replace k := k.env hE; clear hE; refine Z00 ?_; refine Z07 e28 rfl ?_
 refine wp_skip ?_; refine Z00 (wp_seq ?_); refine wp_seq ?_; refine wp_region_lit ?_
 have hE := Env.refl a29 [3]; refine sd 3 hE k (Z01 rfl rfl) ?_; intro a30 hE e3 kp; refine wpList_nil ?_; replace e1 := hE.g e1; replace k := k.env hE; clear hE e28; refine Z00 ?_; refine wp_block ?_; refine wp_loop (fun a w => Fr 77 a ∧ a.eval (.tmp 1) = .pointer (some ⟨lb, 0, none⟩) ∧ ∃ (j : Nat), a.eval (.tmp 3) = .int .i64 ↑j ∧ j ≤ 1 ∧ OwnT W0.heap.size W0 ([tBlk lb 47 #[.int .i64 0, .slice (some ⟨g, 0, none⟩) 1 1]]) w) (fun a w => 1 - (intOf (a.eval (.tmp 3))).toNat) ?_ ?_
 · exact ⟨k, e1, 0, e3, Nat.zero_le _, O⟩
 intro a31 w32 hI; clear k e1; obtain ⟨k, e1, h_⟩ := hI
 clear O e3; obtain ⟨j, e3, hj, O⟩ := h_
 have mj := e3
 by_cases hlt : j < 1
 rotate_left
 · skip
   refine wp_seq ?_; refine wp_seq ?_; refine wp_region_lit ?_
   have hE := Env.refl a31 [29, 30, 31, 32, 33]; refine zm 29 hE k e3 ?_; intro a33 hE e29 kp; apply Z03 30 hE k rfl rfl rfl rfl; case h =>
    simp [go_sem, ↓IntWalk.iteOmega, ev (hE.g e1)]
    with_reducible rfl
   intro a34 hE e30 kp; replace e29 := kt kp e29; refine sd 31 hE k (Z0a O 0 rfl rfl e30 rfl Tryz.underlying45 rfl) ?_; intro a35 hE e31 kp; replace e29 := kt kp e29; refine sd 32 hE k (Z1w Tryz.underlying45 rfl e31) ?_; intro a36 hE e32 kp; replace e29 := kt kp e29; refine sd 33 hE k (Z08 (Z0z rfl e29 e32) (decide_eq_false (by omega))) ?_
   intro a37 hE e33 kp; refine wpList_nil ?_; replace e1 := hE.g e1; replace e3 := hE.g e3; replace k := k.env hE; clear hE; refine Z00 ?_; refine Z07 e33 rfl ?_
   refine wp_exit ?_
   refine Z0p ?_
   refine Z0p ?_
   refine Z11 ?_
   refine Z00 (wp_seq ?_); refine wp_region_lit ?_
   have hE := Env.refl a37 [2]; refine sd 2 hE k (Z01 rfl rfl) ?_; intro a38 hE e2 kp; refine wpList_nil ?_; replace k := k.env hE; clear hE e1 e3 e33; refine Z00 ?_; refine wp_ret ?_
   refine Z0k rfl k e2 ?_
   exact ⟨rfl, O.below⟩
 refine wp_seq ?_; refine wp_seq ?_; refine wp_region_lit ?_
 have hE := Env.refl a31 [29, 30, 31, 32, 33]; refine zm 29 hE k e3 ?_; intro a39 hE e29 kp; apply Z03 30 hE k rfl rfl rfl rfl; case h =>
  simp [go_sem, ↓IntWalk.iteOmega, ev (hE.g e1)]
  with_reducible rfl
 intro a40 hE e30 kp; replace e29 := kt kp e29; refine sd 31 hE k (Z0a O 0 rfl rfl e30 rfl Tryz.underlying45 rfl) ?_; intro a41 hE e31 kp; replace e29 := kt kp e29; refine sd 32 hE k (Z1w Tryz.underlying45 rfl e31) ?_; intro a42 hE e32 kp; replace e29 := kt kp e29; refine sd 33 hE k (Z08 (Z0z rfl e29 e32) (decide_eq_true (by omega))) ?_
 intro a43 hE e33 kp; refine wpList_nil ?_; replace e1 := hE.g e1; replace e3 := hE.g e3; replace k := k.env hE; clear hE; refine Z00 ?_; refine Z0h e33 rfl ?_
 refine wp_skip ?_; refine Z00 (wp_seq ?_); refine wp_block ?_; refine wp_seq ?_; refine Z0l (R := Ext) (w0 := w32) [[], [0], [0, 1], [0, 1, 2], rg 4, [0, 1, 2], [0, 1, 2, 5], rg 7, rg 8, rg 9, [0, 1, 2], [0, 1, 2, 10], [0, 1, 2], [0, 1, 2, 10, 11, 12], [0, 1, 2, 10, 11, 12, 13], [0, 1, 2, 10, 11, 12, 13, 14], rg 16, rg 17, rg 18, rg 19, rg 20, rg 21, rg 22, rg 23, rg 24, rg 23, rg 26, rg 27, rg 28, rg 29, rg 30, rg 31, rg 32, rg 31, rg 34, rg 35, rg 36, rg 37, rg 38, rg 39, rg 40] [36, 37, 38, 39, 40, 41, 42, 43, 44, 45, 46, 47, 48, 49, 50, 51, 52, 53, 54, 55, 56, 57, 58, 59, 60, 61, 62, 63, 64, 65, 66, 67, 68, 69, 70, 71, 72, 73, 74, 75, 76] Ext.refl (fun _ _ _ => Ext.trans) (Ext.drew _) (by kernel_rfl) ?_
 refine bd 36 k rfl rfl rfl (fun ax wx hE hR hF => Z02 rfl (hE.g e3)) ?_
 refine bd 37 k rfl rfl rfl (fun ax wx hE hR hF => have e36 := zhF hF 0 36 ml0; Z08 (Z82 rfl e36 rfl) (decide_eq_false (by omega))) ?_
 refine bd 38 k rfl rfl rfl (fun ax wx hE hR hF => have e37 := zhF hF 1 37 ml0; Z02 rfl e37) ?_
 refine bsk 39 k rfl rfl rfl rfl (fun hF => zhF hF 2 38 ml0) ?_
 refine bsk 40 k rfl rfl rfl rfl (fun hF => zhF hF 2 38 ml1) ?_
 refine bsk 41 k rfl rfl rfl rfl (fun hF => zhF hF 2 38 ml2) ?_
 refine bsk 42 k rfl rfl rfl rfl (fun hF => zhF hF 2 38 ml3) ?_
 refine bsk 43 k rfl rfl rfl rfl (fun hF => zhF hF 2 38 ml4) ?_
 refine bsk 44 k rfl rfl rfl rfl (fun hF => zhF hF 2 38 ml5) ?_
 refine bsk 45 k rfl rfl rfl rfl (fun hF => zhF hF 2 38 ml6) ?_
 refine bsk 46 k rfl rfl rfl rfl (fun hF => zhF hF 2 38 ml7) ?_
 refine bsk 47 k rfl rfl rfl rfl (fun hF => zhF hF 2 38 ml8) ?_
 refine bsk 48 k rfl rfl rfl rfl (fun hF => zhF hF 2 38 ml9) ?_
 refine bsk 49 k rfl rfl rfl rfl (fun hF => zhF hF 2 38 ml10) ?_
 refine bsk 50 k rfl rfl rfl rfl (fun hF => zhF hF 2 38 ml11) ?_
 refine bsk 51 k rfl rfl rfl rfl (fun hF => zhF hF 2 38 ml12) ?_
 refine bsk 52 k rfl rfl rfl rfl (fun hF => zhF hF 2 38 ml13) ?_
 refine bd 53 k rfl rfl rfl (fun ax wx hE hR hF => have e38 := zhF hF 2 38 ml14; have e52 := zhF hF 16 52 ml0; Z09 rfl e38 rfl) ?_
 refine bd 54 k rfl rfl rfl (fun ax wx hE hR hF => have e53 := zhF hF 17 53 ml0; Z02 rfl e53) ?_
 apply bdg 55 k rfl rfl rfl rfl; case h =>
  intro ax wx hE hR hF; have e54 := zhF hF 18 54 ml0; refine ⟨e54, ?_⟩; simp [go_sem, ↓IntWalk.iteOmega, ev (hE.g e1)]
  with_reducible rfl
 refine bdg 56 k rfl rfl rfl rfl (fun ax wx hE hR hF => have e55 := zhF hF 19 55 ml0; have e54 := zhF hF 18 54 ml1; ⟨e54, Z0a (OwnT.ext O hR) 0 rfl rfl e55 rfl Tryz.underlying3 rfl⟩) ?_
 refine bdg 57 k rfl rfl rfl rfl (fun ax wx hE hR hF => have e56 := zhF hF 20 56 ml0; have e54 := zhF hF 18 54 ml2; ⟨e54, Z82 rfl e56 rfl⟩) ?_
 refine bdg 58 k rfl rfl rfl rfl (fun ax wx hE hR hF => have e57 := zhF hF 21 57 ml0; have e54 := zhF hF 18 54 ml3; ⟨e54, Z02 rfl e57⟩) ?_
 refine bsk 59 k rfl rfl rfl rfl (fun hF => zhF hF 22 58 ml0) ?_
 refine bsk 60 k rfl rfl rfl rfl (fun hF => zhF hF 22 58 ml1) ?_
 refine bsk 61 k rfl rfl rfl rfl (fun hF => zhF hF 22 58 ml2) ?_
 refine bsk 62 k rfl rfl rfl rfl (fun hF => zhF hF 22 58 ml3) ?_
 refine bsk 63 k rfl rfl rfl rfl (fun hF => zhF hF 22 58 ml4) ?_
 refine bsk 64 k rfl rfl rfl rfl (fun hF => zhF hF 22 58 ml5) ?_
 refine bsk 65 k rfl rfl rfl rfl (fun hF => zhF hF 22 58 ml6) ?_
 refine bsk 66 k rfl rfl rfl rfl (fun hF => zhF hF 22 58 ml7) ?_
 refine bsku 67 k rfl rfl rfl rfl (fun hF => zhF hF 30 66 ml0) ?_
 refine bsku 68 k rfl rfl rfl rfl (fun hF => zhF hF 30 66 ml1) ?_
 refine bsku 69 k rfl rfl rfl rfl (fun hF => zhF hF 30 66 ml2) ?_
 refine bsku 70 k rfl rfl rfl rfl (fun hF => zhF hF 30 66 ml3) ?_
 refine bsku 71 k rfl rfl rfl rfl (fun hF => zhF hF 30 66 ml4) ?_
 refine bsku 72 k rfl rfl rfl rfl (fun hF => zhF hF 30 66 ml5) ?_
 refine bsku 73 k rfl rfl rfl rfl (fun hF => zhF hF 30 66 ml6) ?_
 refine bsk 74 k rfl rfl rfl rfl (fun hF => zhF hF 22 58 ml15) ?_
 refine bdg 75 k rfl rfl rfl rfl (fun ax wx hE hR hF => have e58 := zhF hF 22 58 ml16; have e74 := zhF hF 38 74 ml0; have e54 := zhF hF 18 54 ml20; ⟨e54, Z09 rfl e58 rfl⟩) ?_
 refine bd 76 k rfl rfl rfl (fun ax wx hE hR hF => have e54 := zhF hF 18 54 ml21; have e75 := zhF hF 39 75 ml0; Z09 rfl e54 e75) ?_
 apply Build.stop
 refine ⟨by kernel_rfl, .inl ⟨rfl, ?_⟩⟩
 intro a44 w45 hE R hF; have e76 : a44.eval (.tmp 76) = _ := hF 40 (det 76 _) ml0
 clear hF; replace O := OwnT.ext O R; clear R; replace e1 := hE.g e1; replace e3 := hE.g e3; replace k := k.env hE; clear hE e33; refine Z00 ?_; refine Z07 e76 rfl ?_
 refine wp_skip ?_; refine Z0f ?_; refine Z00 ?_; refine wp_region_lit ?_
 have hE := Env.refl a44 [34, 35, 3]; refine sd 34 hE k (Z02 rfl e3) ?_; intro a46 hE e34 kp; replace e3 := kt kp e3; refine sd 35 hE k (Z1i rfl e34 rfl (by omega)) ?_; intro a47 hE e35 kp; replace e3 := kt kp e3; replace e35 := e35.trans (Z10 (show (j : Int) + 1 = ((j + 1 : Nat) : Int) by omega))
 refine sd 3 hE k (Z01 rfl e35) ?_; intro a48 hE e3 kp; refine wpList_nil ?_; replace e1 := hE.g e1; replace k := k.env hE; clear hE e76; refine Z00 ?_; refine ⟨⟨k, e1, j + 1, e3, by omega, O⟩, ?_⟩
 rw [e3, mj]; simp only [intOf]; omega
set_option maxRecDepth 100000 in
set_option maxHeartbeats 8000000 in
theorem uadd_any {H : Nat} {A0 : World} {R : List Thing} {ub P g1 g2 g3 : Nat} {h : Hd} {K : Int → Bool} {F : Int → Option Nd} {T : Int → Value} (nn : Int) {g : Nat} (w : World) (O : OwnT H A0 (usL ub P g1 g2 g3 h K (isF F) T R) w) (hrow : Row w (some ⟨g, 0, none⟩) 2 pairC (nodeP nn)) (hP : 1 ≤ P ∧ P ≤ 512) : Calls Tryz.prog 15 #[.pointer (some ⟨ub, 0, none⟩), .agg #[.int .i64 0, .slice (some ⟨g, 0, none⟩) 1 1]] w fun e w' => (∃ d : Nat, FirstFree P K F d ∧ e = .returned (.tuple #[.int .i64 0, .int .i64 d]) ∧ OwnT H A0 (usL ub P g1 g2 g3 h K (putB (isF F) (d : Nat) true) (putT T (d : Nat) (Value.slice (some ⟨g, 0, none⟩) 1 1)) R) w') ∨ (NoFree P K F ∧ e = .returned (.tuple #[.int .i64 6, .int .i64 0]) ∧ OwnT H A0 (usL ub P g1 g2 g3 h K (isF F) T R) w') := by
 refine Z0c Tryz.func15 rfl 50 rfl (by rfl) ?_
 intro a1 k hargs; have e0 : a1.eval (.tmp 0) = .pointer (some ⟨ub, 0, none⟩) := hargs 0 _ rfl
 have e1 : a1.eval (.tmp 1) = .agg #[.int .i64 0, .slice (some ⟨g, 0, none⟩) 1 1] := hargs 1 _ rfl
 clear hargs; refine wp_seq ?_; refine wp_region_lit ?_
 have hE := Env.refl a1 [3, 4, 5]; refine Z4z O (cs := #[.int .i64 0, .slice (some ⟨g, 0, none⟩) 1 1]) (t := 47) 3 hE k rfl (by rfl) (by rfl) rfl (by simp [go_sem, ↓IntWalk.iteOmega, ev (hE.g e1)]) ?_
 clear O; intro lb a2 w3 RX O hE e3 kp; replace hrow := Row.ext hrow RX
 clear RX; refine sd 4 hE k (Z01 rfl rfl) ?_; intro a4 hE e4 kp; replace e3 := kt kp e3; refine sd 5 hE k (Z01 rfl rfl) ?_; intro a5 hE e5 kp; replace e3 := kt kp e3; refine wpList_nil ?_; replace e0 := hE.g e0; replace k := k.env hE; clear hE e1 e5; refine Z00 (wp_seq ?_); refine wp_seq ?_; refine wp_region_lit ?_
 have hE := Env.refl a5 [7, 8, 9]; refine sd 7 hE k (Z1n O 0 rfl rfl (hE.g e3) [.int .i64 0, .slice (some ⟨g, 0, none⟩) 1 1] rfl Tryz.underlying47 rfl (by kernel_rfl)) ?_; intro a6 hE e7 kp; apply Z06 8 hE k rfl (by rfl) (by rfl) rfl
 case h =>
  simp [go_sem, ↓IntWalk.iteOmega, ev e7]
  with_reducible exact ⟨rfl, rfl⟩
 case hc => exact rgood_node _
 rintro e w8 ⟨rfl, RE⟩
 replace O := OwnT.ext O RE; replace hrow := Row.ext hrow RE
 refine ⟨_, rfl, ?_⟩
 intro a7 hE e8 kp; refine sd 9 hE k (Z15 rfl e8) ?_; intro a9 hE e9 kp; refine wpList_nil ?_; replace e0 := hE.g e0; replace e3 := hE.g e3; replace k := k.env hE; clear hE; refine Z00 ?_; refine Z07 e9 rfl ?_
 refine wp_skip ?_; refine Z00 (wp_seq ?_); refine wp_seq ?_; refine wp_region_lit ?_
 have hE := Env.refl a9 [6]; refine sd 6 hE k (Z01 rfl rfl) ?_; intro a10 hE e6 kp; refine wpList_nil ?_; replace e0 := hE.g e0; replace e3 := hE.g e3; replace k := k.env hE; clear hE e9; refine Z00 ?_; refine wp_block ?_; refine wp_loop (fun a w => Fr 50 a ∧ a.eval (.tmp 0) = .pointer (some ⟨ub, 0, none⟩) ∧ a.eval (.tmp 3) = .pointer (some ⟨lb, 0, none⟩) ∧ ∃ (i : Nat), a.eval (.tmp 6) = .int .i64 ↑i ∧ 1 ≤ i ∧ i ≤ P ∧ (∀ d : Nat, 1 ≤ d → d < i → freeB K F d = false) ∧ OwnT H A0 ((tBlk lb 47 #[.int .i64 0, .slice (some ⟨g, 0, none⟩) 1 1]) :: (tBlk ub 62 #[.int .i64 ↑P, .slice (some ⟨g1, 0, none⟩) P P, .slice (some ⟨g2, 0, none⟩) P P, .slice (some ⟨g3, 0, none⟩) P P, .int .u64 h.g, .int .i64 h.r, .int .i64 h.a, .int .i64 h.b, .int .i64 h.c]) :: (tBlk g1 4 (boA P K)) :: (tBlk g2 4 (boA P (isF F))) :: (tBlk g3 47 (ndA P T)) :: R) w) (fun a w => P - (intOf (a.eval (.tmp 6))).toNat) ?_ ?_
 · exact ⟨k, e0, e3, 1, e6, Nat.le_refl _, hP.1, fun d h1 h2 => by omega, O⟩
 intro a11 w12 hI; clear k e0 e3; obtain ⟨k, e0, e3, h_⟩ := hI
 clear O e6 hrow; obtain ⟨i, e6, hi1, hi, hpre, O⟩ := h_
 have mi := e6
 by_cases hlt : i < P
 rotate_left
 · have hno : NoFree P K F := fun d h1 h2 => hpre d h1 (by omega)
   refine wp_seq ?_; refine wp_seq ?_; refine wp_region_lit ?_
   have hE := Env.refl a11 [10, 11, 12, 13, 14, 15]; refine zm 10 hE k e6 ?_; intro a13 hE e10 kp; refine zm 11 hE k e0 ?_; intro a14 hE e11 kp; replace e10 := kt kp e10; refine sd 12 hE k (Z0d rfl e11) ?_; intro a15 hE e12 kp; replace e10 := kt kp e10; apply Z03 13 hE k rfl rfl rfl rfl; case h =>
    simp [go_sem, ↓IntWalk.iteOmega, ev e12]
    with_reducible rfl
   intro a16 hE e13 kp; replace e10 := kt kp e10; refine sd 14 hE k (Z0a O 1 rfl rfl e13 rfl Tryz.underlying3 rfl) ?_; intro a17 hE e14 kp; replace e10 := kt kp e10; refine sd 15 hE k (Z08 (Z0z rfl e10 e14) (decide_eq_false (by omega))) ?_
   intro a18 hE e15 kp; refine wpList_nil ?_; replace e0 := hE.g e0; replace e3 := hE.g e3; replace e6 := hE.g e6; replace k := k.env hE; clear hE; refine Z00 ?_; refine Z07 e15 rfl ?_
   refine wp_exit ?_
   refine Z0p ?_
   refine Z0p ?_
   refine Z11 ?_
   refine Z00 (wp_seq ?_); refine wp_region_lit ?_
   have hE := Env.refl a18 [4, 5]; refine sd 4 hE k (Z01 rfl rfl) ?_; intro a19 hE e4 kp; refine sd 5 hE k (Z01 rfl rfl) ?_; intro a20 hE e5 kp; replace e4 := kt kp e4; refine wpList_nil ?_; replace k := k.env hE; clear hE e0 e3 e6 e15; refine Z00 ?_; refine wp_ret ?_
   refine Z32 rfl k e4 e5 ?_
   exact .inr ⟨hno, rfl, O.tail⟩
 have d1 := Z0u (OwnT.blk O 2 rfl) hlt
 have d2 := Z0u (OwnT.blk O 3 rfl) hlt

 refine wp_seq ?_; refine wp_seq ?_; refine wp_region_lit ?_
 have hE := Env.refl a11 [10, 11, 12, 13, 14, 15]; refine zm 10 hE k e6 ?_; intro a21 hE e10 kp; refine zm 11 hE k e0 ?_; intro a22 hE e11 kp; replace e10 := kt kp e10; refine sd 12 hE k (Z0d rfl e11) ?_; intro a23 hE e12 kp; replace e10 := kt kp e10; apply Z03 13 hE k rfl rfl rfl rfl; case h =>
  simp [go_sem, ↓IntWalk.iteOmega, ev e12]
  with_reducible rfl
 intro a24 hE e13 kp; replace e10 := kt kp e10; refine sd 14 hE k (Z0a O 1 rfl rfl e13 rfl Tryz.underlying3 rfl) ?_; intro a25 hE e14 kp; replace e10 := kt kp e10; refine sd 15 hE k (Z08 (Z0z rfl e10 e14) (decide_eq_true (by omega))) ?_
 intro a26 hE e15 kp; refine wpList_nil ?_; replace e0 := hE.g e0; replace e3 := hE.g e3; replace e6 := hE.g e6; replace k := k.env hE; clear hE; refine Z00 ?_; refine Z0h e15 rfl ?_
 refine wp_skip ?_; refine Z00 (wp_seq ?_); refine wp_block ?_; cases hK : K (i : Int) with
 | true =>
  have hfr : freeB K F (i : Nat) = false := by unfold freeB; rw [hK]; simp
  refine wp_seq ?_; refine wp_region_lit ?_
  have hE := Env.refl a26 [18, 19, 20, 21, 22, 23, 24, 25, 26, 27, 28, 29, 30, 31, 32, 33, 34, 35]; refine zm 18 hE k e0 ?_; intro a27 hE e18 kp; refine sd 19 hE k (Z0d rfl e18) ?_; intro a28 hE e19 kp; apply Z03 20 hE k rfl rfl rfl rfl; case h =>
   simp [go_sem, ↓IntWalk.iteOmega, ev e19]
   with_reducible rfl
  intro a29 hE e20 kp; refine sd 21 hE k (Z0a O 1 rfl rfl e20 rfl Tryz.underlying59 rfl) ?_; intro a30 hE e21 kp; refine zm 22 hE k e6 ?_; intro a31 hE e22 kp; replace e21 := kt kp e21; apply Z03 23 hE k rfl rfl rfl rfl; case h =>
   simp [go_sem, ↓IntWalk.iteOmega, ev e21, ev e22]
   with_reducible rfl
  intro a32 hE e23 kp; apply Z03 24 hE k rfl rfl rfl rfl; case h =>
   simp [go_sem, ↓IntWalk.iteOmega, ev e23, d1, hK]
   with_reducible rfl
  intro a33 hE e24 kp; refine sd 25 hE k (Z15 rfl e24) ?_; intro a34 hE e25 kp; refine sd 26 hE k (Z02 rfl e25) ?_; intro a35 hE e26 kp; refine Z05 27 hE k rfl (by rfl) (by rfl) rfl rfl (.inl e26) ?_
  intro a36 hE e27 kp; replace e26 := kt kp e26; refine Z05 28 hE k rfl (by rfl) (by rfl) rfl rfl (.inl e26) ?_
  intro a37 hE e28 kp; replace e26 := kt kp e26; refine Z05 29 hE k rfl (by rfl) (by rfl) rfl rfl (.inl e26) ?_
  intro a38 hE e29 kp; replace e26 := kt kp e26; refine Z05 30 hE k rfl (by rfl) (by rfl) rfl rfl (.inl e26) ?_
  intro a39 hE e30 kp; replace e26 := kt kp e26; refine Z05 31 hE k rfl (by rfl) (by rfl) rfl rfl (.inl e26) ?_
  intro a40 hE e31 kp; replace e26 := kt kp e26; replace e30 := kt kp e30; refine Z05 32 hE k rfl (by rfl) (by rfl) rfl rfl (.inl e26) ?_
  intro a41 hE e32 kp; replace e26 := kt kp e26; refine Z05 33 hE k rfl (by rfl) (by rfl) rfl rfl (.inl e26) ?_
  intro a42 hE e33 kp; replace e26 := kt kp e26; refine Z05 34 hE k rfl (by rfl) (by rfl) rfl rfl (.inl e26) ?_
  intro a43 hE e34 kp; replace e26 := kt kp e26; refine sd 35 hE k (Z09 rfl e26 rfl) ?_; intro a44 hE e35 kp; refine wpList_nil ?_; replace e0 := hE.g e0; replace e3 := hE.g e3; replace e6 := hE.g e6; replace k := k.env hE; clear hE e15; refine Z00 ?_; refine Z07 e35 rfl ?_
  refine wp_skip ?_; refine Z0f ?_; refine Z00 ?_; refine wp_region_lit ?_
  have hE := Env.refl a44 [16, 17, 6]; refine sd 16 hE k (Z02 rfl e6) ?_; intro a45 hE e16 kp; replace e6 := kt kp e6; refine sd 17 hE k (Z1i rfl e16 rfl (by omega)) ?_; intro a46 hE e17 kp; replace e6 := kt kp e6; replace e17 := e17.trans (Z10 (show (i : Int) + 1 = ((i + 1 : Nat) : Int) by omega))
  refine sd 6 hE k (Z01 rfl e17) ?_; intro a47 hE e6 kp; refine wpList_nil ?_; replace e0 := hE.g e0; replace e3 := hE.g e3; replace k := k.env hE; clear hE e35; refine Z00 ?_; refine ⟨⟨k, e0, e3, i + 1, e6, by omega, by omega, fun d h1 h2 => ?_, O⟩, ?_⟩
  · by_cases e : d = i
    · subst e; exact hfr
    · exact hpre d h1 (by omega)
  · rw [e6, mi]; simp only [intOf]; omega
 | false =>
  cases hG : (F (i : Int)).isSome with
  | true =>
   have hfr : freeB K F (i : Nat) = false := by unfold freeB; rw [hG]; simp
   have hGi : isF F ((i : Nat) : Int) = true := hG
   refine wp_seq ?_; refine wp_region_lit ?_
   have hE := Env.refl a26 [18, 19, 20, 21, 22, 23, 24, 25, 26, 27, 28, 29, 30, 31, 32, 33, 34, 35]; refine zm 18 hE k e0 ?_; intro a48 hE e18 kp; refine sd 19 hE k (Z0d rfl e18) ?_; intro a49 hE e19 kp; apply Z03 20 hE k rfl rfl rfl rfl; case h =>
    simp [go_sem, ↓IntWalk.iteOmega, ev e19]
    with_reducible rfl
   intro a50 hE e20 kp; refine sd 21 hE k (Z0a O 1 rfl rfl e20 rfl Tryz.underlying59 rfl) ?_; intro a51 hE e21 kp; refine zm 22 hE k e6 ?_; intro a52 hE e22 kp; replace e21 := kt kp e21; apply Z03 23 hE k rfl rfl rfl rfl; case h =>
    simp [go_sem, ↓IntWalk.iteOmega, ev e21, ev e22]
    with_reducible rfl
   intro a53 hE e23 kp; apply Z03 24 hE k rfl rfl rfl rfl; case h =>
    simp [go_sem, ↓IntWalk.iteOmega, ev e23, d1, hK]
    with_reducible rfl
   intro a54 hE e24 kp; refine sd 25 hE k (Z15 rfl e24) ?_; intro a55 hE e25 kp; refine sd 26 hE k (Z02 rfl e25) ?_; intro a56 hE e26 kp; apply Z04 27 hE k rfl rfl rfl rfl rfl e26
   case h =>
    exact Z02 rfl (hE.g e0)
   intro a57 hE e27 kp; replace e26 := kt kp e26; apply Z04 28 hE k rfl rfl rfl rfl rfl e26
   case h =>
    exact Z0d rfl e27
   intro a58 hE e28 kp; replace e26 := kt kp e26; apply Z04 29 hE k rfl rfl rfl rfl rfl e26
   case h =>
    simp [go_sem, ↓IntWalk.iteOmega, ev e28]
    with_reducible rfl
   intro a59 hE e29 kp; replace e26 := kt kp e26; apply Z04 30 hE k rfl rfl rfl rfl rfl e26
   case h =>
    exact Z0a O 1 rfl rfl e29 rfl Tryz.underlying59 rfl
   intro a60 hE e30 kp; replace e26 := kt kp e26; apply Z04 31 hE k rfl rfl rfl rfl rfl e26
   case h =>
    exact Z02 rfl (hE.g e6)
   intro a61 hE e31 kp; replace e26 := kt kp e26; replace e30 := kt kp e30; apply Z04 32 hE k rfl rfl rfl rfl rfl e26
   case h =>
    simp [go_sem, ↓IntWalk.iteOmega, ev e30, ev e31]
    with_reducible rfl
   intro a62 hE e32 kp; replace e26 := kt kp e26; apply Z04 33 hE k rfl rfl rfl rfl rfl e26
   case h =>
    simp [go_sem, ↓IntWalk.iteOmega, ev e32, d2, hGi]
    with_reducible rfl
   intro a63 hE e33 kp; replace e26 := kt kp e26; apply Z04 34 hE k rfl rfl rfl rfl rfl e26
   case h =>
    exact Z15 rfl e33
   intro a64 hE e34 kp; replace e26 := kt kp e26; refine sd 35 hE k (Z0b rfl e26 e34) ?_; intro a65 hE e35 kp; refine wpList_nil ?_; replace e0 := hE.g e0; replace e3 := hE.g e3; replace e6 := hE.g e6; replace k := k.env hE; clear hE e15; refine Z00 ?_; refine Z07 e35 rfl ?_
   refine wp_skip ?_; refine Z0f ?_; refine Z00 ?_; refine wp_region_lit ?_
   have hE := Env.refl a65 [16, 17, 6]; refine sd 16 hE k (Z02 rfl e6) ?_; intro a66 hE e16 kp; replace e6 := kt kp e6; refine sd 17 hE k (Z1i rfl e16 rfl (by omega)) ?_; intro a67 hE e17 kp; replace e6 := kt kp e6; replace e17 := e17.trans (Z10 (show (i : Int) + 1 = ((i + 1 : Nat) : Int) by omega))
   refine sd 6 hE k (Z01 rfl e17) ?_; intro a68 hE e6 kp; refine wpList_nil ?_; replace e0 := hE.g e0; replace e3 := hE.g e3; replace k := k.env hE; clear hE e35; refine Z00 ?_; refine ⟨⟨k, e0, e3, i + 1, e6, by omega, by omega, fun d h1 h2 => ?_, O⟩, ?_⟩
   · by_cases e : d = i
     · subst e; exact hfr
     · exact hpre d h1 (by omega)
   · rw [e6, mi]; simp only [intOf]; omega
  | false =>
   have hfr : freeB K F (i : Nat) = true := by unfold freeB; rw [hK, hG]; rfl
   have hGi : isF F ((i : Nat) : Int) = false := hG

   refine wp_seq ?_; refine wp_region_lit ?_
   have hE := Env.refl a26 [18, 19, 20, 21, 22, 23, 24, 25, 26, 27, 28, 29, 30, 31, 32, 33, 34, 35]; refine zm 18 hE k e0 ?_; intro a69 hE e18 kp; refine sd 19 hE k (Z0d rfl e18) ?_; intro a70 hE e19 kp; apply Z03 20 hE k rfl rfl rfl rfl; case h =>
    simp [go_sem, ↓IntWalk.iteOmega, ev e19]
    with_reducible rfl
   intro a71 hE e20 kp; refine sd 21 hE k (Z0a O 1 rfl rfl e20 rfl Tryz.underlying59 rfl) ?_; intro a72 hE e21 kp; refine zm 22 hE k e6 ?_; intro a73 hE e22 kp; replace e21 := kt kp e21; apply Z03 23 hE k rfl rfl rfl rfl; case h =>
    simp [go_sem, ↓IntWalk.iteOmega, ev e21, ev e22]
    with_reducible rfl
   intro a74 hE e23 kp; apply Z03 24 hE k rfl rfl rfl rfl; case h =>
    simp [go_sem, ↓IntWalk.iteOmega, ev e23, d1, hK]
    with_reducible rfl
   intro a75 hE e24 kp; refine sd 25 hE k (Z15 rfl e24) ?_; intro a76 hE e25 kp; refine sd 26 hE k (Z02 rfl e25) ?_; intro a77 hE e26 kp; apply Z04 27 hE k rfl rfl rfl rfl rfl e26
   case h =>
    exact Z02 rfl (hE.g e0)
   intro a78 hE e27 kp; replace e26 := kt kp e26; apply Z04 28 hE k rfl rfl rfl rfl rfl e26
   case h =>
    exact Z0d rfl e27
   intro a79 hE e28 kp; replace e26 := kt kp e26; apply Z04 29 hE k rfl rfl rfl rfl rfl e26
   case h =>
    simp [go_sem, ↓IntWalk.iteOmega, ev e28]
    with_reducible rfl
   intro a80 hE e29 kp; replace e26 := kt kp e26; apply Z04 30 hE k rfl rfl rfl rfl rfl e26
   case h =>
    exact Z0a O 1 rfl rfl e29 rfl Tryz.underlying59 rfl
   intro a81 hE e30 kp; replace e26 := kt kp e26; apply Z04 31 hE k rfl rfl rfl rfl rfl e26
   case h =>
    exact Z02 rfl (hE.g e6)
   intro a82 hE e31 kp; replace e26 := kt kp e26; replace e30 := kt kp e30; apply Z04 32 hE k rfl rfl rfl rfl rfl e26
   case h =>
    simp [go_sem, ↓IntWalk.iteOmega, ev e30, ev e31]
    with_reducible rfl
   intro a83 hE e32 kp; replace e26 := kt kp e26; apply Z04 33 hE k rfl rfl rfl rfl rfl e26
   case h =>
    simp [go_sem, ↓IntWalk.iteOmega, ev e32, d2, hGi]
    with_reducible rfl
   intro a84 hE e33 kp; replace e26 := kt kp e26; apply Z04 34 hE k rfl rfl rfl rfl rfl e26
   case h =>
    exact Z15 rfl e33
   intro a85 hE e34 kp; replace e26 := kt kp e26; refine sd 35 hE k (Z0b rfl e26 e34) ?_; intro a86 hE e35 kp; refine wpList_nil ?_; replace e0 := hE.g e0; replace e3 := hE.g e3; replace e6 := hE.g e6; replace k := k.env hE; clear hE e15; refine Z00 ?_; refine Z0h e35 rfl ?_
   have hfz : w12.frozen? ⟨g2, i, none⟩ = false := (OwnT.blk O 3 rfl).frozen i
   refine wp_seq ?_; refine wp_region_lit ?_
   have hE := Env.refl a86 [36, 37, 38, 39, 40, 41]; refine zm 36 hE k e0 ?_; intro a87 hE e36 kp; refine sd 37 hE k (Z0d rfl e36) ?_; intro a88 hE e37 kp; apply Z03 38 hE k rfl rfl rfl rfl; case h =>
    simp [go_sem, ↓IntWalk.iteOmega, ev e37]
    with_reducible rfl
   intro a89 hE e38 kp; refine sd 39 hE k (Z0a O 1 rfl rfl e38 rfl Tryz.underlying59 rfl) ?_; intro a90 hE e39 kp; refine zm 40 hE k e6 ?_; intro a91 hE e40 kp; replace e39 := kt kp e39; apply Z03 41 hE k rfl rfl rfl rfl; case h =>
    simp [go_sem, ↓IntWalk.iteOmega, ev e39, ev e40]
    with_reducible rfl
   intro a92 hE e41 kp; refine Z2c (w' := (w12.setCell ⟨g2, i, none⟩ (.bool true))) hE rfl rfl ?_ ?_
   · simp [go_sem, ↓IntWalk.iteOmega, ev e41, d2, hfz]
   replace O := OwnT.push (L := [_, _, _, _, _] ++ R) 3 rfl ((OwnT.pull O 3 rfl).set i (.bool true))
   rw [Z2p] at O
   clear hfz d1 d2; generalize (w12.setCell ⟨g2, i, none⟩ (.bool true)) = w93 at O ⊢
   refine wpList_nil ?_; replace e0 := hE.g e0; replace e3 := hE.g e3; replace e6 := hE.g e6; replace k := k.env hE; clear hE e35 e41; refine Z00 (wp_seq ?_); refine Z0l (R := Ext) (w0 := w93) [[], [0], [0, 1], [0, 1, 2], [], [], rg 6, rg 7] [42, 43, 44, 45, 46, 47, 48] Ext.refl (fun _ _ _ => Ext.trans) (Ext.drew _) (by kernel_rfl) ?_
   refine bd 42 k rfl rfl rfl (fun ax wx hE hR hF => Z02 rfl (hE.g e0)) ?_
   refine bd 43 k rfl rfl rfl (fun ax wx hE hR hF => have e42 := zhF hF 0 42 ml0; Z0d rfl e42) ?_
   apply bd 44 k rfl rfl rfl; case h =>
    intro ax wx hE hR hF; have e43 := zhF hF 1 43 ml0; simp [go_sem, ↓IntWalk.iteOmega, ev e43]
    with_reducible rfl
   refine bd 45 k rfl rfl rfl (fun ax wx hE hR hF => have e44 := zhF hF 2 44 ml0; Z0a (OwnT.ext O hR) 1 rfl rfl e44 rfl Tryz.underlying60 rfl) ?_
   refine bd 46 k rfl rfl rfl (fun ax wx hE hR hF => Z02 rfl (hE.g e6)) ?_
   refine bd 47 k rfl rfl rfl (fun ax wx hE hR hF => Z1n (OwnT.ext O hR) 0 rfl rfl (hE.g e3) [.int .i64 0, .slice (some ⟨g, 0, none⟩) 1 1] rfl Tryz.underlying47 rfl (by kernel_rfl)) ?_
   apply bd 48 k rfl rfl rfl; case h =>
    intro ax wx hE hR hF; have e45 := zhF hF 3 45 ml2; have e46 := zhF hF 4 46 ml1; simp [go_sem, ↓IntWalk.iteOmega, ev e45, ev e46]
    with_reducible rfl
   apply Build.stop
   refine ⟨by kernel_rfl, .inr ⟨by kernel_rfl, _, rfl, rfl, ?_⟩⟩
   intro a94 w95 hE R hF; have e47 : a94.eval (.tmp 47) = _ := hF 5 (det 47 _) ml1
   have e48 : a94.eval (.tmp 48) = _ := hF 6 (det 48 _) ml0
   clear hF; replace O := OwnT.ext O R; clear R; obtain ⟨hc0, hc1⟩ := nd_cell (OwnT.blk O 4 rfl) hlt
   rw [Nat.mul_comm] at hc0 hc1
   have hf0 : w95.frozen? ⟨g3, i * 2, none⟩ = false := (OwnT.blk O 4 rfl).frozen (i * 2)
   have hf1 : w95.frozen? ⟨g3, i * 2 + 1, none⟩ = false := (OwnT.blk O 4 rfl).frozen (i * 2 + 1)
   refine Z1u (w' := (w95.setCell ⟨g3, i * 2, none⟩ (.int .i64 0)).setCell ⟨g3, i * 2 + 1, none⟩ (Value.slice (some ⟨g, 0, none⟩) 1 1)) rfl (by simp [go_sem, ↓IntWalk.iteOmega, ev e48, ev e47, hc0, hc1, hf0, hf1]) ?_
   replace O := OwnT.push (L := [_, _, _, _, _] ++ R) 4 rfl (((OwnT.pull O 4 rfl).set (i * 2) (.int .i64 0)).set (i * 2 + 1) (Value.slice (some ⟨g, 0, none⟩) 1 1))
   clear hc0 hc1 hf0 hf1; generalize ((w95.setCell ⟨g3, i * 2, none⟩ (.int .i64 0)).setCell ⟨g3, i * 2 + 1, none⟩ (Value.slice (some ⟨g, 0, none⟩) 1 1)) = w96 at O ⊢
   rw [Nat.mul_comm i 2, ndA_set _ hlt] at O
   replace e6 := hE.g e6; replace k := k.env hE; clear hE e0 e3 e47 e48; refine Z00 (wp_seq ?_); refine wp_region_lit ?_
   have hE := Env.refl a94 [49, 4, 5]; refine zm 49 hE k e6 ?_; intro a97 hE e49 kp; refine sd 4 hE k (Z01 rfl rfl) ?_; intro a98 hE e4 kp; replace e49 := kt kp e49; refine sd 5 hE k (Z01 rfl e49) ?_; intro a99 hE e5 kp; replace e4 := kt kp e4; refine wpList_nil ?_; replace k := k.env hE; clear hE e6; refine Z00 ?_; refine wp_ret ?_
   refine Z12 ?_
   refine Z0m ?_
   refine Z0m ?_
   refine Z12 ?_
   refine Z0m ?_
   refine Z32 rfl k e4 e5 ?_
   exact .inl ⟨i, ⟨hi1, hlt, hfr, hpre⟩, rfl, O.tail⟩
end Go.Proofs.YtakkhglbdljfiaaGreatDoor
