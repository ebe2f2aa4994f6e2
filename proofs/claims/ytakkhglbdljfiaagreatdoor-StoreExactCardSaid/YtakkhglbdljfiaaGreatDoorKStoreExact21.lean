/- the reference's store (printed by XStT.gen.py). -/
import Derived.Test.YtakkhglbdljfiaaGreatDoorKStoreExact20
namespace Go.Proofs.YtakkhglbdljfiaaGreatDoor
attribute [local simp] BigFrame.eval_const BigFrame.eval_global BigFrame.eval_func
set_option linter.unusedVariables false
set_option linter.unusedSimpArgs false
open Go.RowKit Go.Maps

def swG (xs : List Int) (G : Int → Bool) (j : Nat) : Int → Bool := fun c => if 1 ≤ c ∧ c < (j : Int) then G c && decide (c ∈ xs) else G c
def kpK (xs : List Int) (K : Int → Bool) (j : Nat) : Int → Bool := fun c => if 1 ≤ c ∧ c < (j : Int) then decide (c ∈ xs) else K c
def kpG (xs : List Int) (G : Int → Bool) (j : Nat) : Int → Bool := fun c => if 1 ≤ c ∧ c < (j : Int) then G c && !decide (c ∈ xs) else G c
def cmG (G : Int → Bool) (j : Nat) : Int → Bool := fun c => if 1 ≤ c ∧ c < (j : Int) then false else G c
section
variable {xs : List Int} {K G : Int → Bool} {j : Nat}
theorem Z3a {f g : Int → Bool} (hj : 1 ≤ j) : putB (fun c => if 1 ≤ c ∧ c < (j : Int) then f c else g c) (j : Nat) (f (j : Nat)) = fun c => if 1 ≤ c ∧ c < ((j + 1 : Nat) : Int) then f c else g c := by
 funext c
 unfold putB
 dsimp only
 by_cases e : c = (j : Int)
 · subst e
   rw [if_pos rfl, if_pos (by omega)]
 · rw [if_neg e]
   by_cases h : 1 ≤ c ∧ c < (j : Int)
   · rw [if_pos h, if_pos (by omega)]
   · rw [if_neg h, if_neg (by omega)]
theorem Z4n {f g : Int → Bool} : (fun c => if 1 ≤ c ∧ c < ((1 : Nat) : Int) then f c else g c) = g := by
 funext c
 rw [if_neg (by omega)]
theorem swG_step (hj : 1 ≤ j) : putB (swG xs G j) (j : Nat) (G (j : Nat) && decide (((j : Nat) : Int) ∈ xs)) = swG xs G (j + 1) := Z3a (f := fun c => G c && decide (c ∈ xs)) hj
theorem swG_one : swG xs G 1 = G := Z4n
theorem kpK_step (hj : 1 ≤ j) : putB (kpK xs K j) (j : Nat) (decide (((j : Nat) : Int) ∈ xs)) = kpK xs K (j + 1) := Z3a (f := fun c => decide (c ∈ xs)) hj
theorem kpK_one : kpK xs K 1 = K := Z4n
theorem kpK_at (hj : 1 ≤ j) : kpK xs K (j + 1) (j : Nat) = decide (((j : Nat) : Int) ∈ xs) := by unfold kpK; rw [if_pos (by omega)]
theorem kpG_step (hj : 1 ≤ j) : putB (kpG xs G j) (j : Nat) (G (j : Nat) && !decide (((j : Nat) : Int) ∈ xs)) = kpG xs G (j + 1) := Z3a (f := fun c => G c && !decide (c ∈ xs)) hj
theorem kpG_one : kpG xs G 1 = G := Z4n
theorem kpG_self : kpG xs G j (j : Nat) = G (j : Nat) := by unfold kpG; rw [if_neg (by omega)]
theorem swG_self : swG xs G j (j : Nat) = G (j : Nat) := by unfold swG; rw [if_neg (by omega)]
theorem cmG_step (hj : 1 ≤ j) : putB (cmG G j) (j : Nat) false = cmG G (j + 1) := Z3a (f := fun _ => false) hj
theorem cmG_one : cmG G 1 = G := Z4n
end

set_option maxRecDepth 100000 in
set_option maxHeartbeats 8000000 in
theorem Z54 {A : Option Addr} {ca : Nat} {xs : List Int} (n : Int) (W0 : World) (hrow : Row1 W0 A (Value.int .i64) xs) (hn : xs.length ≤ 1000000) : Calls Tryz.prog 55 #[.slice A xs.length ca, .int .i64 n] W0 fun e w' => e = .returned (.bool (decide (n ∈ xs))) ∧ Ext W0 w' := by
 have O := OwnT.start W0
 refine Z0c Tryz.func55 rfl 18 rfl (by rfl) ?_
 intro a1 k hargs; have e0 : a1.eval (.tmp 0) = .slice A xs.length ca := hargs 0 _ rfl
 have e1 : a1.eval (.tmp 1) = .int .i64 n := hargs 1 _ rfl
 clear hargs; refine wp_seq ?_; refine wp_region_lit ?_
 have hE := Env.refl a1 [4]; refine sd 4 hE k (Z01 rfl rfl) ?_; intro a2 hE e4 kp; refine wpList_nil ?_; replace e0 := hE.g e0; replace e1 := hE.g e1; replace k := k.env hE; clear hE e4; refine Z00 (wp_seq ?_); refine wp_seq ?_; refine wp_region_lit ?_
 have hE := Env.refl a2 [5]; refine sd 5 hE k (Z01 rfl rfl) ?_; intro a3 hE e5 kp; refine wpList_nil ?_; replace e0 := hE.g e0; replace e1 := hE.g e1; replace k := k.env hE; clear hE; refine Z00 ?_; refine wp_block ?_; refine wp_loop (fun a w => Fr 18 a ∧ a.eval (.tmp 0) = .slice A xs.length ca ∧ a.eval (.tmp 1) = .int .i64 n ∧ ∃ (i : Nat), a.eval (.tmp 5) = .int .i64 ↑i ∧ i ≤ xs.length ∧ n ∉ xs.take i ∧ OwnT W0.heap.size W0 [] w) (fun a w => xs.length - (intOf (a.eval (.tmp 5))).toNat) ?_ ?_
 · exact ⟨k, e0, e1, 0, e5, Nat.zero_le _, (by simp), O⟩
 intro a4 w5 hI; clear k e0 e1; obtain ⟨k, e0, e1, h_⟩ := hI
 clear O e5; obtain ⟨i, e5, hi, hno, O⟩ := h_
 have mi := e5
 by_cases hlt : i < xs.length
 rotate_left
 · obtain rfl : i = xs.length := by omega
   refine wp_seq ?_; refine wp_seq ?_; refine wp_region_lit ?_
   have hE := Env.refl a4 [6, 7, 8, 9]; refine zm 6 hE k e5 ?_; intro a6 hE e6 kp; refine zm 7 hE k e0 ?_; intro a7 hE e7 kp; replace e6 := kt kp e6; refine sd 8 hE k (Z1w Tryz.underlying40 rfl e7) ?_; intro a8 hE e8 kp; replace e6 := kt kp e6; refine sd 9 hE k (Z08 (Z0z rfl e6 e8) (decide_eq_false (by omega))) ?_
   intro a9 hE e9 kp; refine wpList_nil ?_; replace e0 := hE.g e0; replace e1 := hE.g e1; replace e5 := hE.g e5; replace k := k.env hE; clear hE; refine Z00 ?_; refine Z07 e9 rfl ?_
   refine wp_exit ?_
   refine Z0p ?_
   refine Z0p ?_
   refine Z11 ?_
   refine Z00 (wp_seq ?_); refine wp_region_lit ?_
   have hE := Env.refl a9 [4]; refine sd 4 hE k (Z01 rfl rfl) ?_; intro a10 hE e4 kp; refine wpList_nil ?_; replace k := k.env hE; clear hE e0 e1 e5 e9; refine Z00 ?_; refine wp_ret ?_
   refine Z0k rfl k e4 ?_
   exact ⟨by rw [List.take_length] at hno; rw [decide_eq_false hno]; rfl, O.below⟩
 obtain ⟨x, hx⟩ : ∃ x, xs[i]? = some x := ⟨_, List.getElem?_eq_getElem hlt⟩
 obtain ⟨b, o, rfl, hc⟩ := Z2m hrow hx
 have d0 := hc _ O.below

 refine wp_seq ?_; refine wp_seq ?_; refine wp_region_lit ?_
 have hE := Env.refl a4 [6, 7, 8, 9]; refine zm 6 hE k e5 ?_; intro a11 hE e6 kp; refine zm 7 hE k e0 ?_; intro a12 hE e7 kp; replace e6 := kt kp e6; refine sd 8 hE k (Z1w Tryz.underlying40 rfl e7) ?_; intro a13 hE e8 kp; replace e6 := kt kp e6; refine sd 9 hE k (Z08 (Z0z rfl e6 e8) (decide_eq_true (by omega))) ?_
 intro a14 hE e9 kp; refine wpList_nil ?_; replace e0 := hE.g e0; replace e1 := hE.g e1; replace e5 := hE.g e5; replace k := k.env hE; clear hE; refine Z00 ?_; refine Z0h e9 rfl ?_
 refine wp_skip ?_; refine Z00 (wp_seq ?_); refine wp_block ?_; by_cases e : x = n
 · subst e
   refine wp_seq ?_; refine wp_region_lit ?_
   have hE := Env.refl a14 [12, 13, 14, 15, 16, 17]; refine zm 12 hE k e0 ?_; intro a15 hE e12 kp; refine zm 13 hE k e5 ?_; intro a16 hE e13 kp; replace e12 := kt kp e12; apply Z03 14 hE k rfl rfl rfl rfl; case h =>
    simp [go_sem, ↓IntWalk.iteOmega, ev e12, ev e13]
    with_reducible rfl
   intro a17 hE e14 kp; apply Z03 15 hE k rfl rfl rfl rfl; case h =>
    simp [go_sem, ↓IntWalk.iteOmega, ev e14, d0]
    with_reducible rfl
   intro a18 hE e15 kp; refine zm 16 hE k e1 ?_; intro a19 hE e16 kp; replace e15 := kt kp e15; refine sd 17 hE k (Z08 (Z19 rfl e15 e16) (decide_eq_true rfl)) ?_; intro a20 hE e17 kp; refine wpList_nil ?_; replace e0 := hE.g e0; replace e1 := hE.g e1; replace e5 := hE.g e5; replace k := k.env hE; clear hE e9; refine Z00 ?_; refine Z0h e17 rfl ?_
   refine wp_seq ?_; refine wp_region_lit ?_
   have hE := Env.refl a20 [4]; refine sd 4 hE k (Z01 rfl rfl) ?_; intro a21 hE e4 kp; refine wpList_nil ?_; replace k := k.env hE; clear hE e0 e1 e5 e17; refine Z00 ?_; refine wp_ret ?_
   refine Z12 ?_
   refine Z0m ?_
   refine Z0m ?_
   refine Z12 ?_
   refine Z0m ?_
   refine Z0k rfl k e4 ?_
   exact ⟨by rw [decide_eq_true (List.mem_of_getElem? hx)]; rfl, O.below⟩
 refine wp_seq ?_; refine wp_region_lit ?_
 have hE := Env.refl a14 [12, 13, 14, 15, 16, 17]; refine zm 12 hE k e0 ?_; intro a22 hE e12 kp; refine zm 13 hE k e5 ?_; intro a23 hE e13 kp; replace e12 := kt kp e12; apply Z03 14 hE k rfl rfl rfl rfl; case h =>
  simp [go_sem, ↓IntWalk.iteOmega, ev e12, ev e13]
  with_reducible rfl
 intro a24 hE e14 kp; apply Z03 15 hE k rfl rfl rfl rfl; case h =>
  simp [go_sem, ↓IntWalk.iteOmega, ev e14, d0]
  with_reducible rfl
 intro a25 hE e15 kp; refine zm 16 hE k e1 ?_; intro a26 hE e16 kp; replace e15 := kt kp e15; refine sd 17 hE k (Z08 (Z19 rfl e15 e16) (decide_eq_false e)) ?_; intro a27 hE e17 kp; refine wpList_nil ?_; replace e0 := hE.g e0; replace e1 := hE.g e1; replace e5 := hE.g e5; replace k := k.env hE; clear hE e9; refine Z00 ?_; refine Z07 e17 rfl ?_
 refine wp_skip ?_; refine Z0f ?_; refine Z00 ?_; refine wp_region_lit ?_
 have hE := Env.refl a27 [10, 11, 5]; refine sd 10 hE k (Z02 rfl e5) ?_; intro a28 hE e10 kp; replace e5 := kt kp e5; refine sd 11 hE k (Z1i rfl e10 rfl (by omega)) ?_; intro a29 hE e11 kp; replace e5 := kt kp e5; replace e11 := e11.trans (Z10 (show (i : Int) + 1 = ((i + 1 : Nat) : Int) by omega))
 refine sd 5 hE k (Z01 rfl e11) ?_; intro a30 hE e5 kp; refine wpList_nil ?_; replace e0 := hE.g e0; replace e1 := hE.g e1; replace k := k.env hE; clear hE e17; refine Z00 ?_; refine ⟨⟨k, e0, e1, i + 1, e5, by omega, ?_, O⟩, ?_⟩
 · rw [List.take_add_one, hx]; simp only [Option.toList_some, List.mem_append, List.mem_singleton]; rintro (h | h); exact hno h; exact e h.symm
 · rw [e5, mi]; simp only [intOf]; omega
set_option maxRecDepth 100000 in
set_option maxHeartbeats 8000000 in
theorem usweep_any {H : Nat} {A0 : World} {R : List Thing} {ub P g1 g2 g3 : Nat} {h : Hd} {K G : Int → Bool} {T : Int → Value} {A : Option Addr} {ca : Nat} {xs : List Int} (w : World) (O : OwnT H A0 (usL ub P g1 g2 g3 h K G T R) w) (hrow : ∀ W, OwnT H A0 R W → Row1 W A (Value.int .i64) xs) (hn : xs.length ≤ 1000000) (hP : 1 ≤ P ∧ P ≤ 512) : Calls Tryz.prog 17 #[.pointer (some ⟨ub, 0, none⟩), .slice A xs.length ca] w fun e w' => e = .returned (.tuple #[]) ∧ OwnT H A0 (usL ub P g1 g2 g3 h K (swG xs G P) T R) w' := by
 refine Z0c Tryz.func17 rfl 31 rfl (by rfl) ?_
 intro a1 k hargs; have e0 : a1.eval (.tmp 0) = .pointer (some ⟨ub, 0, none⟩) := hargs 0 _ rfl
 have e1 : a1.eval (.tmp 1) = .slice A xs.length ca := hargs 1 _ rfl
 clear hargs; rw [← swG_one (xs := xs) (G := G)] at O
 refine wp_seq ?_; refine wp_region_lit ?_
 have hE := Env.refl a1 [4]; refine sd 4 hE k (Z01 rfl rfl) ?_; intro a2 hE e4 kp; refine wpList_nil ?_; replace e0 := hE.g e0; replace e1 := hE.g e1; replace k := k.env hE; clear hE; refine Z00 ?_; refine wp_block ?_; refine wp_loop (fun a w => Fr 31 a ∧ a.eval (.tmp 0) = .pointer (some ⟨ub, 0, none⟩) ∧ a.eval (.tmp 1) = .slice A xs.length ca ∧ ∃ (i : Nat), a.eval (.tmp 4) = .int .i64 ↑i ∧ 1 ≤ i ∧ i ≤ P ∧ OwnT H A0 ((tBlk ub 62 #[.int .i64 ↑P, .slice (some ⟨g1, 0, none⟩) P P, .slice (some ⟨g2, 0, none⟩) P P, .slice (some ⟨g3, 0, none⟩) P P, .int .u64 h.g, .int .i64 h.r, .int .i64 h.a, .int .i64 h.b, .int .i64 h.c]) :: (tBlk g1 4 (boA P K)) :: (tBlk g2 4 (boA P (swG xs G i))) :: (tBlk g3 47 (ndA P T)) :: R) w) (fun a w => P - (intOf (a.eval (.tmp 4))).toNat) ?_ ?_
 · exact ⟨k, e0, e1, 1, e4, Nat.le_refl _, hP.1, O⟩
 intro a3 w4 hI; clear k e0 e1; obtain ⟨k, e0, e1, h_⟩ := hI
 clear O e4; obtain ⟨i, e4, hi1, hi, O⟩ := h_
 have mi := e4
 by_cases hlt : i < P
 rotate_left
 · obtain rfl : i = P := by omega
   refine wp_seq ?_; refine wp_seq ?_; refine wp_region_lit ?_
   have hE := Env.refl a3 [5, 6, 7, 8, 9, 10]; refine zm 5 hE k e4 ?_; intro a5 hE e5 kp; refine zm 6 hE k e0 ?_; intro a6 hE e6 kp; replace e5 := kt kp e5; refine sd 7 hE k (Z0d rfl e6) ?_; intro a7 hE e7 kp; replace e5 := kt kp e5; apply Z03 8 hE k rfl rfl rfl rfl; case h =>
    simp [go_sem, ↓IntWalk.iteOmega, ev e7]
    with_reducible rfl
   intro a8 hE e8 kp; replace e5 := kt kp e5; refine sd 9 hE k (Z0a O 0 rfl rfl e8 rfl Tryz.underlying3 rfl) ?_; intro a9 hE e9 kp; replace e5 := kt kp e5; refine sd 10 hE k (Z08 (Z0z rfl e5 e9) (decide_eq_false (by omega))) ?_
   intro a10 hE e10 kp; refine wpList_nil ?_; replace e0 := hE.g e0; replace e1 := hE.g e1; replace e4 := hE.g e4; replace k := k.env hE; clear hE; refine Z00 ?_; refine Z07 e10 rfl ?_
   refine wp_exit ?_
   refine Z0p ?_
   refine Z0p ?_
   refine Z11 ?_
   refine Z6b rfl k ?_
   exact ⟨rfl, O⟩
 refine wp_seq ?_; refine wp_seq ?_; refine wp_region_lit ?_
 have hE := Env.refl a3 [5, 6, 7, 8, 9, 10]; refine zm 5 hE k e4 ?_; intro a11 hE e5 kp; refine zm 6 hE k e0 ?_; intro a12 hE e6 kp; replace e5 := kt kp e5; refine sd 7 hE k (Z0d rfl e6) ?_; intro a13 hE e7 kp; replace e5 := kt kp e5; apply Z03 8 hE k rfl rfl rfl rfl; case h =>
  simp [go_sem, ↓IntWalk.iteOmega, ev e7]
  with_reducible rfl
 intro a14 hE e8 kp; replace e5 := kt kp e5; refine sd 9 hE k (Z0a O 0 rfl rfl e8 rfl Tryz.underlying3 rfl) ?_; intro a15 hE e9 kp; replace e5 := kt kp e5; refine sd 10 hE k (Z08 (Z0z rfl e5 e9) (decide_eq_true (by omega))) ?_
 intro a16 hE e10 kp; refine wpList_nil ?_; replace e0 := hE.g e0; replace e1 := hE.g e1; replace e4 := hE.g e4; replace k := k.env hE; clear hE; refine Z00 ?_; refine Z0h e10 rfl ?_
 refine wp_skip ?_; refine Z00 (wp_seq ?_); refine wp_block ?_; obtain ⟨q, hq⟩ : ∃ q, decide ((i : Int) ∈ xs) = q := ⟨_, rfl⟩
 have hst := swG_step (xs := xs) (G := G) hi1
 cases hG : G (i : Int) with
 | true =>
  have hGs : swG xs G i (i : Int) = true := swG_self.trans hG
  refine Z0l (R := Ext) (w0 := w4) [[], [0], [0, 1], [0, 1, 2], [], [], [5], [5, 6], [5, 6, 7], [], [5, 6, 7, 8, 9], [5, 6, 7, 8, 9, 10], [5, 6, 7, 8, 9, 10, 11], [5, 6, 7, 8, 9, 10, 11, 12], [5, 6, 7, 8, 9, 10, 11, 12], [5, 6, 7, 8, 9, 10, 11, 12, 13, 14], [5, 6, 7, 8, 9, 10, 11, 12, 13, 14, 15], rg 17, rg 18] [13, 14, 15, 16, 17, 18, 19, 20, 21, 22, 23, 24, 25, 26, 27, 28, 29, 30] Ext.refl (fun _ _ _ => Ext.trans) (Ext.drew _) (by kernel_rfl) ?_
  refine bd 13 k rfl rfl rfl (fun ax wx hE hR hF => Z02 rfl (hE.g e0)) ?_
  refine bd 14 k rfl rfl rfl (fun ax wx hE hR hF => have e13 := zhF hF 0 13 ml0; Z0d rfl e13) ?_
  apply bd 15 k rfl rfl rfl; case h =>
   intro ax wx hE hR hF; have e14 := zhF hF 1 14 ml0; simp [go_sem, ↓IntWalk.iteOmega, ev e14]
   with_reducible rfl
  refine bd 16 k rfl rfl rfl (fun ax wx hE hR hF => have e15 := zhF hF 2 15 ml0; Z0a (OwnT.ext O hR) 0 rfl rfl e15 rfl Tryz.underlying59 rfl) ?_
  refine bd 17 k rfl rfl rfl (fun ax wx hE hR hF => Z02 rfl (hE.g e4)) ?_
  refine bd 18 k rfl rfl rfl (fun ax wx hE hR hF => Z02 rfl (hE.g e0)) ?_
  refine bd 19 k rfl rfl rfl (fun ax wx hE hR hF => have e18 := zhF hF 5 18 ml0; Z0d rfl e18) ?_
  apply bd 20 k rfl rfl rfl; case h =>
   intro ax wx hE hR hF; have e19 := zhF hF 6 19 ml0; simp [go_sem, ↓IntWalk.iteOmega, ev e19]
   with_reducible rfl
  refine bd 21 k rfl rfl rfl (fun ax wx hE hR hF => have e20 := zhF hF 7 20 ml0; Z0a (OwnT.ext O hR) 0 rfl rfl e20 rfl Tryz.underlying59 rfl) ?_
  refine bd 22 k rfl rfl rfl (fun ax wx hE hR hF => Z02 rfl (hE.g e4)) ?_
  apply bd 23 k rfl rfl rfl; case h =>
   intro ax wx hE hR hF; have e21 := zhF hF 8 21 ml1; have e22 := zhF hF 9 22 ml0; simp [go_sem, ↓IntWalk.iteOmega, ev e21, ev e22]
   with_reducible rfl
  apply bd 24 k rfl rfl rfl; case h =>
   intro ax wx hE hR hF; have e23 := zhF hF 10 23 ml0; have d0 := Z0u (OwnT.blk (OwnT.ext O hR) 2 rfl) hlt
   simp [go_sem, ↓IntWalk.iteOmega, ev e23, d0, hGs]
   with_reducible rfl
  refine bd 25 k rfl rfl rfl (fun ax wx hE hR hF => have e24 := zhF hF 11 24 ml0; Z02 rfl e24) ?_
  refine bdg 26 k rfl rfl rfl rfl (fun ax wx hE hR hF => have e25 := zhF hF 12 25 ml0; ⟨e25, Z02 rfl (hE.g e1)⟩) ?_
  refine bdg 27 k rfl rfl rfl rfl (fun ax wx hE hR hF => have e25 := zhF hF 12 25 ml1; ⟨e25, Z02 rfl (hE.g e4)⟩) ?_
  apply Build.callg 28 Ext.refl (by rfl) (by rw [k.size]; rfl) rfl rfl
  case h =>
   intro ax wx hE hR hF; have e26 := zhF hF 13 26 ml1; have e27 := zhF hF 14 27 ml0; have e25 := zhF hF 12 25 ml2; refine ⟨e25, ?_⟩; simp [go_sem, ↓IntWalk.iteOmega, ev e26, ev e27]
   with_reducible exact ⟨rfl, rfl⟩
  case hc => intro wx hR; exact (show Calls _ _ _ _ (fun e w' => e = .returned (.bool q) ∧ Ext wx w') from (Z54 ↑i wx (hrow wx (OwnT.pickR (L := [_, _, _, _]) (R := R) (OwnT.ext O hR) [] (by decide))) hn).mono (fun e w' h => ⟨h.1.trans (congrArg (fun b => Ending.returned (.bool b)) hq), h.2⟩))
  refine bd 29 k rfl rfl rfl (fun ax wx hE hR hF => have e25 := zhF hF 12 25 ml3; have e28 := zhF hF 15 28 ml0; Z0b rfl e25 e28) ?_
  apply bd 30 k rfl rfl rfl; case h =>
   intro ax wx hE hR hF; have e16 := zhF hF 3 16 ml13; have e17 := zhF hF 4 17 ml12; simp [go_sem, ↓IntWalk.iteOmega, ev e16, ev e17]
   with_reducible rfl
  apply Build.stop
  refine ⟨by kernel_rfl, .inr ⟨by kernel_rfl, _, rfl, rfl, ?_⟩⟩
  intro a17 w18 hE R hF; have e29 : a17.eval (.tmp 29) = _ := hF 16 (det 29 _) ml1
  have e30 : a17.eval (.tmp 30) = _ := hF 17 (det 30 _) ml0
  clear hF; replace O := OwnT.ext O R; clear R; have hc := Z0u (OwnT.blk O 2 rfl) hlt
  have hfz : w18.frozen? ⟨g2, i, none⟩ = false := (OwnT.blk O 2 rfl).frozen i
  refine Z1u (w' := w18.setCell ⟨g2, i, none⟩ (.bool q)) rfl (by simp [go_sem, ↓IntWalk.iteOmega, ev e30, ev e29, hc, hfz]) ?_
  replace O := OwnT.push (L := [_, _, _, _] ++ R) 2 rfl ((OwnT.pull O 2 rfl).set i (.bool q))
  clear hc hfz; generalize (w18.setCell ⟨g2, i, none⟩ (.bool q)) = w19 at O ⊢
  rw [Z2p] at O
  rw [show putB (swG xs G i) (i : Nat) q = swG xs G (i + 1) by rw [← hst, hG, hq]; simp] at O
  replace e0 := hE.g e0; replace e1 := hE.g e1; replace e4 := hE.g e4; replace k := k.env hE; clear hE e10 e29 e30; refine Z0f ?_; refine Z00 ?_; refine wp_region_lit ?_
  have hE := Env.refl a17 [11, 12, 4]; refine sd 11 hE k (Z02 rfl e4) ?_; intro a20 hE e11 kp; replace e4 := kt kp e4; refine sd 12 hE k (Z1i rfl e11 rfl (by omega)) ?_; intro a21 hE e12 kp; replace e4 := kt kp e4; replace e12 := e12.trans (Z10 (show (i : Int) + 1 = ((i + 1 : Nat) : Int) by omega))
  refine sd 4 hE k (Z01 rfl e12) ?_; intro a22 hE e4 kp; refine wpList_nil ?_; replace e0 := hE.g e0; replace e1 := hE.g e1; replace k := k.env hE; clear hE; refine Z00 ?_; refine ⟨⟨k, e0, e1, i + 1, e4, by omega, by omega, O⟩, ?_⟩
  rw [e4, mi]; simp only [intOf]; omega
 | false =>
  have hGs : swG xs G i (i : Int) = false := swG_self.trans hG
  refine Z0l (R := Ext) (w0 := w4) [[], [0], [0, 1], [0, 1, 2], [], [], [5], [5, 6], [5, 6, 7], [], [5, 6, 7, 8, 9], [5, 6, 7, 8, 9, 10], [5, 6, 7, 8, 9, 10, 11], [5, 6, 7, 8, 9, 10, 11, 12], [5, 6, 7, 8, 9, 10, 11, 12], [5, 6, 7, 8, 9, 10, 11, 12, 13, 14], [5, 6, 7, 8, 9, 10, 11, 12, 13, 14, 15], rg 17, rg 18] [13, 14, 15, 16, 17, 18, 19, 20, 21, 22, 23, 24, 25, 26, 27, 28, 29, 30] Ext.refl (fun _ _ _ => Ext.trans) (Ext.drew _) (by kernel_rfl) ?_
  refine bd 13 k rfl rfl rfl (fun ax wx hE hR hF => Z02 rfl (hE.g e0)) ?_
  refine bd 14 k rfl rfl rfl (fun ax wx hE hR hF => have e13 := zhF hF 0 13 ml0; Z0d rfl e13) ?_
  apply bd 15 k rfl rfl rfl; case h =>
   intro ax wx hE hR hF; have e14 := zhF hF 1 14 ml0; simp [go_sem, ↓IntWalk.iteOmega, ev e14]
   with_reducible rfl
  refine bd 16 k rfl rfl rfl (fun ax wx hE hR hF => have e15 := zhF hF 2 15 ml0; Z0a (OwnT.ext O hR) 0 rfl rfl e15 rfl Tryz.underlying59 rfl) ?_
  refine bd 17 k rfl rfl rfl (fun ax wx hE hR hF => Z02 rfl (hE.g e4)) ?_
  refine bd 18 k rfl rfl rfl (fun ax wx hE hR hF => Z02 rfl (hE.g e0)) ?_
  refine bd 19 k rfl rfl rfl (fun ax wx hE hR hF => have e18 := zhF hF 5 18 ml0; Z0d rfl e18) ?_
  apply bd 20 k rfl rfl rfl; case h =>
   intro ax wx hE hR hF; have e19 := zhF hF 6 19 ml0; simp [go_sem, ↓IntWalk.iteOmega, ev e19]
   with_reducible rfl
  refine bd 21 k rfl rfl rfl (fun ax wx hE hR hF => have e20 := zhF hF 7 20 ml0; Z0a (OwnT.ext O hR) 0 rfl rfl e20 rfl Tryz.underlying59 rfl) ?_
  refine bd 22 k rfl rfl rfl (fun ax wx hE hR hF => Z02 rfl (hE.g e4)) ?_
  apply bd 23 k rfl rfl rfl; case h =>
   intro ax wx hE hR hF; have e21 := zhF hF 8 21 ml1; have e22 := zhF hF 9 22 ml0; simp [go_sem, ↓IntWalk.iteOmega, ev e21, ev e22]
   with_reducible rfl
  apply bd 24 k rfl rfl rfl; case h =>
   intro ax wx hE hR hF; have e23 := zhF hF 10 23 ml0; have d0 := Z0u (OwnT.blk (OwnT.ext O hR) 2 rfl) hlt
   simp [go_sem, ↓IntWalk.iteOmega, ev e23, d0, hGs]
   with_reducible rfl
  refine bd 25 k rfl rfl rfl (fun ax wx hE hR hF => have e24 := zhF hF 11 24 ml0; Z02 rfl e24) ?_
  refine bsk 26 k rfl rfl rfl rfl (fun hF => zhF hF 12 25 ml0) ?_
  refine bsk 27 k rfl rfl rfl rfl (fun hF => zhF hF 12 25 ml1) ?_
  refine bsk 28 k rfl rfl rfl rfl (fun hF => zhF hF 12 25 ml2) ?_
  refine bd 29 k rfl rfl rfl (fun ax wx hE hR hF => have e25 := zhF hF 12 25 ml3; have e28 := zhF hF 15 28 ml0; Z09 rfl e25 rfl) ?_
  apply bd 30 k rfl rfl rfl; case h =>
   intro ax wx hE hR hF; have e16 := zhF hF 3 16 ml13; have e17 := zhF hF 4 17 ml12; simp [go_sem, ↓IntWalk.iteOmega, ev e16, ev e17]
   with_reducible rfl
  apply Build.stop
  refine ⟨by kernel_rfl, .inr ⟨by kernel_rfl, _, rfl, rfl, ?_⟩⟩
  intro a23 w24 hE R hF; have e29 : a23.eval (.tmp 29) = _ := hF 16 (det 29 _) ml1
  have e30 : a23.eval (.tmp 30) = _ := hF 17 (det 30 _) ml0
  clear hF; replace O := OwnT.ext O R; clear R; have hc := Z0u (OwnT.blk O 2 rfl) hlt
  have hfz : w24.frozen? ⟨g2, i, none⟩ = false := (OwnT.blk O 2 rfl).frozen i
  refine Z1u (w' := w24.setCell ⟨g2, i, none⟩ (.bool false)) rfl (by simp [go_sem, ↓IntWalk.iteOmega, ev e30, ev e29, hc, hfz]) ?_
  replace O := OwnT.push (L := [_, _, _, _] ++ R) 2 rfl ((OwnT.pull O 2 rfl).set i (.bool false))
  clear hc hfz; generalize (w24.setCell ⟨g2, i, none⟩ (.bool false)) = w25 at O ⊢
  rw [Z2p] at O
  rw [show putB (swG xs G i) (i : Nat) false = swG xs G (i + 1) by rw [← hst, hG]; simp] at O
  replace e0 := hE.g e0; replace e1 := hE.g e1; replace e4 := hE.g e4; replace k := k.env hE; clear hE e10 e29 e30; refine Z0f ?_; refine Z00 ?_; refine wp_region_lit ?_
  have hE := Env.refl a23 [11, 12, 4]; refine sd 11 hE k (Z02 rfl e4) ?_; intro a26 hE e11 kp; replace e4 := kt kp e4; refine sd 12 hE k (Z1i rfl e11 rfl (by omega)) ?_; intro a27 hE e12 kp; replace e4 := kt kp e4; replace e12 := e12.trans (Z10 (show (i : Int) + 1 = ((i + 1 : Nat) : Int) by omega))
  refine sd 4 hE k (Z01 rfl e12) ?_; intro a28 hE e4 kp; refine wpList_nil ?_; replace e0 := hE.g e0; replace e1 := hE.g e1; replace k := k.env hE; clear hE; refine Z00 ?_; refine ⟨⟨k, e0, e1, i + 1, e4, by omega, by omega, O⟩, ?_⟩
  rw [e4, mi]; simp only [intOf]; omega
set_option maxRecDepth 100000 in
set_option maxHeartbeats 8000000 in
theorem ukeep_any {H : Nat} {A0 : World} {R : List Thing} {ub P g1 g2 g3 : Nat} {h : Hd} {K G : Int → Bool} {T : Int → Value} {A : Option Addr} {ca : Nat} {xs : List Int} (w : World) (O : OwnT H A0 (usL ub P g1 g2 g3 h K G T R) w) (hrow : ∀ W, OwnT H A0 R W → Row1 W A (Value.int .i64) xs) (hn : xs.length ≤ 1000000) (hP : 1 ≤ P ∧ P ≤ 512) : Calls Tryz.prog 24 #[.pointer (some ⟨ub, 0, none⟩), .slice A xs.length ca] w fun e w' => e = .returned (.tuple #[]) ∧ OwnT H A0 (usL ub P g1 g2 g3 h (kpK xs K P) (kpG xs G P) T R) w' := by
 refine Z0c Tryz.func24 rfl 45 rfl (by rfl) ?_
 intro a1 k hargs; have e0 : a1.eval (.tmp 0) = .pointer (some ⟨ub, 0, none⟩) := hargs 0 _ rfl
 have e1 : a1.eval (.tmp 1) = .slice A xs.length ca := hargs 1 _ rfl
 clear hargs; rw [← kpK_one (xs := xs) (K := K), ← kpG_one (xs := xs) (G := G)] at O
 refine wp_seq ?_; refine wp_region_lit ?_
 have hE := Env.refl a1 [4]; refine sd 4 hE k (Z01 rfl rfl) ?_; intro a2 hE e4 kp; refine wpList_nil ?_; replace e0 := hE.g e0; replace e1 := hE.g e1; replace k := k.env hE; clear hE; refine Z00 ?_; refine wp_block ?_; refine wp_loop (fun a w => Fr 45 a ∧ a.eval (.tmp 0) = .pointer (some ⟨ub, 0, none⟩) ∧ a.eval (.tmp 1) = .slice A xs.length ca ∧ ∃ (i : Nat), a.eval (.tmp 4) = .int .i64 ↑i ∧ 1 ≤ i ∧ i ≤ P ∧ OwnT H A0 ((tBlk ub 62 #[.int .i64 ↑P, .slice (some ⟨g1, 0, none⟩) P P, .slice (some ⟨g2, 0, none⟩) P P, .slice (some ⟨g3, 0, none⟩) P P, .int .u64 h.g, .int .i64 h.r, .int .i64 h.a, .int .i64 h.b, .int .i64 h.c]) :: (tBlk g1 4 (boA P (kpK xs K i))) :: (tBlk g2 4 (boA P (kpG xs G i))) :: (tBlk g3 47 (ndA P T)) :: R) w) (fun a w => P - (intOf (a.eval (.tmp 4))).toNat) ?_ ?_
 · exact ⟨k, e0, e1, 1, e4, Nat.le_refl _, hP.1, O⟩
 intro a3 w4 hI; clear k e0 e1; obtain ⟨k, e0, e1, h_⟩ := hI
 clear O e4; obtain ⟨i, e4, hi1, hi, O⟩ := h_
 have mi := e4
 by_cases hlt : i < P
 rotate_left
 · obtain rfl : i = P := by omega
   refine wp_seq ?_; refine wp_seq ?_; refine wp_region_lit ?_
   have hE := Env.refl a3 [5, 6, 7, 8, 9, 10]; refine zm 5 hE k e4 ?_; intro a5 hE e5 kp; refine zm 6 hE k e0 ?_; intro a6 hE e6 kp; replace e5 := kt kp e5; refine sd 7 hE k (Z0d rfl e6) ?_; intro a7 hE e7 kp; replace e5 := kt kp e5; apply Z03 8 hE k rfl rfl rfl rfl; case h =>
    simp [go_sem, ↓IntWalk.iteOmega, ev e7]
    with_reducible rfl
   intro a8 hE e8 kp; replace e5 := kt kp e5; refine sd 9 hE k (Z0a O 0 rfl rfl e8 rfl Tryz.underlying3 rfl) ?_; intro a9 hE e9 kp; replace e5 := kt kp e5; refine sd 10 hE k (Z08 (Z0z rfl e5 e9) (decide_eq_false (by omega))) ?_
   intro a10 hE e10 kp; refine wpList_nil ?_; replace e0 := hE.g e0; replace e1 := hE.g e1; replace e4 := hE.g e4; replace k := k.env hE; clear hE; refine Z00 ?_; refine Z07 e10 rfl ?_
   refine wp_exit ?_
   refine Z0p ?_
   refine Z0p ?_
   refine Z11 ?_
   refine Z6b rfl k ?_
   exact ⟨rfl, O⟩
 obtain ⟨q, hq⟩ : ∃ q, decide ((i : Int) ∈ xs) = q := ⟨_, rfl⟩
 refine wp_seq ?_; refine wp_seq ?_; refine wp_region_lit ?_
 have hE := Env.refl a3 [5, 6, 7, 8, 9, 10]; refine zm 5 hE k e4 ?_; intro a11 hE e5 kp; refine zm 6 hE k e0 ?_; intro a12 hE e6 kp; replace e5 := kt kp e5; refine sd 7 hE k (Z0d rfl e6) ?_; intro a13 hE e7 kp; replace e5 := kt kp e5; apply Z03 8 hE k rfl rfl rfl rfl; case h =>
  simp [go_sem, ↓IntWalk.iteOmega, ev e7]
  with_reducible rfl
 intro a14 hE e8 kp; replace e5 := kt kp e5; refine sd 9 hE k (Z0a O 0 rfl rfl e8 rfl Tryz.underlying3 rfl) ?_; intro a15 hE e9 kp; replace e5 := kt kp e5; refine sd 10 hE k (Z08 (Z0z rfl e5 e9) (decide_eq_true (by omega))) ?_
 intro a16 hE e10 kp; refine wpList_nil ?_; replace e0 := hE.g e0; replace e1 := hE.g e1; replace e4 := hE.g e4; replace k := k.env hE; clear hE; refine Z00 ?_; refine Z0h e10 rfl ?_
 refine wp_skip ?_; refine Z00 (wp_seq ?_); refine wp_block ?_; refine wp_seq ?_; refine Z0l (R := Ext) (w0 := w4) [[], [0], [0, 1], [0, 1, 2], [], [], [], [5, 6], rg 8, rg 9] [13, 14, 15, 16, 17, 18, 19, 20, 21] Ext.refl (fun _ _ _ => Ext.trans) (Ext.drew _) (by kernel_rfl) ?_
 refine bd 13 k rfl rfl rfl (fun ax wx hE hR hF => Z02 rfl (hE.g e0)) ?_
 refine bd 14 k rfl rfl rfl (fun ax wx hE hR hF => have e13 := zhF hF 0 13 ml0; Z0d rfl e13) ?_
 apply bd 15 k rfl rfl rfl; case h =>
  intro ax wx hE hR hF; have e14 := zhF hF 1 14 ml0; simp [go_sem, ↓IntWalk.iteOmega, ev e14]
  with_reducible rfl
 refine bd 16 k rfl rfl rfl (fun ax wx hE hR hF => have e15 := zhF hF 2 15 ml0; Z0a (OwnT.ext O hR) 0 rfl rfl e15 rfl Tryz.underlying59 rfl) ?_
 refine bd 17 k rfl rfl rfl (fun ax wx hE hR hF => Z02 rfl (hE.g e4)) ?_
 refine bd 18 k rfl rfl rfl (fun ax wx hE hR hF => Z02 rfl (hE.g e1)) ?_
 refine bd 19 k rfl rfl rfl (fun ax wx hE hR hF => Z02 rfl (hE.g e4)) ?_
 apply Build.call 20 Ext.refl (by rfl) (by rw [k.size]; rfl) rfl
 case h =>
  intro ax wx hE hR hF; have e18 := zhF hF 5 18 ml1; have e19 := zhF hF 6 19 ml0; simp [go_sem, ↓IntWalk.iteOmega, ev e18, ev e19]
  with_reducible exact ⟨rfl, rfl⟩
 case hc => intro wx hR; exact (show Calls _ _ _ _ (fun e w' => e = .returned (.bool q) ∧ Ext wx w') from (Z54 ↑i wx (hrow wx (OwnT.pickR (L := [_, _, _, _]) (R := R) (OwnT.ext O hR) [] (by decide))) hn).mono (fun e w' h => ⟨h.1.trans (congrArg (fun b => Ending.returned (.bool b)) hq), h.2⟩))
 apply bd 21 k rfl rfl rfl; case h =>
  intro ax wx hE hR hF; have e16 := zhF hF 3 16 ml4; have e17 := zhF hF 4 17 ml3; simp [go_sem, ↓IntWalk.iteOmega, ev e16, ev e17]
  with_reducible rfl
 apply Build.stop
 refine ⟨by kernel_rfl, .inr ⟨by kernel_rfl, _, rfl, rfl, ?_⟩⟩
 intro a17 w18 hE R hF; have e20 : a17.eval (.tmp 20) = _ := hF 7 (det 20 _) ml1
 have e21 : a17.eval (.tmp 21) = _ := hF 8 (det 21 _) ml0
 clear hF; replace O := OwnT.ext O R; clear R; have hc := Z0u (OwnT.blk O 1 rfl) hlt
 have hfz : w18.frozen? ⟨g1, i, none⟩ = false := (OwnT.blk O 1 rfl).frozen i
 refine Z1u (w' := w18.setCell ⟨g1, i, none⟩ (.bool q)) rfl (by simp [go_sem, ↓IntWalk.iteOmega, ev e21, ev e20, hc, hfz]) ?_
 replace O := OwnT.push (L := [_, _, _, _] ++ R) 1 rfl ((OwnT.pull O 1 rfl).set i (.bool q))
 clear hc hfz; generalize (w18.setCell ⟨g1, i, none⟩ (.bool q)) = w19 at O ⊢
 rw [Z2p] at O
 rw [← hq, kpK_step hi1] at O
 replace e0 := hE.g e0; replace e1 := hE.g e1; replace e4 := hE.g e4; replace k := k.env hE; clear hE e10 e20 e21; refine Z00 ?_; have hKs : kpK xs K (i + 1) (i : Int) = q := (kpK_at hi1).trans hq
 have hst := kpG_step (xs := xs) (G := G) hi1
 cases hG : G (i : Int) with
 | true =>
  have hGs : kpG xs G i (i : Int) = true := kpG_self.trans hG
  refine Z0l (R := Ext) (w0 := w19) [[], [0], [0, 1], [0, 1, 2], [], [], [5], [5, 6], [5, 6, 7], [], [5, 6, 7, 8, 9], [5, 6, 7, 8, 9, 10], [5, 6, 7, 8, 9, 10, 11], [5, 6, 7, 8, 9, 10, 11, 12], [5, 6, 7, 8, 9, 10, 11, 12, 13], [5, 6, 7, 8, 9, 10, 11, 12, 13, 14], [5, 6, 7, 8, 9, 10, 11, 12, 13, 14, 15], [5, 6, 7, 8, 9, 10, 11, 12], [5, 6, 7, 8, 9, 10, 11, 12, 13, 14, 15, 16, 17], [5, 6, 7, 8, 9, 10, 11, 12, 13, 14, 15, 16, 17, 18], [5, 6, 7, 8, 9, 10, 11, 12, 13, 14, 15, 16, 17, 18, 19], [5, 6, 7, 8, 9, 10, 11, 12, 13, 14, 15, 16, 17, 18, 19, 20], rg 22, rg 23] [22, 23, 24, 25, 26, 27, 28, 29, 30, 31, 32, 33, 34, 35, 36, 37, 38, 39, 40, 41, 42, 43, 44] Ext.refl (fun _ _ _ => Ext.trans) (Ext.drew _) (by kernel_rfl) ?_
  refine bd 22 k rfl rfl rfl (fun ax wx hE hR hF => Z02 rfl (hE.g e0)) ?_
  refine bd 23 k rfl rfl rfl (fun ax wx hE hR hF => have e22 := zhF hF 0 22 ml0; Z0d rfl e22) ?_
  apply bd 24 k rfl rfl rfl; case h =>
   intro ax wx hE hR hF; have e23 := zhF hF 1 23 ml0; simp [go_sem, ↓IntWalk.iteOmega, ev e23]
   with_reducible rfl
  refine bd 25 k rfl rfl rfl (fun ax wx hE hR hF => have e24 := zhF hF 2 24 ml0; Z0a (OwnT.ext O hR) 0 rfl rfl e24 rfl Tryz.underlying59 rfl) ?_
  refine bd 26 k rfl rfl rfl (fun ax wx hE hR hF => Z02 rfl (hE.g e4)) ?_
  refine bd 27 k rfl rfl rfl (fun ax wx hE hR hF => Z02 rfl (hE.g e0)) ?_
  refine bd 28 k rfl rfl rfl (fun ax wx hE hR hF => have e27 := zhF hF 5 27 ml0; Z0d rfl e27) ?_
  apply bd 29 k rfl rfl rfl; case h =>
   intro ax wx hE hR hF; have e28 := zhF hF 6 28 ml0; simp [go_sem, ↓IntWalk.iteOmega, ev e28]
   with_reducible rfl
  refine bd 30 k rfl rfl rfl (fun ax wx hE hR hF => have e29 := zhF hF 7 29 ml0; Z0a (OwnT.ext O hR) 0 rfl rfl e29 rfl Tryz.underlying59 rfl) ?_
  refine bd 31 k rfl rfl rfl (fun ax wx hE hR hF => Z02 rfl (hE.g e4)) ?_
  apply bd 32 k rfl rfl rfl; case h =>
   intro ax wx hE hR hF; have e30 := zhF hF 8 30 ml1; have e31 := zhF hF 9 31 ml0; simp [go_sem, ↓IntWalk.iteOmega, ev e30, ev e31]
   with_reducible rfl
  apply bd 33 k rfl rfl rfl; case h =>
   intro ax wx hE hR hF; have e32 := zhF hF 10 32 ml0; have d0 := Z0u (OwnT.blk (OwnT.ext O hR) 2 rfl) hlt
   simp [go_sem, ↓IntWalk.iteOmega, ev e32, d0, hGs]
   with_reducible rfl
  refine bd 34 k rfl rfl rfl (fun ax wx hE hR hF => have e33 := zhF hF 11 33 ml0; Z02 rfl e33) ?_
  refine bdg 35 k rfl rfl rfl rfl (fun ax wx hE hR hF => have e34 := zhF hF 12 34 ml0; ⟨e34, Z02 rfl (hE.g e0)⟩) ?_
  refine bdg 36 k rfl rfl rfl rfl (fun ax wx hE hR hF => have e35 := zhF hF 13 35 ml0; have e34 := zhF hF 12 34 ml1; ⟨e34, Z0d rfl e35⟩) ?_
  apply bdg 37 k rfl rfl rfl rfl; case h =>
   intro ax wx hE hR hF; have e36 := zhF hF 14 36 ml0; have e34 := zhF hF 12 34 ml2; refine ⟨e34, ?_⟩; simp [go_sem, ↓IntWalk.iteOmega, ev e36]
   with_reducible rfl
  refine bdg 38 k rfl rfl rfl rfl (fun ax wx hE hR hF => have e37 := zhF hF 15 37 ml0; have e34 := zhF hF 12 34 ml3; ⟨e34, Z0a (OwnT.ext O hR) 0 rfl rfl e37 rfl Tryz.underlying59 rfl⟩) ?_
  refine bdg 39 k rfl rfl rfl rfl (fun ax wx hE hR hF => have e34 := zhF hF 12 34 ml4; ⟨e34, Z02 rfl (hE.g e4)⟩) ?_
  apply bdg 40 k rfl rfl rfl rfl; case h =>
   intro ax wx hE hR hF; have e38 := zhF hF 16 38 ml1; have e39 := zhF hF 17 39 ml0; have e34 := zhF hF 12 34 ml5; refine ⟨e34, ?_⟩; simp [go_sem, ↓IntWalk.iteOmega, ev e38, ev e39]
   with_reducible rfl
  apply bdg 41 k rfl rfl rfl rfl; case h =>
   intro ax wx hE hR hF; have e40 := zhF hF 18 40 ml0; have e34 := zhF hF 12 34 ml6; refine ⟨e34, ?_⟩; have d0 := Z0u (OwnT.blk (OwnT.ext O hR) 1 rfl) hlt
   simp [go_sem, ↓IntWalk.iteOmega, ev e40, d0, hKs]
   with_reducible rfl
  refine bdg 42 k rfl rfl rfl rfl (fun ax wx hE hR hF => have e41 := zhF hF 19 41 ml0; have e34 := zhF hF 12 34 ml7; ⟨e34, Z15 rfl e41⟩) ?_
  refine bd 43 k rfl rfl rfl (fun ax wx hE hR hF => have e34 := zhF hF 12 34 ml8; have e42 := zhF hF 20 42 ml0; Z0b rfl e34 e42) ?_
  apply bd 44 k rfl rfl rfl; case h =>
   intro ax wx hE hR hF; have e25 := zhF hF 3 25 ml18; have e26 := zhF hF 4 26 ml17; simp [go_sem, ↓IntWalk.iteOmega, ev e25, ev e26]
   with_reducible rfl
  apply Build.stop
  refine ⟨by kernel_rfl, .inr ⟨by kernel_rfl, _, rfl, rfl, ?_⟩⟩
  intro a20 w21 hE R hF; have e43 : a20.eval (.tmp 43) = _ := hF 21 (det 43 _) ml1
  have e44 : a20.eval (.tmp 44) = _ := hF 22 (det 44 _) ml0
  clear hF; replace O := OwnT.ext O R; clear R; have hc := Z0u (OwnT.blk O 2 rfl) hlt
  have hfz : w21.frozen? ⟨g2, i, none⟩ = false := (OwnT.blk O 2 rfl).frozen i
  refine Z1u (w' := w21.setCell ⟨g2, i, none⟩ (.bool ((!q)))) rfl (by simp [go_sem, ↓IntWalk.iteOmega, ev e44, ev e43, hc, hfz]) ?_
  replace O := OwnT.push (L := [_, _, _, _] ++ R) 2 rfl ((OwnT.pull O 2 rfl).set i (.bool ((!q))))
  clear hc hfz; generalize (w21.setCell ⟨g2, i, none⟩ (.bool ((!q)))) = w22 at O ⊢
  rw [Z2p] at O
  rw [show putB (kpG xs G i) (i : Nat) (!q) = kpG xs G (i + 1) by rw [← hst, hG, hq]; simp] at O
  replace e0 := hE.g e0; replace e1 := hE.g e1; replace e4 := hE.g e4; replace k := k.env hE; clear hE e43 e44; refine Z0f ?_; refine Z00 ?_; refine wp_region_lit ?_
  have hE := Env.refl a20 [11, 12, 4]; refine sd 11 hE k (Z02 rfl e4) ?_; intro a23 hE e11 kp; replace e4 := kt kp e4; refine sd 12 hE k (Z1i rfl e11 rfl (by omega)) ?_; intro a24 hE e12 kp; replace e4 := kt kp e4; replace e12 := e12.trans (Z10 (show (i : Int) + 1 = ((i + 1 : Nat) : Int) by omega))
  refine sd 4 hE k (Z01 rfl e12) ?_; intro a25 hE e4 kp; refine wpList_nil ?_; replace e0 := hE.g e0; replace e1 := hE.g e1; replace k := k.env hE; clear hE; refine Z00 ?_; refine ⟨⟨k, e0, e1, i + 1, e4, by omega, by omega, O⟩, ?_⟩
  rw [e4, mi]; simp only [intOf]; omega
 | false =>
  have hGs : kpG xs G i (i : Int) = false := kpG_self.trans hG
  refine Z0l (R := Ext) (w0 := w19) [[], [0], [0, 1], [0, 1, 2], [], [], [5], [5, 6], [5, 6, 7], [], [5, 6, 7, 8, 9], [5, 6, 7, 8, 9, 10], [5, 6, 7, 8, 9, 10, 11], [5, 6, 7, 8, 9, 10, 11, 12], [5, 6, 7, 8, 9, 10, 11, 12, 13], [5, 6, 7, 8, 9, 10, 11, 12, 13, 14], [5, 6, 7, 8, 9, 10, 11, 12, 13, 14, 15], [5, 6, 7, 8, 9, 10, 11, 12], [5, 6, 7, 8, 9, 10, 11, 12, 13, 14, 15, 16, 17], [5, 6, 7, 8, 9, 10, 11, 12, 13, 14, 15, 16, 17, 18], [5, 6, 7, 8, 9, 10, 11, 12, 13, 14, 15, 16, 17, 18, 19], [5, 6, 7, 8, 9, 10, 11, 12, 13, 14, 15, 16, 17, 18, 19, 20], rg 22, rg 23] [22, 23, 24, 25, 26, 27, 28, 29, 30, 31, 32, 33, 34, 35, 36, 37, 38, 39, 40, 41, 42, 43, 44] Ext.refl (fun _ _ _ => Ext.trans) (Ext.drew _) (by kernel_rfl) ?_
  refine bd 22 k rfl rfl rfl (fun ax wx hE hR hF => Z02 rfl (hE.g e0)) ?_
  refine bd 23 k rfl rfl rfl (fun ax wx hE hR hF => have e22 := zhF hF 0 22 ml0; Z0d rfl e22) ?_
  apply bd 24 k rfl rfl rfl; case h =>
   intro ax wx hE hR hF; have e23 := zhF hF 1 23 ml0; simp [go_sem, ↓IntWalk.iteOmega, ev e23]
   with_reducible rfl
  refine bd 25 k rfl rfl rfl (fun ax wx hE hR hF => have e24 := zhF hF 2 24 ml0; Z0a (OwnT.ext O hR) 0 rfl rfl e24 rfl Tryz.underlying59 rfl) ?_
  refine bd 26 k rfl rfl rfl (fun ax wx hE hR hF => Z02 rfl (hE.g e4)) ?_
  refine bd 27 k rfl rfl rfl (fun ax wx hE hR hF => Z02 rfl (hE.g e0)) ?_
  refine bd 28 k rfl rfl rfl (fun ax wx hE hR hF => have e27 := zhF hF 5 27 ml0; Z0d rfl e27) ?_
  apply bd 29 k rfl rfl rfl; case h =>
   intro ax wx hE hR hF; have e28 := zhF hF 6 28 ml0; simp [go_sem, ↓IntWalk.iteOmega, ev e28]
   with_reducible rfl
  refine bd 30 k rfl rfl rfl (fun ax wx hE hR hF => have e29 := zhF hF 7 29 ml0; Z0a (OwnT.ext O hR) 0 rfl rfl e29 rfl Tryz.underlying59 rfl) ?_
  refine bd 31 k rfl rfl rfl (fun ax wx hE hR hF => Z02 rfl (hE.g e4)) ?_
  apply bd 32 k rfl rfl rfl; case h =>
   intro ax wx hE hR hF; have e30 := zhF hF 8 30 ml1; have e31 := zhF hF 9 31 ml0; simp [go_sem, ↓IntWalk.iteOmega, ev e30, ev e31]
   with_reducible rfl
  apply bd 33 k rfl rfl rfl; case h =>
   intro ax wx hE hR hF; have e32 := zhF hF 10 32 ml0; have d0 := Z0u (OwnT.blk (OwnT.ext O hR) 2 rfl) hlt
   simp [go_sem, ↓IntWalk.iteOmega, ev e32, d0, hGs]
   with_reducible rfl
  refine bd 34 k rfl rfl rfl (fun ax wx hE hR hF => have e33 := zhF hF 11 33 ml0; Z02 rfl e33) ?_
  refine bsk 35 k rfl rfl rfl rfl (fun hF => zhF hF 12 34 ml0) ?_
  refine bsk 36 k rfl rfl rfl rfl (fun hF => zhF hF 12 34 ml1) ?_
  refine bsk 37 k rfl rfl rfl rfl (fun hF => zhF hF 12 34 ml2) ?_
  refine bsk 38 k rfl rfl rfl rfl (fun hF => zhF hF 12 34 ml3) ?_
  refine bsk 39 k rfl rfl rfl rfl (fun hF => zhF hF 12 34 ml4) ?_
  refine bsk 40 k rfl rfl rfl rfl (fun hF => zhF hF 12 34 ml5) ?_
  refine bsk 41 k rfl rfl rfl rfl (fun hF => zhF hF 12 34 ml6) ?_
  refine bsk 42 k rfl rfl rfl rfl (fun hF => zhF hF 12 34 ml7) ?_
  refine bd 43 k rfl rfl rfl (fun ax wx hE hR hF => have e34 := zhF hF 12 34 ml8; have e42 := zhF hF 20 42 ml0; Z09 rfl e34 rfl) ?_
  apply bd 44 k rfl rfl rfl; case h =>
   intro ax wx hE hR hF; have e25 := zhF hF 3 25 ml18; have e26 := zhF hF 4 26 ml17; simp [go_sem, ↓IntWalk.iteOmega, ev e25, ev e26]
   with_reducible rfl
  apply Build.stop
  refine ⟨by kernel_rfl, .inr ⟨by kernel_rfl, _, rfl, rfl, ?_⟩⟩
  intro a26 w27 hE R hF; have e43 : a26.eval (.tmp 43) = _ := hF 21 (det 43 _) ml1
  have e44 : a26.eval (.tmp 44) = _ := hF 22 (det 44 _) ml0
  clear hF; replace O := OwnT.ext O R; clear R; have hc := Z0u (OwnT.blk O 2 rfl) hlt
  have hfz : w27.frozen? ⟨g2, i, none⟩ = false := (OwnT.blk O 2 rfl).frozen i
  refine Z1u (w' := w27.setCell ⟨g2, i, none⟩ (.bool false)) rfl (by simp [go_sem, ↓IntWalk.iteOmega, ev e44, ev e43, hc, hfz]) ?_
  replace O := OwnT.push (L := [_, _, _, _] ++ R) 2 rfl ((OwnT.pull O 2 rfl).set i (.bool false))
  clear hc hfz; generalize (w27.setCell ⟨g2, i, none⟩ (.bool false)) = w28 at O ⊢
  rw [Z2p] at O
  rw [show putB (kpG xs G i) (i : Nat) false = kpG xs G (i + 1) by rw [← hst, hG]; simp] at O
  replace e0 := hE.g e0; replace e1 := hE.g e1; replace e4 := hE.g e4; replace k := k.env hE; clear hE e43 e44; refine Z0f ?_; refine Z00 ?_; refine wp_region_lit ?_
  have hE := Env.refl a26 [11, 12, 4]; refine sd 11 hE k (Z02 rfl e4) ?_; intro a29 hE e11 kp; replace e4 := kt kp e4; refine sd 12 hE k (Z1i rfl e11 rfl (by omega)) ?_; intro a30 hE e12 kp; replace e4 := kt kp e4; replace e12 := e12.trans (Z10 (show (i : Int) + 1 = ((i + 1 : Nat) : Int) by omega))
  refine sd 4 hE k (Z01 rfl e12) ?_; intro a31 hE e4 kp; refine wpList_nil ?_; replace e0 := hE.g e0; replace e1 := hE.g e1; replace k := k.env hE; clear hE; refine Z00 ?_; refine ⟨⟨k, e0, e1, i + 1, e4, by omega, by omega, O⟩, ?_⟩
  rw [e4, mi]; simp only [intOf]; omega
set_option maxRecDepth 100000 in
set_option maxHeartbeats 8000000 in
theorem Z88 {H : Nat} {A0 : World} {R : List Thing} {ub P g1 g2 g3 : Nat} {h : Hd} {K G : Int → Bool} {T : Int → Value} {A : Option Addr} {ca : Nat} {xs : List Int} (h2 : Hd) (w : World) (O : OwnT H A0 (usL ub P g1 g2 g3 h K G T R) w) (hrow : ∀ W, OwnT H A0 R W → Row1 W A (Value.int .i64) xs) (hn : xs.length ≤ 1000000) (hP : 1 ≤ P ∧ P ≤ 512) : Calls Tryz.prog 20 #[.pointer (some ⟨ub, 0, none⟩), h2.v, .slice A xs.length ca] w fun e w' => e = .returned (.tuple #[]) ∧ OwnT H A0 (usL ub P g1 g2 g3 h2 (kpK xs K P) (cmG G P) T R) w' := by
 refine Z0c Tryz.func20 rfl 34 rfl (by rfl) ?_
 intro a1 k hargs; have e0 : a1.eval (.tmp 0) = .pointer (some ⟨ub, 0, none⟩) := hargs 0 _ rfl
 have e1 : a1.eval (.tmp 1) = .agg #[.int .u64 h2.g, .int .i64 h2.r, .int .i64 h2.a, .int .i64 h2.b, .int .i64 h2.c] := hargs 1 _ rfl
 have e2 : a1.eval (.tmp 2) = .slice A xs.length ca := hargs 2 _ rfl
 clear hargs; rw [← kpK_one (xs := xs) (K := K), ← cmG_one (G := G)] at O
 refine wp_seq ?_; refine wp_region_lit ?_
 have hE := Env.refl a1 [4]; refine Z0v O (cs := #[.int .u64 h2.g, .int .i64 h2.r, .int .i64 h2.a, .int .i64 h2.b, .int .i64 h2.c]) (t := 39) 4 hE k rfl (by rfl) (by rfl) rfl (by simp [go_sem, ↓IntWalk.iteOmega, ev (hE.g e1)]) ?_
 clear O; intro hb a2 w3 O hE e4 kp; refine wpList_nil ?_; replace e0 := hE.g e0; replace e2 := hE.g e2; replace k := k.env hE; clear hE e1; refine Z00 (wp_seq ?_); refine wp_region_lit ?_
 have hE := Env.refl a2 [7, 8, 9, 10]; refine zm 7 hE k e0 ?_; intro a4 hE e7 kp; refine sd 8 hE k (Z1n O 0 rfl rfl (hE.g e4) [.int .u64 h2.g, .int .i64 h2.r, .int .i64 h2.a, .int .i64 h2.b, .int .i64 h2.c] rfl Tryz.underlying39 rfl (by kernel_rfl)) ?_; intro a5 hE e8 kp; replace e7 := kt kp e7; refine sd 9 hE k (Z0d rfl e7) ?_; intro a6 hE e9 kp; replace e8 := kt kp e8; apply Z03 10 hE k rfl rfl rfl rfl; case h =>
  simp [go_sem, ↓IntWalk.iteOmega, ev e9]
  with_reducible rfl
 intro a7 hE e10 kp; replace e8 := kt kp e8; refine Z1b O 1 4 hE e10 e8 ?_
 clear O; intro w8 O; replace O : OwnT _ _ (_ :: (tBlk ub 62 #[.int .i64 ↑P, .slice (some ⟨g1, 0, none⟩) P P, .slice (some ⟨g2, 0, none⟩) P P, .slice (some ⟨g3, 0, none⟩) P P, .int .u64 h2.g, .int .i64 h2.r, .int .i64 h2.a, .int .i64 h2.b, .int .i64 h2.c]) :: _) w8 := O
 refine wpList_nil ?_; replace e0 := hE.g e0; replace e2 := hE.g e2; replace k := k.env hE; clear hE e4 e8 e10; refine Z00 ?_; replace O : OwnT _ _ ((tBlk ub 62 #[.int .i64 ↑P, .slice (some ⟨g1, 0, none⟩) P P, .slice (some ⟨g2, 0, none⟩) P P, .slice (some ⟨g3, 0, none⟩) P P, .int .u64 h2.g, .int .i64 h2.r, .int .i64 h2.a, .int .i64 h2.b, .int .i64 h2.c]) :: (tBlk g1 4 (boA P (kpK xs K 1))) :: (tBlk g2 4 (boA P (cmG G 1))) :: (tBlk g3 47 (ndA P T)) :: R) w8 := OwnT.pickR (L := [_, _, _, _, _]) (R := R) O [1, 2, 3, 4] (by decide)
 refine wp_seq ?_; refine wp_region_lit ?_
 have hE := Env.refl a7 [6]; refine sd 6 hE k (Z01 rfl rfl) ?_; intro a9 hE e6 kp; refine wpList_nil ?_; replace e0 := hE.g e0; replace e2 := hE.g e2; replace k := k.env hE; clear hE; refine Z00 ?_; refine wp_block ?_; refine wp_loop (fun a w => Fr 34 a ∧ a.eval (.tmp 0) = .pointer (some ⟨ub, 0, none⟩) ∧ a.eval (.tmp 2) = .slice A xs.length ca ∧ ∃ (i : Nat), a.eval (.tmp 6) = .int .i64 ↑i ∧ 1 ≤ i ∧ i ≤ P ∧ OwnT H A0 ((tBlk ub 62 #[.int .i64 ↑P, .slice (some ⟨g1, 0, none⟩) P P, .slice (some ⟨g2, 0, none⟩) P P, .slice (some ⟨g3, 0, none⟩) P P, .int .u64 h2.g, .int .i64 h2.r, .int .i64 h2.a, .int .i64 h2.b, .int .i64 h2.c]) :: (tBlk g1 4 (boA P (kpK xs K i))) :: (tBlk g2 4 (boA P (cmG G i))) :: (tBlk g3 47 (ndA P T)) :: R) w) (fun a w => P - (intOf (a.eval (.tmp 6))).toNat) ?_ ?_
 · exact ⟨k, e0, e2, 1, e6, Nat.le_refl _, hP.1, O⟩
 intro a10 w11 hI; clear k e0 e2; obtain ⟨k, e0, e2, h_⟩ := hI
 clear O e6; obtain ⟨i, e6, hi1, hi, O⟩ := h_
 have mi := e6
 by_cases hlt : i < P
 rotate_left
 · obtain rfl : i = P := by omega
   refine wp_seq ?_; refine wp_seq ?_; refine wp_region_lit ?_
   have hE := Env.refl a10 [11, 12, 13, 14, 15, 16]; refine zm 11 hE k e6 ?_; intro a12 hE e11 kp; refine zm 12 hE k e0 ?_; intro a13 hE e12 kp; replace e11 := kt kp e11; refine sd 13 hE k (Z0d rfl e12) ?_; intro a14 hE e13 kp; replace e11 := kt kp e11; apply Z03 14 hE k rfl rfl rfl rfl; case h =>
    simp [go_sem, ↓IntWalk.iteOmega, ev e13]
    with_reducible rfl
   intro a15 hE e14 kp; replace e11 := kt kp e11; refine sd 15 hE k (Z0a O 0 rfl rfl e14 rfl Tryz.underlying3 rfl) ?_; intro a16 hE e15 kp; replace e11 := kt kp e11; refine sd 16 hE k (Z08 (Z0z rfl e11 e15) (decide_eq_false (by omega))) ?_
   intro a17 hE e16 kp; refine wpList_nil ?_; replace e0 := hE.g e0; replace e2 := hE.g e2; replace e6 := hE.g e6; replace k := k.env hE; clear hE; refine Z00 ?_; refine Z07 e16 rfl ?_
   refine wp_exit ?_
   refine Z0p ?_
   refine Z0p ?_
   refine Z11 ?_
   refine Z6b rfl k ?_
   exact ⟨rfl, O⟩
 obtain ⟨q, hq⟩ : ∃ q, decide ((i : Int) ∈ xs) = q := ⟨_, rfl⟩
 refine wp_seq ?_; refine wp_seq ?_; refine wp_region_lit ?_
 have hE := Env.refl a10 [11, 12, 13, 14, 15, 16]; refine zm 11 hE k e6 ?_; intro a18 hE e11 kp; refine zm 12 hE k e0 ?_; intro a19 hE e12 kp; replace e11 := kt kp e11; refine sd 13 hE k (Z0d rfl e12) ?_; intro a20 hE e13 kp; replace e11 := kt kp e11; apply Z03 14 hE k rfl rfl rfl rfl; case h =>
  simp [go_sem, ↓IntWalk.iteOmega, ev e13]
  with_reducible rfl
 intro a21 hE e14 kp; replace e11 := kt kp e11; refine sd 15 hE k (Z0a O 0 rfl rfl e14 rfl Tryz.underlying3 rfl) ?_; intro a22 hE e15 kp; replace e11 := kt kp e11; refine sd 16 hE k (Z08 (Z0z rfl e11 e15) (decide_eq_true (by omega))) ?_
 intro a23 hE e16 kp; refine wpList_nil ?_; replace e0 := hE.g e0; replace e2 := hE.g e2; replace e6 := hE.g e6; replace k := k.env hE; clear hE; refine Z00 ?_; refine Z0h e16 rfl ?_
 refine wp_skip ?_; refine Z00 (wp_seq ?_); refine wp_block ?_; refine wp_seq ?_; refine Z0l (R := Ext) (w0 := w11) [[], [0], [0, 1], [0, 1, 2], [], [], [], [5, 6], rg 8, rg 9] [19, 20, 21, 22, 23, 24, 25, 26, 27] Ext.refl (fun _ _ _ => Ext.trans) (Ext.drew _) (by kernel_rfl) ?_
 refine bd 19 k rfl rfl rfl (fun ax wx hE hR hF => Z02 rfl (hE.g e0)) ?_
 refine bd 20 k rfl rfl rfl (fun ax wx hE hR hF => have e19 := zhF hF 0 19 ml0; Z0d rfl e19) ?_
 apply bd 21 k rfl rfl rfl; case h =>
  intro ax wx hE hR hF; have e20 := zhF hF 1 20 ml0; simp [go_sem, ↓IntWalk.iteOmega, ev e20]
  with_reducible rfl
 refine bd 22 k rfl rfl rfl (fun ax wx hE hR hF => have e21 := zhF hF 2 21 ml0; Z0a (OwnT.ext O hR) 0 rfl rfl e21 rfl Tryz.underlying59 rfl) ?_
 refine bd 23 k rfl rfl rfl (fun ax wx hE hR hF => Z02 rfl (hE.g e6)) ?_
 refine bd 24 k rfl rfl rfl (fun ax wx hE hR hF => Z02 rfl (hE.g e2)) ?_
 refine bd 25 k rfl rfl rfl (fun ax wx hE hR hF => Z02 rfl (hE.g e6)) ?_
 apply Build.call 26 Ext.refl (by rfl) (by rw [k.size]; rfl) rfl
 case h =>
  intro ax wx hE hR hF; have e24 := zhF hF 5 24 ml1; have e25 := zhF hF 6 25 ml0; simp [go_sem, ↓IntWalk.iteOmega, ev e24, ev e25]
  with_reducible exact ⟨rfl, rfl⟩
 case hc => intro wx hR; exact (show Calls _ _ _ _ (fun e w' => e = .returned (.bool q) ∧ Ext wx w') from (Z54 ↑i wx (hrow wx (OwnT.pickR (L := [_, _, _, _]) (R := R) (OwnT.ext O hR) [] (by decide))) hn).mono (fun e w' h => ⟨h.1.trans (congrArg (fun b => Ending.returned (.bool b)) hq), h.2⟩))
 apply bd 27 k rfl rfl rfl; case h =>
  intro ax wx hE hR hF; have e22 := zhF hF 3 22 ml4; have e23 := zhF hF 4 23 ml3; simp [go_sem, ↓IntWalk.iteOmega, ev e22, ev e23]
  with_reducible rfl
 apply Build.stop
 refine ⟨by kernel_rfl, .inr ⟨by kernel_rfl, _, rfl, rfl, ?_⟩⟩
 intro a24 w25 hE R hF; have e26 : a24.eval (.tmp 26) = _ := hF 7 (det 26 _) ml1
 have e27 : a24.eval (.tmp 27) = _ := hF 8 (det 27 _) ml0
 clear hF; replace O := OwnT.ext O R; clear R; have hc := Z0u (OwnT.blk O 1 rfl) hlt
 have hfz : w25.frozen? ⟨g1, i, none⟩ = false := (OwnT.blk O 1 rfl).frozen i
 refine Z1u (w' := w25.setCell ⟨g1, i, none⟩ (.bool q)) rfl (by simp [go_sem, ↓IntWalk.iteOmega, ev e27, ev e26, hc, hfz]) ?_
 replace O := OwnT.push (L := [_, _, _, _] ++ R) 1 rfl ((OwnT.pull O 1 rfl).set i (.bool q))
 clear hc hfz; generalize (w25.setCell ⟨g1, i, none⟩ (.bool q)) = w26 at O ⊢
 rw [Z2p] at O
 rw [← hq, kpK_step hi1] at O
 replace e0 := hE.g e0; replace e2 := hE.g e2; replace e6 := hE.g e6; replace k := k.env hE; clear hE e16 e26 e27; refine Z00 ?_; have hc := Z0u (OwnT.blk O 2 rfl) hlt
 have hfz : w26.frozen? ⟨g2, i, none⟩ = false := (OwnT.blk O 2 rfl).frozen i
 refine wp_region_lit ?_
 have hE := Env.refl a24 [28, 29, 30, 31, 32, 33]; refine zm 28 hE k e0 ?_; intro a27 hE e28 kp; refine sd 29 hE k (Z0d rfl e28) ?_; intro a28 hE e29 kp; apply Z03 30 hE k rfl rfl rfl rfl; case h =>
  simp [go_sem, ↓IntWalk.iteOmega, ev e29]
  with_reducible rfl
 intro a29 hE e30 kp; refine sd 31 hE k (Z0a O 0 rfl rfl e30 rfl Tryz.underlying59 rfl) ?_; intro a30 hE e31 kp; refine zm 32 hE k e6 ?_; intro a31 hE e32 kp; replace e31 := kt kp e31; apply Z03 33 hE k rfl rfl rfl rfl; case h =>
  simp [go_sem, ↓IntWalk.iteOmega, ev e31, ev e32]
  with_reducible rfl
 intro a32 hE e33 kp; refine Z2c (w' := (w26.setCell ⟨g2, i, none⟩ (.bool false))) hE rfl rfl ?_ ?_
 · simp [go_sem, ↓IntWalk.iteOmega, ev e33, hc, hfz]
 replace O := OwnT.push (L := [_, _, _, _] ++ R) 2 rfl ((OwnT.pull O 2 rfl).set i (.bool false))
 rw [Z2p, cmG_step hi1] at O
 clear hc hfz; generalize (w26.setCell ⟨g2, i, none⟩ (.bool false)) = w33 at O ⊢
 refine wpList_nil ?_; replace e0 := hE.g e0; replace e2 := hE.g e2; replace e6 := hE.g e6; replace k := k.env hE; clear hE e33; refine Z0f ?_; refine Z00 ?_; refine wp_region_lit ?_
 have hE := Env.refl a32 [17, 18, 6]; refine sd 17 hE k (Z02 rfl e6) ?_; intro a34 hE e17 kp; replace e6 := kt kp e6; refine sd 18 hE k (Z1i rfl e17 rfl (by omega)) ?_; intro a35 hE e18 kp; replace e6 := kt kp e6; replace e18 := e18.trans (Z10 (show (i : Int) + 1 = ((i + 1 : Nat) : Int) by omega))
 refine sd 6 hE k (Z01 rfl e18) ?_; intro a36 hE e6 kp; refine wpList_nil ?_; replace e0 := hE.g e0; replace e2 := hE.g e2; replace k := k.env hE; clear hE; refine Z00 ?_; refine ⟨⟨k, e0, e2, i + 1, e6, by omega, by omega, O⟩, ?_⟩
 rw [e6, mi]; simp only [intOf]; omega
set_option maxRecDepth 100000 in
set_option maxHeartbeats 8000000 in
theorem ucount_any {H : Nat} {A0 : World} {R : List Thing} {ub P g1 g2 g3 : Nat} {h : Hd} {K : Int → Bool} {T : Int → Value} {F : Int → Option Nd} (w : World) (O : OwnT H A0 (usL ub P g1 g2 g3 h K (isF F) T R) w) (hP : 1 ≤ P ∧ P ≤ 512) (hKF : Apart7 K F) : Calls Tryz.prog 25 #[.pointer (some ⟨ub, 0, none⟩)] w fun e w' => e = .returned (.tuple #[.int .i64 ((freeL P K F).length : Nat), .int .i64 ((fL P F).length : Nat)]) ∧ OwnT H A0 (usL ub P g1 g2 g3 h K (isF F) T R) w' := by
 refine Z0c Tryz.func25 rfl 36 rfl (by rfl) ?_
 intro a1 k hargs; have e0 : a1.eval (.tmp 0) = .pointer (some ⟨ub, 0, none⟩) := hargs 0 _ rfl
 clear hargs; have hone : (freeL 1 K F).length = 0 ∧ (fL 1 F).length = 0 := by
  constructor; (unfold freeL; rw [Z17]; simp [riseN]); (unfold fL; rw [Z17]; simp [riseN, hKF.f0])
 refine wp_seq ?_; refine wp_region_lit ?_
 have hE := Env.refl a1 [2, 3]; refine sd 2 hE k (Z01 rfl rfl) ?_; intro a2 hE e2 kp; refine sd 3 hE k (Z01 rfl rfl) ?_; intro a3 hE e3 kp; refine wpList_nil ?_; replace e0 := hE.g e0; replace k := k.env hE; clear hE e3; refine Z00 (wp_seq ?_); refine wp_region_lit ?_
 have hE := Env.refl a3 [4]; refine sd 4 hE k (Z01 rfl rfl) ?_; intro a4 hE e4 kp; refine wpList_nil ?_; replace e0 := hE.g e0; replace k := k.env hE; clear hE; refine Z00 (wp_seq ?_); refine wp_region_lit ?_
 have hE := Env.refl a4 [5]; refine sd 5 hE k (Z01 rfl rfl) ?_; intro a5 hE e5 kp; refine wpList_nil ?_; replace e0 := hE.g e0; replace e4 := hE.g e4; replace k := k.env hE; clear hE; refine Z00 (wp_seq ?_); refine wp_seq ?_; refine wp_region_lit ?_
 have hE := Env.refl a5 [6]; refine sd 6 hE k (Z01 rfl rfl) ?_; intro a6 hE e6 kp; refine wpList_nil ?_; replace e0 := hE.g e0; replace e4 := hE.g e4; replace e5 := hE.g e5; replace k := k.env hE; clear hE; refine Z00 ?_; refine wp_block ?_; refine wp_loop (fun a w => Fr 36 a ∧ a.eval (.tmp 0) = .pointer (some ⟨ub, 0, none⟩) ∧ ∃ (i u v : Nat), a.eval (.tmp 4) = .int .i64 ↑u ∧ a.eval (.tmp 5) = .int .i64 ↑v ∧ a.eval (.tmp 6) = .int .i64 ↑i ∧ 1 ≤ i ∧ i ≤ P ∧ u = (freeL i K F).length ∧ v = (fL i F).length ∧ OwnT H A0 ((tBlk ub 62 #[.int .i64 ↑P, .slice (some ⟨g1, 0, none⟩) P P, .slice (some ⟨g2, 0, none⟩) P P, .slice (some ⟨g3, 0, none⟩) P P, .int .u64 h.g, .int .i64 h.r, .int .i64 h.a, .int .i64 h.b, .int .i64 h.c]) :: (tBlk g1 4 (boA P K)) :: (tBlk g2 4 (boA P (isF F))) :: (tBlk g3 47 (ndA P T)) :: R) w) (fun a w => P - (intOf (a.eval (.tmp 6))).toNat) ?_ ?_
 · exact ⟨k, e0, 1, 0, 0, e4, e5, e6, Nat.le_refl _, hP.1, hone.1.symm, hone.2.symm, O⟩
 intro a7 w8 hI; clear k e0; obtain ⟨k, e0, h_⟩ := hI
 clear O e4 e5 e6 hone; obtain ⟨i, u, v, e4, e5, e6, hi1, hi, hu, hv, O⟩ := h_
 have mi := e6
 have hfl : (freeL i K F).length ≤ i := Z38 _ _
 have hfl2 : (fL i F).length ≤ i := Z38 _ _

 by_cases hlt : i < P
 rotate_left
 · obtain rfl : i = P := by omega
   refine wp_seq ?_; refine wp_seq ?_; refine wp_region_lit ?_
   have hE := Env.refl a7 [7, 8, 9, 10, 11, 12]; refine zm 7 hE k e6 ?_; intro a9 hE e7 kp; refine zm 8 hE k e0 ?_; intro a10 hE e8 kp; replace e7 := kt kp e7; refine sd 9 hE k (Z0d rfl e8) ?_; intro a11 hE e9 kp; replace e7 := kt kp e7; apply Z03 10 hE k rfl rfl rfl rfl; case h =>
    simp [go_sem, ↓IntWalk.iteOmega, ev e9]
    with_reducible rfl
   intro a12 hE e10 kp; replace e7 := kt kp e7; refine sd 11 hE k (Z0a O 0 rfl rfl e10 rfl Tryz.underlying3 rfl) ?_; intro a13 hE e11 kp; replace e7 := kt kp e7; refine sd 12 hE k (Z08 (Z0z rfl e7 e11) (decide_eq_false (by omega))) ?_
   intro a14 hE e12 kp; refine wpList_nil ?_; replace e0 := hE.g e0; replace e4 := hE.g e4; replace e5 := hE.g e5; replace e6 := hE.g e6; replace k := k.env hE; clear hE; refine Z00 ?_; refine Z07 e12 rfl ?_
   refine wp_exit ?_
   refine Z0p ?_
   refine Z0p ?_
   refine Z11 ?_
   refine Z00 (wp_seq ?_); refine wp_region_lit ?_
   have hE := Env.refl a14 [34, 35, 2, 3]; refine zm 34 hE k e4 ?_; intro a15 hE e34 kp; refine zm 35 hE k e5 ?_; intro a16 hE e35 kp; replace e34 := kt kp e34; refine sd 2 hE k (Z01 rfl e34) ?_; intro a17 hE e2 kp; replace e35 := kt kp e35; refine sd 3 hE k (Z01 rfl e35) ?_; intro a18 hE e3 kp; replace e2 := kt kp e2; refine wpList_nil ?_; replace k := k.env hE; clear hE e0 e4 e5 e6 e12; refine Z00 ?_; refine wp_ret ?_
   refine Z32 rfl k e2 e3 ?_
   exact ⟨by rw [hu, hv], O⟩
 have h1 : (freeL (i + 1) K F).length = (freeL i K F).length + (if freeB K F (i : Nat) = true then 1 else 0) := by
  unfold freeL; rw [Z17, decide_eq_true (show (1 : Int) ≤ ((i : Nat) : Int) by omega), Bool.true_and]
 have h2 : (fL (i + 1) F).length = (fL i F).length + (if (F (i : Nat)).isSome = true then 1 else 0) := Z17 _ _
 unfold freeB at h1
 have d1 := Z0u (OwnT.blk O 1 rfl) hlt
 have d2 := Z0u (OwnT.blk O 2 rfl) hlt

 refine wp_seq ?_; refine wp_seq ?_; refine wp_region_lit ?_
 have hE := Env.refl a7 [7, 8, 9, 10, 11, 12]; refine zm 7 hE k e6 ?_; intro a19 hE e7 kp; refine zm 8 hE k e0 ?_; intro a20 hE e8 kp; replace e7 := kt kp e7; refine sd 9 hE k (Z0d rfl e8) ?_; intro a21 hE e9 kp; replace e7 := kt kp e7; apply Z03 10 hE k rfl rfl rfl rfl; case h =>
  simp [go_sem, ↓IntWalk.iteOmega, ev e9]
  with_reducible rfl
 intro a22 hE e10 kp; replace e7 := kt kp e7; refine sd 11 hE k (Z0a O 0 rfl rfl e10 rfl Tryz.underlying3 rfl) ?_; intro a23 hE e11 kp; replace e7 := kt kp e7; refine sd 12 hE k (Z08 (Z0z rfl e7 e11) (decide_eq_true (by omega))) ?_
 intro a24 hE e12 kp; refine wpList_nil ?_; replace e0 := hE.g e0; replace e4 := hE.g e4; replace e5 := hE.g e5; replace e6 := hE.g e6; replace k := k.env hE; clear hE; refine Z00 ?_; refine Z0h e12 rfl ?_
 refine wp_skip ?_; refine Z00 (wp_seq ?_); refine wp_block ?_; cases hG : (F (i : Nat)).isSome with
 | true =>
  have hGi : isF F ((i : Nat) : Int) = true := hG
  rw [hG] at h1 h2
  rw [hGi] at d2
  simp only [Bool.not_true, Bool.false_and, Bool.false_eq_true, if_false, if_true] at h1 h2
  refine wp_seq ?_; refine wp_region_lit ?_
  have hE := Env.refl a24 [15, 16, 17, 18, 19, 20, 21]; refine zm 15 hE k e0 ?_; intro a25 hE e15 kp; refine sd 16 hE k (Z0d rfl e15) ?_; intro a26 hE e16 kp; apply Z03 17 hE k rfl rfl rfl rfl; case h =>
   simp [go_sem, ↓IntWalk.iteOmega, ev e16]
   with_reducible rfl
  intro a27 hE e17 kp; refine sd 18 hE k (Z0a O 0 rfl rfl e17 rfl Tryz.underlying59 rfl) ?_; intro a28 hE e18 kp; refine zm 19 hE k e6 ?_; intro a29 hE e19 kp; replace e18 := kt kp e18; apply Z03 20 hE k rfl rfl rfl rfl; case h =>
   simp [go_sem, ↓IntWalk.iteOmega, ev e18, ev e19]
   with_reducible rfl
  intro a30 hE e20 kp; apply Z03 21 hE k rfl rfl rfl rfl; case h =>
   simp [go_sem, ↓IntWalk.iteOmega, ev e20, d2]
   with_reducible rfl
  intro a31 hE e21 kp; refine wpList_nil ?_; replace e0 := hE.g e0; replace e4 := hE.g e4; replace e5 := hE.g e5; replace e6 := hE.g e6; replace k := k.env hE; clear hE e12; refine Z00 ?_; refine Z0h e21 rfl ?_
  refine wp_region_lit ?_
  have hE := Env.refl a31 [22, 23, 5]; refine sd 22 hE k (Z02 rfl e5) ?_; intro a32 hE e22 kp; replace e5 := kt kp e5; refine sd 23 hE k (Z1i rfl e22 rfl (by omega)) ?_; intro a33 hE e23 kp; replace e5 := kt kp e5; replace e23 := e23.trans (Z10 (show (v : Int) + 1 = ((v + 1 : Nat) : Int) by omega))
  refine sd 5 hE k (Z01 rfl e23) ?_; intro a34 hE e5 kp; refine wpList_nil ?_; replace e0 := hE.g e0; replace e4 := hE.g e4; replace e6 := hE.g e6; replace k := k.env hE; clear hE e21; refine Z0f ?_; refine Z00 ?_; refine wp_region_lit ?_
  have hE := Env.refl a34 [13, 14, 6]; refine sd 13 hE k (Z02 rfl e6) ?_; intro a35 hE e13 kp; replace e6 := kt kp e6; refine sd 14 hE k (Z1i rfl e13 rfl (by omega)) ?_; intro a36 hE e14 kp; replace e6 := kt kp e6; replace e14 := e14.trans (Z10 (show (i : Int) + 1 = ((i + 1 : Nat) : Int) by omega))
  refine sd 6 hE k (Z01 rfl e14) ?_; intro a37 hE e6 kp; refine wpList_nil ?_; replace e0 := hE.g e0; replace e4 := hE.g e4; replace e5 := hE.g e5; replace k := k.env hE; clear hE; refine Z00 ?_; refine ⟨⟨k, e0, i + 1, u, v + 1, e4, e5, e6, by omega, by omega, by omega, by omega, O⟩, ?_⟩
  rw [e6, mi]; simp only [intOf]; omega
 | false =>
  have hGi : isF F ((i : Nat) : Int) = false := hG
  rw [hG] at h1 h2
  rw [hGi] at d2
  cases hK : K (i : Nat) with
  | true =>
   rw [hK] at h1 d1
   simp only [Bool.not_true, Bool.not_false, Bool.and_true, Bool.and_false, Bool.false_eq_true, if_false, if_true] at h1 h2
   refine wp_seq ?_; refine wp_region_lit ?_
   have hE := Env.refl a24 [15, 16, 17, 18, 19, 20, 21]; refine zm 15 hE k e0 ?_; intro a38 hE e15 kp; refine sd 16 hE k (Z0d rfl e15) ?_; intro a39 hE e16 kp; apply Z03 17 hE k rfl rfl rfl rfl; case h =>
    simp [go_sem, ↓IntWalk.iteOmega, ev e16]
    with_reducible rfl
   intro a40 hE e17 kp; refine sd 18 hE k (Z0a O 0 rfl rfl e17 rfl Tryz.underlying59 rfl) ?_; intro a41 hE e18 kp; refine zm 19 hE k e6 ?_; intro a42 hE e19 kp; replace e18 := kt kp e18; apply Z03 20 hE k rfl rfl rfl rfl; case h =>
    simp [go_sem, ↓IntWalk.iteOmega, ev e18, ev e19]
    with_reducible rfl
   intro a43 hE e20 kp; apply Z03 21 hE k rfl rfl rfl rfl; case h =>
    simp [go_sem, ↓IntWalk.iteOmega, ev e20, d2]
    with_reducible rfl
   intro a44 hE e21 kp; refine wpList_nil ?_; replace e0 := hE.g e0; replace e4 := hE.g e4; replace e5 := hE.g e5; replace e6 := hE.g e6; replace k := k.env hE; clear hE e12; refine Z00 ?_; refine Z07 e21 rfl ?_
   refine wp_seq ?_; refine wp_region_lit ?_
   have hE := Env.refl a44 [24, 25, 26, 27, 28, 29, 30, 31]; refine zm 24 hE k e0 ?_; intro a45 hE e24 kp; refine sd 25 hE k (Z0d rfl e24) ?_; intro a46 hE e25 kp; apply Z03 26 hE k rfl rfl rfl rfl; case h =>
    simp [go_sem, ↓IntWalk.iteOmega, ev e25]
    with_reducible rfl
   intro a47 hE e26 kp; refine sd 27 hE k (Z0a O 0 rfl rfl e26 rfl Tryz.underlying59 rfl) ?_; intro a48 hE e27 kp; refine zm 28 hE k e6 ?_; intro a49 hE e28 kp; replace e27 := kt kp e27; apply Z03 29 hE k rfl rfl rfl rfl; case h =>
    simp [go_sem, ↓IntWalk.iteOmega, ev e27, ev e28]
    with_reducible rfl
   intro a50 hE e29 kp; apply Z03 30 hE k rfl rfl rfl rfl; case h =>
    simp [go_sem, ↓IntWalk.iteOmega, ev e29, d1]
    with_reducible rfl
   intro a51 hE e30 kp; refine sd 31 hE k (Z15 rfl e30) ?_; intro a52 hE e31 kp; refine wpList_nil ?_; replace e0 := hE.g e0; replace e4 := hE.g e4; replace e5 := hE.g e5; replace e6 := hE.g e6; replace k := k.env hE; clear hE e21; refine Z00 ?_; refine Z07 e31 rfl ?_
   refine wp_skip ?_; refine Z0f ?_; refine Z00 ?_; refine wp_region_lit ?_
   have hE := Env.refl a52 [13, 14, 6]; refine sd 13 hE k (Z02 rfl e6) ?_; intro a53 hE e13 kp; replace e6 := kt kp e6; refine sd 14 hE k (Z1i rfl e13 rfl (by omega)) ?_; intro a54 hE e14 kp; replace e6 := kt kp e6; replace e14 := e14.trans (Z10 (show (i : Int) + 1 = ((i + 1 : Nat) : Int) by omega))
   refine sd 6 hE k (Z01 rfl e14) ?_; intro a55 hE e6 kp; refine wpList_nil ?_; replace e0 := hE.g e0; replace e4 := hE.g e4; replace e5 := hE.g e5; replace k := k.env hE; clear hE e31; refine Z00 ?_; refine ⟨⟨k, e0, i + 1, u, v, e4, e5, e6, by omega, by omega, by omega, by omega, O⟩, ?_⟩
   rw [e6, mi]; simp only [intOf]; omega
  | false =>
   rw [hK] at h1 d1
   simp only [Bool.not_true, Bool.not_false, Bool.and_true, Bool.and_false, Bool.false_eq_true, if_false, if_true] at h1 h2
   refine wp_seq ?_; refine wp_region_lit ?_
   have hE := Env.refl a24 [15, 16, 17, 18, 19, 20, 21]; refine zm 15 hE k e0 ?_; intro a56 hE e15 kp; refine sd 16 hE k (Z0d rfl e15) ?_; intro a57 hE e16 kp; apply Z03 17 hE k rfl rfl rfl rfl; case h =>
    simp [go_sem, ↓IntWalk.iteOmega, ev e16]
    with_reducible rfl
   intro a58 hE e17 kp; refine sd 18 hE k (Z0a O 0 rfl rfl e17 rfl Tryz.underlying59 rfl) ?_; intro a59 hE e18 kp; refine zm 19 hE k e6 ?_; intro a60 hE e19 kp; replace e18 := kt kp e18; apply Z03 20 hE k rfl rfl rfl rfl; case h =>
    simp [go_sem, ↓IntWalk.iteOmega, ev e18, ev e19]
    with_reducible rfl
   intro a61 hE e20 kp; apply Z03 21 hE k rfl rfl rfl rfl; case h =>
    simp [go_sem, ↓IntWalk.iteOmega, ev e20, d2]
    with_reducible rfl
   intro a62 hE e21 kp; refine wpList_nil ?_; replace e0 := hE.g e0; replace e4 := hE.g e4; replace e5 := hE.g e5; replace e6 := hE.g e6; replace k := k.env hE; clear hE e12; refine Z00 ?_; refine Z07 e21 rfl ?_
   refine wp_seq ?_; refine wp_region_lit ?_
   have hE := Env.refl a62 [24, 25, 26, 27, 28, 29, 30, 31]; refine zm 24 hE k e0 ?_; intro a63 hE e24 kp; refine sd 25 hE k (Z0d rfl e24) ?_; intro a64 hE e25 kp; apply Z03 26 hE k rfl rfl rfl rfl; case h =>
    simp [go_sem, ↓IntWalk.iteOmega, ev e25]
    with_reducible rfl
   intro a65 hE e26 kp; refine sd 27 hE k (Z0a O 0 rfl rfl e26 rfl Tryz.underlying59 rfl) ?_; intro a66 hE e27 kp; refine zm 28 hE k e6 ?_; intro a67 hE e28 kp; replace e27 := kt kp e27; apply Z03 29 hE k rfl rfl rfl rfl; case h =>
    simp [go_sem, ↓IntWalk.iteOmega, ev e27, ev e28]
    with_reducible rfl
   intro a68 hE e29 kp; apply Z03 30 hE k rfl rfl rfl rfl; case h =>
    simp [go_sem, ↓IntWalk.iteOmega, ev e29, d1]
    with_reducible rfl
   intro a69 hE e30 kp; refine sd 31 hE k (Z15 rfl e30) ?_; intro a70 hE e31 kp; refine wpList_nil ?_; replace e0 := hE.g e0; replace e4 := hE.g e4; replace e5 := hE.g e5; replace e6 := hE.g e6; replace k := k.env hE; clear hE e21; refine Z00 ?_; refine Z0h e31 rfl ?_
   refine wp_region_lit ?_
   have hE := Env.refl a70 [32, 33, 4]; refine sd 32 hE k (Z02 rfl e4) ?_; intro a71 hE e32 kp; replace e4 := kt kp e4; refine sd 33 hE k (Z1i rfl e32 rfl (by omega)) ?_; intro a72 hE e33 kp; replace e4 := kt kp e4; replace e33 := e33.trans (Z10 (show (u : Int) + 1 = ((u + 1 : Nat) : Int) by omega))
   refine sd 4 hE k (Z01 rfl e33) ?_; intro a73 hE e4 kp; refine wpList_nil ?_; replace e0 := hE.g e0; replace e5 := hE.g e5; replace e6 := hE.g e6; replace k := k.env hE; clear hE e31; refine Z0f ?_; refine Z00 ?_; refine wp_region_lit ?_
   have hE := Env.refl a73 [13, 14, 6]; refine sd 13 hE k (Z02 rfl e6) ?_; intro a74 hE e13 kp; replace e6 := kt kp e6; refine sd 14 hE k (Z1i rfl e13 rfl (by omega)) ?_; intro a75 hE e14 kp; replace e6 := kt kp e6; replace e14 := e14.trans (Z10 (show (i : Int) + 1 = ((i + 1 : Nat) : Int) by omega))
   refine sd 6 hE k (Z01 rfl e14) ?_; intro a76 hE e6 kp; refine wpList_nil ?_; replace e0 := hE.g e0; replace e4 := hE.g e4; replace e5 := hE.g e5; replace k := k.env hE; clear hE; refine Z00 ?_; refine ⟨⟨k, e0, i + 1, u + 1, v, e4, e5, e6, by omega, by omega, by omega, by omega, O⟩, ?_⟩
   rw [e6, mi]; simp only [intOf]; omega
end Go.Proofs.YtakkhglbdljfiaaGreatDoor
