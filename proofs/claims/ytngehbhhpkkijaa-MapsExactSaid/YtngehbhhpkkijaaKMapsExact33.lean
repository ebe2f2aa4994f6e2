/- maps' reference: Place, Chunk, Good (printed by XMgA.gen.py). -/
import Derived.Test.YtngehbhhpkkijaaKMapsExact32
namespace Go.Proofs.Ytngehbhhpkkijaa
attribute [local simp] BigFrame.eval_const BigFrame.eval_global BigFrame.eval_func
set_option linter.unusedVariables false
set_option linter.unusedSimpArgs false
open Go.RowKit Go.Maps


set_option maxRecDepth 100000 in
set_option maxHeartbeats 4000000 in
theorem Z7b (n : Int) (W0 : World) : Calls Try.prog 35 #[.int .i64 n] W0 fun e w' => e = .returned (.bool (decide (0 ≤ n ∧ n < 64))) ∧ Ext W0 w' := by
 have O := OwnT.start W0
 obtain ⟨b, hb⟩ : ∃ b, decide (0 ≤ n ∧ n < 64) = b := ⟨_, rfl⟩
 rw [hb]
 refine Z0d Try.func35 rfl 9 rfl (by rfl) ?_
 intro a1 k hargs
 have e0 : a1.eval (.tmp 0) = .int .i64 n := hargs 0 _ rfl
 clear hargs
 by_cases h1 : 0 ≤ n
 · have h2 : decide (n < 64) = b := by rw [← hb, decide_eq_decide]; omega
   refine wp_seq ?_
   refine wp_region_lit ?_
   have hE := Env.refl a1 [2]
   refine sd 2 hE k (Z00 rfl rfl) ?_
   intro a2 hE e2 kp
   refine wpList_nil ?_
   replace e0 := hE.g e0
   replace k := k.env hE
   clear hE e2
   refine Z01 (wp_seq ?_)
   refine wp_region_lit ?_
   have hE := Env.refl a2 [3, 4, 5, 6, 7, 8, 2]
   refine sm 3 hE k e0 ?_
   intro a3 hE e3 kp
   refine sd 4 hE k (Z06 (Z1z rfl e3 rfl) (decide_eq_true h1)) ?_
   intro a4 hE e4 kp
   refine sd 5 hE k (Z03 rfl e4) ?_
   intro a5 hE e5 kp
   apply Z04 6 hE k rfl rfl rfl rfl rfl e5
   case h =>
    exact Z03 rfl (hE.g e0)
   intro a6 hE e6 kp
   replace e5 := kt kp e5
   apply Z04 7 hE k rfl rfl rfl rfl rfl e5
   case h =>
    exact Z0x rfl e6 rfl
   intro a7 hE e7 kp
   replace e5 := kt kp e5
   replace e7 := e7.trans (congrArg Value.bool h2)
   refine sd 8 hE k (Z0a rfl e5 e7) ?_
   intro a8 hE e8 kp
   refine sd 2 hE k (Z00 rfl e8) ?_
   intro a9 hE e2 kp
   refine wpList_nil ?_
   replace k := k.env hE
   clear hE e0
   refine Z01 ?_
   refine wp_ret ?_
   refine Z0n rfl k e2 ?_
   exact ⟨rfl, O.below⟩
 · have h2 : b = false := by rw [← hb]; exact decide_eq_false (fun h => h1 h.1)
   subst h2
   refine wp_seq ?_
   refine wp_region_lit ?_
   have hE := Env.refl a1 [2]
   refine sd 2 hE k (Z00 rfl rfl) ?_
   intro a10 hE e2 kp
   refine wpList_nil ?_
   replace e0 := hE.g e0
   replace k := k.env hE
   clear hE e2
   refine Z01 (wp_seq ?_)
   refine wp_region_lit ?_
   have hE := Env.refl a10 [3, 4, 5, 6, 7, 8, 2]
   refine sm 3 hE k e0 ?_
   intro a11 hE e3 kp
   refine sd 4 hE k (Z06 (Z1z rfl e3 rfl) (decide_eq_false h1)) ?_
   intro a12 hE e4 kp
   refine sd 5 hE k (Z03 rfl e4) ?_
   intro a13 hE e5 kp
   refine Z09 6 hE k rfl (by rfl) (by rfl) rfl rfl (.inl e5) ?_
   intro a14 hE e6 kp
   replace e5 := kt kp e5
   refine Z09 7 hE k rfl (by rfl) (by rfl) rfl rfl (.inl e5) ?_
   intro a15 hE e7 kp
   replace e5 := kt kp e5
   refine sd 8 hE k (Z07 rfl e5 rfl) ?_
   intro a16 hE e8 kp
   refine sd 2 hE k (Z00 rfl e8) ?_
   intro a17 hE e2 kp
   refine wpList_nil ?_
   replace k := k.env hE
   clear hE e0
   refine Z01 ?_
   refine wp_ret ?_
   refine Z0n rfl k e2 ?_
   exact ⟨rfl, O.below⟩
theorem Z44 {n : Int} {b : Bool} (h : decide (0 ≤ n ∧ n < 64) = b) (W0 : World) : Calls Try.prog 35 #[.int .i64 n] W0 fun e w' => e = .returned (.bool b) ∧ Ext W0 w' := h ▸ Z7b n W0
set_option maxRecDepth 100000 in
set_option maxHeartbeats 4000000 in
theorem Z7c (n : Int) (W0 : World) : Calls Try.prog 38 #[.int .i64 n] W0 fun e w' => e = .returned (.bool (decide (1 ≤ n ∧ n ≤ 1023))) ∧ Ext W0 w' := by
 have O := OwnT.start W0
 obtain ⟨b, hb⟩ : ∃ b, decide (1 ≤ n ∧ n ≤ 1023) = b := ⟨_, rfl⟩
 rw [hb]
 refine Z0d Try.func38 rfl 9 rfl (by rfl) ?_
 intro a1 k hargs
 have e0 : a1.eval (.tmp 0) = .int .i64 n := hargs 0 _ rfl
 clear hargs
 by_cases h1 : 1 ≤ n
 · have h2 : decide (n ≤ 1023) = b := by rw [← hb, decide_eq_decide]; omega
   refine wp_seq ?_
   refine wp_region_lit ?_
   have hE := Env.refl a1 [2]
   refine sd 2 hE k (Z00 rfl rfl) ?_
   intro a2 hE e2 kp
   refine wpList_nil ?_
   replace e0 := hE.g e0
   replace k := k.env hE
   clear hE e2
   refine Z01 (wp_seq ?_)
   refine wp_region_lit ?_
   have hE := Env.refl a2 [3, 4, 5, 6, 7, 8, 2]
   refine sm 3 hE k e0 ?_
   intro a3 hE e3 kp
   refine sd 4 hE k (Z06 (Z1z rfl e3 rfl) (decide_eq_true h1)) ?_
   intro a4 hE e4 kp
   refine sd 5 hE k (Z03 rfl e4) ?_
   intro a5 hE e5 kp
   apply Z04 6 hE k rfl rfl rfl rfl rfl e5
   case h =>
    exact Z03 rfl (hE.g e0)
   intro a6 hE e6 kp
   replace e5 := kt kp e5
   apply Z04 7 hE k rfl rfl rfl rfl rfl e5
   case h =>
    exact Z7u rfl e6 rfl
   intro a7 hE e7 kp
   replace e5 := kt kp e5
   replace e7 := e7.trans (congrArg Value.bool h2)
   refine sd 8 hE k (Z0a rfl e5 e7) ?_
   intro a8 hE e8 kp
   refine sd 2 hE k (Z00 rfl e8) ?_
   intro a9 hE e2 kp
   refine wpList_nil ?_
   replace k := k.env hE
   clear hE e0
   refine Z01 ?_
   refine wp_ret ?_
   refine Z0n rfl k e2 ?_
   exact ⟨rfl, O.below⟩
 · have h2 : b = false := by rw [← hb]; exact decide_eq_false (fun h => h1 h.1)
   subst h2
   refine wp_seq ?_
   refine wp_region_lit ?_
   have hE := Env.refl a1 [2]
   refine sd 2 hE k (Z00 rfl rfl) ?_
   intro a10 hE e2 kp
   refine wpList_nil ?_
   replace e0 := hE.g e0
   replace k := k.env hE
   clear hE e2
   refine Z01 (wp_seq ?_)
   refine wp_region_lit ?_
   have hE := Env.refl a10 [3, 4, 5, 6, 7, 8, 2]
   refine sm 3 hE k e0 ?_
   intro a11 hE e3 kp
   refine sd 4 hE k (Z06 (Z1z rfl e3 rfl) (decide_eq_false h1)) ?_
   intro a12 hE e4 kp
   refine sd 5 hE k (Z03 rfl e4) ?_
   intro a13 hE e5 kp
   refine Z09 6 hE k rfl (by rfl) (by rfl) rfl rfl (.inl e5) ?_
   intro a14 hE e6 kp
   replace e5 := kt kp e5
   refine Z09 7 hE k rfl (by rfl) (by rfl) rfl rfl (.inl e5) ?_
   intro a15 hE e7 kp
   replace e5 := kt kp e5
   refine sd 8 hE k (Z07 rfl e5 rfl) ?_
   intro a16 hE e8 kp
   refine sd 2 hE k (Z00 rfl e8) ?_
   intro a17 hE e2 kp
   refine wpList_nil ?_
   replace k := k.env hE
   clear hE e0
   refine Z01 ?_
   refine wp_ret ?_
   refine Z0n rfl k e2 ?_
   exact ⟨rfl, O.below⟩
theorem Z5j {n : Int} {b : Bool} (h : decide (1 ≤ n ∧ n ≤ 1023) = b) (W0 : World) : Calls Try.prog 38 #[.int .i64 n] W0 fun e w' => e = .returned (.bool b) ∧ Ext W0 w' := h ▸ Z7c n W0
end Go.Proofs.Ytngehbhhpkkijaa
