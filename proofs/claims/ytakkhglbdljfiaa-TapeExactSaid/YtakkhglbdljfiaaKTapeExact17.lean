/- tapes: Size, sectors, first (printed by XTpB.gen.py). -/
import Derived.Test.YtakkhglbdljfiaaKTapeExact13
import Derived.Test.YtakkhglbdljfiaaKTapeExact16
namespace Go.Proofs.Ytakkhglbdljfiaa
attribute [local simp] BigFrame.eval_const BigFrame.eval_global BigFrame.eval_func
set_option linter.unusedVariables false
set_option linter.unusedSimpArgs false
open Go.RowKit

theorem Z4b (m : Nat) (w : World) (h : m ≤ 1000000) : (convert 3 57 (.int .i64 ((m : Nat) : Int))).run Try.prog w = .ok (.int .u64 ((m : Nat) : Int)) w := by
 have e : IntKind.u64.wrap (m : Int) = (m : Int) := by
  show (m : Int) % 18446744073709551616 = m
  omega
 simp [convert, run_underlying Try.underlying3, run_underlying Try.underlying57, Conv.intToInt, e]
theorem Z7k (m : Nat) (w : World) (h : m ≤ 1000000) : (convert 57 3 (.int .u64 ((m : Nat) : Int))).run Try.prog w = .ok (.int .i64 ((m : Nat) : Int)) w := by
 simp [convert, run_underlying Try.underlying3, run_underlying Try.underlying57, Conv.intToInt, IntWalk.i64_in _ (show -9223372036854775808 ≤ (m : Int) ∧ (m : Int) ≤ 9223372036854775807 by omega)]
theorem rep_l (n : Nat) (W : World) (hn : n ≤ 1000000) : Calls Try.prog 37 #[.string (sB [0]), .int .i64 ((n : Nat) : Int)] W fun e w' => e = .returned (.string (sB (List.replicate n 0))) ∧ Ext W w' := by
 have h := Try.strings_Repeat (sB [0]) n W (by omega) (by rw [Z0l]; simp only [List.length_cons, List.length_nil]; omega)
 rw [Z43, Z5q] at h
 exact h

set_option maxRecDepth 100000 in
set_option maxHeartbeats 4000000 in
theorem Z0w (l : List UInt8) (W0 : World) (hl : l.length ≤ 1000000) : Calls Try.prog 16 #[.string (sB l)] W0 fun e w' => e = .returned (.int .i64 ((szT l : Nat) : Int)) ∧ Ext W0 w' := by
 have O := OwnT.start W0
 refine Z0a Try.func16 rfl 9 rfl (by rfl) ?_
 intro a1 k hargs
 have e0 : a1.eval (.tmp 0) = .string (sB l) := hargs 0 _ rfl
 clear hargs
 refine wp_seq ?_
 refine wp_region_lit ?_
 have hE := Env.refl a1 [2]
 refine sd 2 hE k (Z01 rfl rfl) ?_
 intro a2 hE e2 kp
 refine wpList_nil ?_
 replace e0 := hE.g e0
 replace k := k.env hE
 clear hE e2
 refine Z00 (wp_seq ?_)
 refine wp_region_lit ?_
 have hE := Env.refl a2 [3, 4, 5, 6, 7, 8, 2]
 refine zm 3 hE k e0 ?_
 intro a3 hE e3 kp
 refine sd 4 hE k (Z07 Try.underlying9 rfl e3) ?_
 intro a4 hE e4 kp
 refine sd 5 hE k (Z0r rfl e4 rfl (by omega)) ?_
 intro a5 hE e5 kp
 refine sd 6 hE k (Z0r rfl e5 rfl (by omega)) ?_
 intro a6 hE e6 kp
 refine sd 7 hE k (Z2m rfl e6 rfl (by omega)) ?_
 intro a7 hE e7 kp
 replace e7 := e7.trans (Z0e (show (l.length : Int) + 10 + 16 - 1 = ((l.length + 25 : Nat) : Int) by omega))
 refine sd 8 hE k (Z1e (m := (l.length + 25)) (j := 16) rfl e7 rfl rfl (by decide) (by omega)) ?_
 intro a8 hE e8 kp
 refine sd 2 hE k (Z01 rfl e8) ?_
 intro a9 hE e2 kp
 refine wpList_nil ?_
 replace k := k.env hE
 clear hE e0
 refine Z00 ?_
 refine wp_ret ?_
 refine Z0f rfl k e2 ?_
 exact ⟨rfl, O.below⟩
set_option maxRecDepth 100000 in
set_option maxHeartbeats 4000000 in
theorem Z5l (q : Nat) (l : List UInt8) (W0 : World) (hk : q ≤ 1000000) (hl : l.length ≤ 60000) : Calls Try.prog 32 #[.int .i64 (q : Nat), .string (sB l)] W0 fun e w' => e = .returned (.string (sB (tapeL q l))) ∧ Ext W0 w' := by
 have O := OwnT.start W0
 obtain ⟨z, hz⟩ : ∃ z, 16 * szT l - (l.length + 10) = z := ⟨_, rfl⟩
 have hz2 : 16 * szT l = l.length + 10 + z := by unfold szT at hz ⊢; omega
 have hz3 : z ≤ 1000000 := by unfold szT at hz2; omega
 refine Z0a Try.func32 rfl 27 rfl (by rfl) ?_
 intro a1 k hargs
 have e0 : a1.eval (.tmp 0) = .int .i64 ↑q := hargs 0 _ rfl
 have e1 : a1.eval (.tmp 1) = .string (sB l) := hargs 1 _ rfl
 clear hargs
 refine wp_seq ?_
 refine wp_region_lit ?_
 have hE := Env.refl a1 [4]
 refine sd 4 hE k (Z01 rfl rfl) ?_
 intro a2 hE e4 kp
 refine wpList_nil ?_
 replace e0 := hE.g e0; replace e1 := hE.g e1
 replace k := k.env hE
 clear hE e4
 refine Z00 (wp_seq ?_)
 refine wp_region_lit ?_
 have hE := Env.refl a2 [5]
 refine Z5p O (cs := #[.pointer none, .slice none 0 0]) (t := 85) 5 hE k rfl (by rfl) (by rfl) rfl (by simp [go_sem, ↓IntWalk.iteOmega]) ?_
 clear O
 intro wb a3 w4 O hE e5 kp
 refine wpList_nil ?_
 replace e0 := hE.g e0; replace e1 := hE.g e1
 replace k := k.env hE
 clear hE
 refine Z00 ?_
 replace O := OwnT.asOw O
 refine wp_seq ?_
 refine wp_region_lit ?_
 have hE := Env.refl a3 [7, 8, 9]
 refine zm 7 hE k e0 ?_
 intro a5 hE e7 kp
 refine sd 8 hE k (Z2o rfl e7 (Z4b q _ (by omega))) ?_
 intro a6 hE e8 kp
 apply Z06 9 hE k rfl (by rfl) (by rfl) rfl
 case h =>
  simp [go_sem, ↓IntWalk.iteOmega, ev (hE.g e5), ev e8]
  with_reducible exact ⟨rfl, rfl⟩
 case hc => exact ow_put q 4 O (by omega) (by decide) (by simp)
 clear O
 rintro e w8 ⟨rfl, g1, O⟩
 refine ⟨_, rfl, ?_⟩
 intro a7 hE e9 kp
 refine wpList_nil ?_
 replace e1 := hE.g e1; replace e5 := hE.g e5
 replace k := k.env hE
 clear hE e0 e9
 refine Z00 (wp_seq ?_)
 refine wp_region_lit ?_
 have hE := Env.refl a7 [10, 11, 12, 13]
 refine zm 10 hE k e1 ?_
 intro a9 hE e10 kp
 refine sd 11 hE k (Z07 Try.underlying9 rfl e10) ?_
 intro a10 hE e11 kp
 refine sd 12 hE k (Z2o rfl e11 (Z4b l.length _ (by omega))) ?_
 intro a11 hE e12 kp
 apply Z06 13 hE k rfl (by rfl) (by rfl) rfl
 case h =>
  simp [go_sem, ↓IntWalk.iteOmega, ev (hE.g e5), ev e12]
  with_reducible exact ⟨rfl, rfl⟩
 case hc => exact ow_put l.length 2 O (by omega) (by decide) (by simp [Z0m])
 clear O
 rintro e w13 ⟨rfl, g2, O⟩
 refine ⟨_, rfl, ?_⟩
 intro a12 hE e13 kp
 refine wpList_nil ?_
 replace e1 := hE.g e1; replace e5 := hE.g e5
 replace k := k.env hE
 clear hE e13
 refine Z00 (wp_seq ?_)
 refine wp_region_lit ?_
 have hE := Env.refl a12 [14, 15]
 refine zm 14 hE k e1 ?_
 intro a14 hE e14 kp
 apply Z06 15 hE k rfl (by rfl) (by rfl) rfl
 case h =>
  simp [go_sem, ↓IntWalk.iteOmega, ev (hE.g e5), ev e14]
  with_reducible exact ⟨rfl, rfl⟩
 case hc => exact ow_text l O (by simp [Z0m]; omega)
 clear O
 rintro e w16 ⟨rfl, g3, O⟩
 refine ⟨_, rfl, ?_⟩
 intro a15 hE e15 kp
 refine wpList_nil ?_
 replace e1 := hE.g e1; replace e5 := hE.g e5
 replace k := k.env hE
 clear hE e15
 refine Z00 ?_
 rw [List.nil_append, List.append_assoc] at O
 have hne : le q 4 ++ (le l.length 2 ++ l) ≠ [] := fun h => by have := congrArg List.length h; rw [List.length_append, Z0m] at this; simp at this
 have hhl := Z34 q l
 refine wp_seq ?_
 refine wp_region_lit ?_
 have hE := Env.refl a15 [16, 17, 6]
 apply Z06 16 hE k rfl (by rfl) (by rfl) rfl
 case h =>
  simp [go_sem, ↓IntWalk.iteOmega, ev (hE.g e5)]
  with_reducible exact ⟨rfl, rfl⟩
 case hc => exact ow_str O hne
 clear O
 rintro e w18 ⟨rfl, O⟩
 refine ⟨_, rfl, ?_⟩
 intro a17 hE e16 kp
 apply Z06 17 hE k rfl (by rfl) (by rfl) rfl
 case h =>
  simp [go_sem, ↓IntWalk.iteOmega, ev e16]
  with_reducible exact ⟨rfl, rfl⟩
 case hc => exact seal_l (headT q l) _ (by omega)
 rintro e w20 ⟨rfl, RE⟩
 replace O := OwnT.ext O RE
 refine ⟨_, rfl, ?_⟩
 intro a19 hE e17 kp
 refine sd 6 hE k (Z01 rfl e17) ?_
 intro a21 hE e6 kp
 refine wpList_nil ?_
 replace e1 := hE.g e1
 replace k := k.env hE
 clear hE e5
 refine Z00 (wp_seq ?_)
 refine wp_region_lit ?_
 have hE := Env.refl a21 [18, 19, 20, 21, 22, 23, 24, 25, 26, 4]
 refine zm 18 hE k e6 ?_
 intro a22 hE e18 kp
 refine zm 19 hE k e1 ?_
 intro a23 hE e19 kp
 replace e18 := kt kp e18
 apply Z06 20 hE k rfl (by rfl) (by rfl) rfl
 case h =>
  simp [go_sem, ↓IntWalk.iteOmega, ev e19]
  with_reducible exact ⟨rfl, rfl⟩
 case hc => exact Z0w l _ (by omega)
 rintro e w25 ⟨rfl, RE⟩
 replace O := OwnT.ext O RE
 refine ⟨_, rfl, ?_⟩
 intro a24 hE e20 kp
 replace e18 := kt kp e18
 refine sd 21 hE k (Z2n rfl e20 rfl (by unfold szT; omega)) ?_
 intro a26 hE e21 kp
 replace e18 := kt kp e18
 refine zm 22 hE k e6 ?_
 intro a27 hE e22 kp
 replace e18 := kt kp e18; replace e21 := kt kp e21
 refine sd 23 hE k (Z07 Try.underlying9 rfl e22) ?_
 intro a28 hE e23 kp
 replace e18 := kt kp e18; replace e21 := kt kp e21
 replace e23 := e23.trans (Z0e (show ((sealL (headT q l)).length : Int) = ((l.length + 10 : Nat) : Int) by rw [Z1d, hhl]))
 refine sd 24 hE k (Z2m rfl e21 e23 (by omega)) ?_
 intro a29 hE e24 kp
 replace e18 := kt kp e18
 replace e24 := e24.trans (Z0e (show (szT l : Int) * 16 - ((l.length + 10 : Nat) : Int) = (z : Int) by omega))
 apply Z06 25 hE k rfl (by rfl) (by rfl) rfl
 case h =>
  simp [go_sem, ↓IntWalk.iteOmega, ev e24]
  with_reducible exact ⟨rfl, rfl⟩
 case hc => exact rep_l z _ hz3
 rintro e w31 ⟨rfl, RE⟩
 replace O := OwnT.ext O RE
 refine ⟨_, rfl, ?_⟩
 intro a30 hE e25 kp
 replace e18 := kt kp e18
 refine sd 26 hE k (Z4z (l := sealL (headT q l)) (m := List.replicate z 0) rfl e18 e25 (by rw [Z1d, hhl, List.length_replicate]; omega)) ?_
 intro a32 hE e26 kp
 refine sd 4 hE k (Z01 rfl e26) ?_
 intro a33 hE e4 kp
 refine wpList_nil ?_
 replace k := k.env hE
 clear hE e1 e6
 refine Z00 ?_
 refine wp_ret ?_
 refine Z0f rfl k e4 ?_
 exact ⟨by unfold tapeL; rw [hz], O.below⟩
set_option maxRecDepth 100000 in
set_option maxHeartbeats 4000000 in
theorem Z63 (q : Nat) (im : List UInt8) (W0 : World) (hk : q ≤ 100000) (hl : im.length ≤ 1000000) : Calls Try.prog 43 #[.int .i64 (q : Nat), .string (sB im)] W0 fun e w' => e = .returned (.tuple #[.string (sB ((fstT q im).getD [])), .bool (fstT q im).isSome]) ∧ Ext W0 w' := by
 have O := OwnT.start W0
 obtain ⟨m1, l1, s1, h1⟩ : ∃ m l s, getN (im, false) 4 = (m, l, s) := ⟨_, _, _, rfl⟩
 obtain ⟨m2, l2, s2, h2⟩ : ∃ m l s, getN (l1, s1) 2 = (m, l, s) := ⟨_, _, _, rfl⟩
 have hl1 : l1.length ≤ im.length := by have := Z35 (im, false) 4; rwa [h1] at this
 have hl2 : l2.length ≤ l1.length := by have := Z35 (l1, s1) 2; rwa [h2] at this
 have hm2 : m2 < 65536 := by have := getN_lt (l1, s1) 2; rw [h2] at this; exact this
 have hcS : codeS im = if m2 ≤ l2.length then l2.take m2 else [] := by unfold codeS; simp only [h1, h2]
 obtain ⟨s, hs⟩ : ∃ s, codeS im = s := ⟨_, rfl⟩
 have hsl : s.length ≤ 65536 := by
  rw [← hs, hcS]
  split
  · rw [List.length_take]; omega
  · exact Nat.zero_le _
 have hfst := code_is q im
 rw [hs] at hfst hcS

 refine Z0a Try.func43 rfl 29 rfl (by rfl) ?_
 intro a1 k hargs
 have e0 : a1.eval (.tmp 0) = .int .i64 ↑q := hargs 0 _ rfl
 have e1 : a1.eval (.tmp 1) = .string (sB im) := hargs 1 _ rfl
 clear hargs
 refine wp_seq ?_
 refine wp_region_lit ?_
 have hE := Env.refl a1 [4, 5]
 refine sd 4 hE k (Z01 rfl rfl) ?_
 intro a2 hE e4 kp
 refine sd 5 hE k (Z01 rfl rfl) ?_
 intro a3 hE e5 kp
 refine wpList_nil ?_
 replace e0 := hE.g e0; replace e1 := hE.g e1
 replace k := k.env hE
 clear hE e5
 refine Z00 (wp_seq ?_)
 refine wp_region_lit ?_
 have hE := Env.refl a3 [8, 9, 6]
 refine zm 8 hE k e1 ?_
 intro a4 hE e8 kp
 apply Z06 9 hE k rfl (by rfl) (by rfl) rfl
 case h =>
  simp [go_sem, ↓IntWalk.iteOmega, ev e8]
  with_reducible exact ⟨rfl, rfl⟩
 case hc => exact or_of im O
 clear O
 rintro e w6 ⟨r, rfl, O⟩
 refine ⟨_, rfl, ?_⟩
 intro a5 hE e9 kp
 refine sd 6 hE k (Z01 rfl e9) ?_
 intro a7 hE e6 kp
 refine wpList_nil ?_
 replace e0 := hE.g e0; replace e1 := hE.g e1
 replace k := k.env hE
 clear hE
 refine Z00 (wp_seq ?_)
 refine wp_region_lit ?_
 have hE := Env.refl a7 [10, 11]
 refine zm 10 hE k e6 ?_
 intro a8 hE e10 kp
 apply Z06 11 hE k rfl (by rfl) (by rfl) rfl
 case h =>
  simp [go_sem, ↓IntWalk.iteOmega, ev e10]
  with_reducible exact ⟨rfl, rfl⟩
 case hc => exact or_got 4 h1 O (by decide) hl
 clear O
 rintro e w10 ⟨rfl, O⟩
 refine ⟨_, rfl, ?_⟩
 intro a9 hE e11 kp
 refine wpList_nil ?_
 replace e0 := hE.g e0; replace e1 := hE.g e1; replace e6 := hE.g e6
 replace k := k.env hE
 clear hE e11
 refine Z00 (wp_seq ?_)
 refine wp_region_lit ?_
 have hE := Env.refl a9 [12, 13, 14, 15, 16, 7]
 refine zm 12 hE k e6 ?_
 intro a11 hE e12 kp
 refine zm 13 hE k e6 ?_
 intro a12 hE e13 kp
 replace e12 := kt kp e12
 apply Z06 14 hE k rfl (by rfl) (by rfl) rfl
 case h =>
  simp [go_sem, ↓IntWalk.iteOmega, ev e13]
  with_reducible exact ⟨rfl, rfl⟩
 case hc => exact or_got 2 h2 O (by decide) (by omega)
 clear O
 rintro e w14 ⟨rfl, O⟩
 refine ⟨_, rfl, ?_⟩
 intro a13 hE e14 kp
 replace e12 := kt kp e12
 refine sd 15 hE k (Z2o rfl e14 (Z7k m2 _ (by omega))) ?_
 intro a15 hE e15 kp
 replace e12 := kt kp e12
 apply Z06 16 hE k rfl (by rfl) (by rfl) rfl
 case h =>
  simp [go_sem, ↓IntWalk.iteOmega, ev e12, ev e15]
  with_reducible exact ⟨rfl, rfl⟩
 case hc => exact or_take m2 O (by omega) (by omega)
 clear O
 rintro e w17 ⟨rfl, l3, s3, O⟩
 rw [← hcS]
 refine ⟨_, rfl, ?_⟩
 intro a16 hE e16 kp
 refine sd 7 hE k (Z01 rfl e16) ?_
 intro a18 hE e7 kp
 refine wpList_nil ?_
 replace e0 := hE.g e0; replace e1 := hE.g e1
 replace k := k.env hE
 clear hE e6
 refine Z00 ?_
 by_cases hbig : 600 < s.length
 · rw [if_neg (by omega)] at hfst
   refine wp_seq ?_
   refine wp_seq ?_
   refine wp_region_lit ?_
   have hE := Env.refl a18 [17, 18, 19, 20, 21, 22, 23, 24, 25, 26, 27]
   refine zm 17 hE k e7 ?_
   intro a19 hE e17 kp
   refine sd 18 hE k (Z07 Try.underlying9 rfl e17) ?_
   intro a20 hE e18 kp
   refine sd 19 hE k (Z09 (Z0z rfl e18 rfl) (decide_eq_true (by omega))) ?_
   intro a21 hE e19 kp
   refine sd 20 hE k (Z03 rfl e19) ?_
   intro a22 hE e20 kp
   refine Z04 21 hE k rfl (by rfl) (by rfl) rfl rfl (.inl e20) ?_
   intro a23 hE e21 kp
   replace e20 := kt kp e20
   refine Z04 22 hE k rfl (by rfl) (by rfl) rfl rfl (.inl e20) ?_
   intro a24 hE e22 kp
   replace e20 := kt kp e20; replace e21 := kt kp e21
   refine Z04 23 hE k rfl (by rfl) (by rfl) rfl rfl (.inl e20) ?_
   intro a25 hE e23 kp
   replace e20 := kt kp e20; replace e21 := kt kp e21; replace e22 := kt kp e22
   refine Z04 24 hE k rfl (by rfl) (by rfl) rfl rfl (.inl e20) ?_
   intro a26 hE e24 kp
   replace e20 := kt kp e20; replace e21 := kt kp e21
   refine Z04 25 hE k rfl (by rfl) (by rfl) rfl rfl (.inl e20) ?_
   intro a27 hE e25 kp
   replace e20 := kt kp e20
   refine Z04 26 hE k rfl (by rfl) (by rfl) rfl rfl (.inl e20) ?_
   intro a28 hE e26 kp
   replace e20 := kt kp e20
   refine sd 27 hE k (Z0b rfl e20 rfl) ?_
   intro a29 hE e27 kp
   refine wpList_nil ?_
   replace e7 := hE.g e7
   replace k := k.env hE
   clear hE e0 e1
   refine Z00 ?_
   refine Z0h e27 rfl ?_
   refine wp_seq ?_
   refine wp_region_lit ?_
   have hE := Env.refl a29 [4, 5]
   refine sd 4 hE k (Z01 rfl rfl) ?_
   intro a30 hE e4 kp
   refine sd 5 hE k (Z01 rfl rfl) ?_
   intro a31 hE e5 kp
   replace e4 := kt kp e4
   refine wpList_nil ?_
   replace k := k.env hE
   clear hE e7 e27
   refine Z00 ?_
   refine wp_ret ?_
   refine Z0n ?_
   refine Z1o rfl k e4 e5 ?_
   exact ⟨by rw [hfst]; rfl, O.below⟩
 · skip
   obtain ⟨b, hb⟩ : ∃ b, (tapeL q s).isPrefixOf im = b := ⟨_, rfl⟩
   rw [hb] at hfst
   refine wp_seq ?_
   refine wp_seq ?_
   refine wp_region_lit ?_
   have hE := Env.refl a18 [17, 18, 19, 20, 21, 22, 23, 24, 25, 26, 27]
   refine zm 17 hE k e7 ?_
   intro a32 hE e17 kp
   refine sd 18 hE k (Z07 Try.underlying9 rfl e17) ?_
   intro a33 hE e18 kp
   refine sd 19 hE k (Z09 (Z0z rfl e18 rfl) (decide_eq_false (by omega))) ?_
   intro a34 hE e19 kp
   refine sd 20 hE k (Z03 rfl e19) ?_
   intro a35 hE e20 kp
   apply Z02 21 hE k rfl rfl rfl rfl rfl e20
   case h =>
    exact Z03 rfl (hE.g e1)
   intro a36 hE e21 kp
   replace e20 := kt kp e20
   apply Z02 22 hE k rfl rfl rfl rfl rfl e20
   case h =>
    exact Z03 rfl (hE.g e0)
   intro a37 hE e22 kp
   replace e20 := kt kp e20; replace e21 := kt kp e21
   apply Z02 23 hE k rfl rfl rfl rfl rfl e20
   case h =>
    exact Z03 rfl (hE.g e7)
   intro a38 hE e23 kp
   replace e20 := kt kp e20; replace e21 := kt kp e21; replace e22 := kt kp e22
   apply Z0o 24 hE k rfl (by rfl) (by rfl) rfl rfl e20
   case h =>
    simp [go_sem, ↓IntWalk.iteOmega, ev e22, ev e23]
    with_reducible exact ⟨rfl, rfl⟩
   case hc => exact Z5l q s _ (by omega) (by omega)
   rintro e w40 ⟨rfl, RE⟩
   replace O := OwnT.ext O RE
   refine ⟨_, rfl, ?_⟩
   intro a39 hE e24 kp
   replace e20 := kt kp e20; replace e21 := kt kp e21
   apply Z0o 25 hE k rfl (by rfl) (by rfl) rfl rfl e20
   case h =>
    simp [go_sem, ↓IntWalk.iteOmega, ev e21, ev e24]
    with_reducible exact ⟨rfl, rfl⟩
   case hc => exact (Try.strings_HasPrefix (sB im) (sB (tapeL q s)) _).mono (fun e w' h => (⟨h.1.trans (by rw [← hb]; rfl), by rw [h.2]; exact Ext.refl _⟩ : e = .returned (.bool b) ∧ Ext _ w'))
   rintro e w42 ⟨rfl, RE⟩
   replace O := OwnT.ext O RE
   refine ⟨_, rfl, ?_⟩
   intro a41 hE e25 kp
   replace e20 := kt kp e20
   apply Z02 26 hE k rfl rfl rfl rfl rfl e20
   case h =>
    exact Z4f rfl e25
   intro a43 hE e26 kp
   replace e20 := kt kp e20
   refine sd 27 hE k (Z0g rfl e20 e26) ?_
   intro a44 hE e27 kp
   refine wpList_nil ?_
   replace e7 := hE.g e7
   replace k := k.env hE
   clear hE e0 e1
   refine Z00 ?_
   cases b with
   | false =>
    rw [if_neg (by simp)] at hfst
    refine Z0h e27 (rfl) ?_
    clear e7 e27
    refine wp_seq ?_
    refine wp_region_lit ?_
    have hE := Env.refl a44 [4, 5]
    refine sd 4 hE k (Z01 rfl rfl) ?_
    intro a45 hE e4 kp
    refine sd 5 hE k (Z01 rfl rfl) ?_
    intro a46 hE e5 kp
    replace e4 := kt kp e4
    refine wpList_nil ?_
    replace k := k.env hE
    clear hE
    refine Z00 ?_
    refine wp_ret ?_
    refine Z0n ?_
    refine Z1o rfl k e4 e5 ?_
    exact ⟨by rw [hfst]; rfl, O.below⟩
   | true =>
    rw [if_pos ⟨by omega, rfl⟩] at hfst
    refine Z08 e27 (rfl) ?_
    clear e27
    refine wp_skip ?_
    refine Z00 (wp_seq ?_)
    refine wp_region_lit ?_
    have hE := Env.refl a44 [28, 4, 5]
    refine zm 28 hE k e7 ?_
    intro a47 hE e28 kp
    refine sd 4 hE k (Z01 rfl e28) ?_
    intro a48 hE e4 kp
    refine sd 5 hE k (Z01 rfl rfl) ?_
    intro a49 hE e5 kp
    replace e4 := kt kp e4
    refine wpList_nil ?_
    replace k := k.env hE
    clear hE e7
    refine Z00 ?_
    refine wp_ret ?_
    refine Z1o rfl k e4 e5 ?_
    exact ⟨by rw [hfst]; rfl, O.below⟩
end Go.Proofs.Ytakkhglbdljfiaa

/- Tapes, plain: what lies on a device. -/
namespace Go.Proofs.Ytakkhglbdljfiaa
set_option linter.unusedVariables false
set_option linter.unusedSimpArgs false
open Go.RowKit Go.Maps
theorem Z3l {u v : List UInt8} {j : Nat} (h : 16 * (j + 1) ≤ u.length) : secOf (u ++ v) j = secOf u j := by
  unfold secOf
  rw [List.drop_append_of_le_length (by omega), List.take_append_of_le_length (by rw [List.length_drop]; omega)]
theorem Z1u {u v : List UInt8} {a j : Nat} (h : u.length = 16 * a) : secOf (u ++ v) (a + j) = secOf v j := by
  unfold secOf
  rw [show 16 * (a + j) = u.length + 16 * j by omega, List.drop_append, List.drop_of_length_le (by omega), List.nil_append, Nat.add_sub_cancel_left]
theorem Z55 {m j : Nat} (h : 16 * (j + 1) ≤ m) : secOf (List.replicate m 0) j = zsec := by
  unfold secOf zsec
  rw [List.drop_replicate, List.take_replicate, Nat.min_eq_left (by omega)]
theorem Z3k {u : List UInt8} {a j : Nat} (h : j < a) : secOf (u.take (16 * a)) j = secOf u j := by
  unfold secOf
  rw [List.drop_take, List.take_take, Nat.min_eq_left (by omega)]
theorem flatT {l : List UInt8} {k : Nat} (h : l.length = 16 * k) : (secsL l k).flatten = l := by
  have : ∀ j, j ≤ k → (secsL l j).flatten = l.take (16 * j) := by
    intro j
    induction j with
    | zero => intro _; simp [secsL]
    | succ j ih =>
      intro hj
      rw [Z3j, List.flatten_append, ih (by omega)]
      simp only [List.flatten_cons, List.flatten_nil, List.append_nil, secOf]
      rw [show 16 * (j + 1) = 16 * j + 16 by omega, List.take_add]
  rw [this k (Nat.le_refl _), List.take_of_length_le (by omega)]
theorem Z54 : ∀ {S : List Sec}, (∀ s ∈ S, s.length = 16) → ∀ {j : Nat} {s : Sec}, S[j]? = some s → secOf S.flatten j = s
  | [], _, j, s, h => by simp at h
  | x :: r, hS, 0, s, h => by
    have hx := hS x (by simp)
    simp only [List.getElem?_cons_zero, Option.some.injEq] at h
    subst h
    unfold secOf
    rw [List.flatten_cons, Nat.mul_zero, List.drop_zero, List.take_append_of_le_length (by omega), List.take_of_length_le (by omega)]
  | x :: r, hS, j + 1, s, h => by
    have hx := hS x (by simp)
    simp only [List.getElem?_cons_succ] at h
    have ih := Z54 (S := r) (fun s hs => hS s (by simp [hs])) h
    rw [List.flatten_cons, Nat.add_comm j 1, Z1u (a := 1) (by omega)]
    exact ih
/-- What is wiped so far: a ≤ z < i. -/
def wpL (S : List Sec) (a i : Nat) : Int → Option Sec := fun z => if (a : Int) ≤ z ∧ z < i ∧ S[z.toNat]? ≠ some zsec then some zsec else none
theorem Z4g (S : List Sec) (a : Nat) : wpL S a a = fun _ => none := by
  funext z
  unfold wpL
  rw [if_neg (by omega)]
theorem Z7t {S : List Sec} {a i : Nat} (h : S[i]? = some zsec) : wpL S a (i + 1) = wpL S a i := by
  funext z
  unfold wpL
  by_cases e : z = (i : Int)
  · subst e
    rw [if_neg (fun x => x.2.2 h), if_neg (fun x => x.2.2 h)]
  · by_cases h2 : (a : Int) ≤ z ∧ z < i ∧ S[z.toNat]? ≠ some zsec
    · rw [if_pos h2, if_pos ⟨h2.1, by omega, h2.2.2⟩]
    · rw [if_neg h2, if_neg (fun x => h2 ⟨x.1, by omega, x.2.2⟩)]
theorem wpL_put {S : List Sec} {a i : Nat} {s : Sec} (h : S[i]? = some s) (hs : s ≠ zsec) (ha : a ≤ i) : putS (wpL S a i) i zsec = wpL S a (i + 1) := by
  funext z
  unfold putS wpL
  by_cases e : z = (i : Int)
  · subst e
    rw [if_pos rfl, if_pos ⟨by omega, by omega, fun x => by
      rw [Int.toNat_natCast, h] at x
      injection x with x
      exact hs x⟩]
  · rw [if_neg e]
    by_cases h2 : (a : Int) ≤ z ∧ z < i ∧ S[z.toNat]? ≠ some zsec
    · rw [if_pos h2, if_pos ⟨h2.1, by omega, h2.2.2⟩]
    · rw [if_neg h2, if_neg (fun x => h2 ⟨x.1, by omega, x.2.2⟩)]
/-- A device's sectors: what is there and zeros behind. -/
def tpS (want : List UInt8) (n : Nat) : List Sec := secsL (want ++ List.replicate (16 * n - want.length) 0) n
theorem Z7v {want : List UInt8} {n : Nat} (h : want.length ≤ 16 * n) : (tpS want n).flatten = want ++ List.replicate (16 * n - want.length) 0 :=
  flatT (by rw [List.length_append, List.length_replicate]; omega)
theorem Z5m {want : List UInt8} {a n j : Nat} (h : want.length = 16 * a) (ha : a ≤ n) (hj : j < a) : (tpS want n)[j]? = some (secOf want j) := by
  unfold tpS
  rw [Z1z (by omega), Z3l (by omega)]
theorem Z6o {want : List UInt8} {a n j : Nat} (h : want.length = 16 * a) (hj : a ≤ j) (hn : j < n) : (tpS want n)[j]? = some zsec := by
  unfold tpS
  obtain ⟨i, rfl⟩ : ∃ i, j = a + i := ⟨j - a, by omega⟩
  rw [Z1z hn, Z1u h, Z55 (by omega)]
theorem wpL_end {S : List Sec} {a n : Nat} (hS : ∀ s ∈ S, s.length = 16) (hn : S.length = n) (ha : a ≤ n) : nowL S (wpL S a n) = tpS (S.flatten.take (16 * a)) n := by
  have hfl : S.flatten.length = 16 * n := by
    rw [List.length_flatten, ← hn]
    clear hn
    induction S with
    | nil => rfl
    | cons x r ih =>
      have h1 := hS x (by simp)
      have h2 := ih (fun s hs => hS s (by simp [hs]))
      simp only [List.map_cons, List.sum_cons, List.length_cons, h2]
      omega
  have hw : (S.flatten.take (16 * a)).length = 16 * a := by rw [List.length_take]; omega
  apply List.ext_getElem?
  intro j
  by_cases hj : j < n
  · rw [Z47 (by omega)]
    have hSj : S[j]? = some S[j] := List.getElem?_eq_getElem (by omega)
    unfold nowAt wpL
    simp only [Int.toNat_natCast, List.getD]
    by_cases h1 : j < a
    · rw [Z5m hw ha h1, Z3k h1, if_neg (by omega), hSj, Z54 hS hSj]
      rfl
    · rw [Z6o hw (by omega) hj]
      by_cases h2 : S[j]? = some zsec
      · rw [if_neg (fun x => x.2.2 h2), h2]
        rfl
      · rw [if_pos ⟨by omega, by omega, h2⟩]
        rfl
  · rw [List.getElem?_eq_none (by rw [Z2l]; omega), List.getElem?_eq_none (by unfold tpS; rw [Z18]; omega)]
theorem Z6i {S : List Sec} {L : Int → Option Sec} {a k n : Nat} {want t : List UInt8} (hn : S.length = n) (hw : want.length = 16 * a) (ht : t.length = 16 * k) (hk : a + k ≤ n) (h : nowL S L = tpS want n) : nowL S (wrS t a L k) = tpS (want ++ t) n := by
  have hw2 : (want ++ t).length = 16 * (a + k) := by rw [List.length_append]; omega
  apply List.ext_getElem?
  intro j
  by_cases hj : j < n
  · rw [Z47 (by omega)]
    have hj0 := congrArg (fun X : List Sec => X[j]?) h
    simp only [Z47 (show j < S.length by omega)] at hj0
    by_cases h1 : j < a
    · rw [Z5m hw (by omega) h1] at hj0
      rw [Z5m hw2 hk (by omega), Z3l (by omega), ← hj0]
      unfold nowAt
      rw [Z5i, if_neg (by omega)]
    · by_cases h2 : j < a + k
      · obtain ⟨i, rfl⟩ : ∃ i, j = a + i := ⟨j - a, by omega⟩
        rw [Z5m hw2 hk h2, Z1u hw]
        unfold nowAt
        rw [Z5i, if_pos (by omega), show (((a + i : Nat) : Int) - (a : Int)).toNat = i by omega]
        rfl
      · rw [Z6o hw (by omega) hj] at hj0
        rw [Z6o hw2 (by omega) hj, ← hj0]
        unfold nowAt
        rw [Z5i, if_neg (by omega)]
  · rw [List.getElem?_eq_none (by rw [Z2l]; omega), List.getElem?_eq_none (by unfold tpS; rw [Z18]; omega)]
theorem tpS_len (want : List UInt8) (n : Nat) : (tpS want n).length = n := Z18 _ _
end Go.Proofs.Ytakkhglbdljfiaa
