/- maps: isPlace, isChunk, Set, Get, List (printed by XMpB.gen.py). -/
import Derived.Test.YtngehbhhpkkijaaKMapsExact29
namespace Go.Proofs.Ytngehbhhpkkijaa
attribute [local simp] BigFrame.eval_const BigFrame.eval_global BigFrame.eval_func
set_option linter.unusedVariables false
set_option linter.unusedSimpArgs false
open Go.RowKit Go.Maps


/-- A pair of places and chunks. -/
def enOk (x : Pr) : Bool := decide (x.1 < 64 ∧ 1 ≤ x.2 ∧ x.2 ≤ 1023)
def enC (x : Pr) : List Value := [.int .i64 (x.1 : Int), .int .i64 (x.2 : Int)]
abbrev flatE (ps : List Pr) : List Value := ps.flatMap enC
abbrev tEs (v : Value) (ps : List Pr) : Thing := tRow 67 2 v ps.length (flatE ps)
theorem elemEn : ElemI Try.prog 65 67 2 16 := ⟨Try.underlying65, by
 have h : (Try.prog.info? 67).map (fun i => (i.zero, i.size, i.bytes)) = some (some (.agg #[.int .i64 0, .int .i64 0]), 2, 16) := by kernel_rfl
 obtain ⟨i, h1, h2, h3, h4⟩ := info_parts h
 exact ⟨i, _, h1, h2, h3, h4, rfl⟩⟩

set_option maxRecDepth 100000 in
set_option maxHeartbeats 4000000 in
theorem Z1e (n : Int) (W0 : World) : Calls Try.prog 66 #[.int .i64 n] W0 fun e w' => e = .returned (.bool (decide (0 ≤ n ∧ n < 64))) ∧ Ext W0 w' := by
 have O := OwnT.start W0
 obtain ⟨b, hb⟩ : ∃ b, decide (0 ≤ n ∧ n < 64) = b := ⟨_, rfl⟩
 rw [hb]
 refine Z0d Try.func66 rfl 9 rfl (by rfl) ?_
 intro a1 k hargs
 have e0 : a1.eval (.tmp 0) = .int .i64 n := hargs 0 _ rfl
 clear hargs
 by_cases h1 : 0 ≤ n
 · have h2 : decide (n < 64) = b := by rw [← hb, decide_eq_decide]; omega
   refine wp_seq ?_
   refine wp_region_lit ?_
   have hE := Env.refl a1 [2]
   refine sd 2 hE k (Z00 rfl rfl) ?_
   intro a2 hE e2 kp
   refine wpList_nil ?_
   replace e0 := hE.g e0
   replace k := k.env hE
   clear hE e2
   refine Z01 (wp_seq ?_)
   refine wp_region_lit ?_
   have hE := Env.refl a2 [3, 4, 5, 6, 7, 8, 2]
   refine sm 3 hE k e0 ?_
   intro a3 hE e3 kp
   refine sd 4 hE k (Z06 (Z1z rfl e3 rfl) (decide_eq_true h1)) ?_
   intro a4 hE e4 kp
   refine sd 5 hE k (Z03 rfl e4) ?_
   intro a5 hE e5 kp
   apply Z04 6 hE k rfl rfl rfl rfl rfl e5
   case h =>
    exact Z03 rfl (hE.g e0)
   intro a6 hE e6 kp
   replace e5 := kt kp e5
   apply Z04 7 hE k rfl rfl rfl rfl rfl e5
   case h =>
    exact Z0x rfl e6 rfl
   intro a7 hE e7 kp
   replace e5 := kt kp e5
   replace e7 := e7.trans (congrArg Value.bool h2)
   refine sd 8 hE k (Z0a rfl e5 e7) ?_
   intro a8 hE e8 kp
   refine sd 2 hE k (Z00 rfl e8) ?_
   intro a9 hE e2 kp
   refine wpList_nil ?_
   replace k := k.env hE
   clear hE e0
   refine Z01 ?_
   refine wp_ret ?_
   refine Z0n rfl k e2 ?_
   exact ⟨rfl, O.below⟩
 · have h2 : b = false := by rw [← hb]; exact decide_eq_false (fun h => h1 h.1)
   subst h2
   refine wp_seq ?_
   refine wp_region_lit ?_
   have hE := Env.refl a1 [2]
   refine sd 2 hE k (Z00 rfl rfl) ?_
   intro a10 hE e2 kp
   refine wpList_nil ?_
   replace e0 := hE.g e0
   replace k := k.env hE
   clear hE e2
   refine Z01 (wp_seq ?_)
   refine wp_region_lit ?_
   have hE := Env.refl a10 [3, 4, 5, 6, 7, 8, 2]
   refine sm 3 hE k e0 ?_
   intro a11 hE e3 kp
   refine sd 4 hE k (Z06 (Z1z rfl e3 rfl) (decide_eq_false h1)) ?_
   intro a12 hE e4 kp
   refine sd 5 hE k (Z03 rfl e4) ?_
   intro a13 hE e5 kp
   refine Z09 6 hE k rfl (by rfl) (by rfl) rfl rfl (.inl e5) ?_
   intro a14 hE e6 kp
   replace e5 := kt kp e5
   refine Z09 7 hE k rfl (by rfl) (by rfl) rfl rfl (.inl e5) ?_
   intro a15 hE e7 kp
   replace e5 := kt kp e5
   refine sd 8 hE k (Z07 rfl e5 rfl) ?_
   intro a16 hE e8 kp
   refine sd 2 hE k (Z00 rfl e8) ?_
   intro a17 hE e2 kp
   refine wpList_nil ?_
   replace k := k.env hE
   clear hE e0
   refine Z01 ?_
   refine wp_ret ?_
   refine Z0n rfl k e2 ?_
   exact ⟨rfl, O.below⟩
set_option maxRecDepth 100000 in
set_option maxHeartbeats 4000000 in
theorem Z31 (n : Int) (W0 : World) : Calls Try.prog 67 #[.int .i64 n] W0 fun e w' => e = .returned (.bool (decide (1 ≤ n ∧ n ≤ 1023))) ∧ Ext W0 w' := by
 have O := OwnT.start W0
 obtain ⟨b, hb⟩ : ∃ b, decide (1 ≤ n ∧ n ≤ 1023) = b := ⟨_, rfl⟩
 rw [hb]
 refine Z0d Try.func67 rfl 9 rfl (by rfl) ?_
 intro a1 k hargs
 have e0 : a1.eval (.tmp 0) = .int .i64 n := hargs 0 _ rfl
 clear hargs
 by_cases h1 : 1 ≤ n
 · have h2 : decide (n ≤ 1023) = b := by rw [← hb, decide_eq_decide]; omega
   refine wp_seq ?_
   refine wp_region_lit ?_
   have hE := Env.refl a1 [2]
   refine sd 2 hE k (Z00 rfl rfl) ?_
   intro a2 hE e2 kp
   refine wpList_nil ?_
   replace e0 := hE.g e0
   replace k := k.env hE
   clear hE e2
   refine Z01 (wp_seq ?_)
   refine wp_region_lit ?_
   have hE := Env.refl a2 [3, 4, 5, 6, 7, 8, 2]
   refine sm 3 hE k e0 ?_
   intro a3 hE e3 kp
   refine sd 4 hE k (Z06 (Z1z rfl e3 rfl) (decide_eq_true h1)) ?_
   intro a4 hE e4 kp
   refine sd 5 hE k (Z03 rfl e4) ?_
   intro a5 hE e5 kp
   apply Z04 6 hE k rfl rfl rfl rfl rfl e5
   case h =>
    exact Z03 rfl (hE.g e0)
   intro a6 hE e6 kp
   replace e5 := kt kp e5
   apply Z04 7 hE k rfl rfl rfl rfl rfl e5
   case h =>
    exact Z7u rfl e6 rfl
   intro a7 hE e7 kp
   replace e5 := kt kp e5
   replace e7 := e7.trans (congrArg Value.bool h2)
   refine sd 8 hE k (Z0a rfl e5 e7) ?_
   intro a8 hE e8 kp
   refine sd 2 hE k (Z00 rfl e8) ?_
   intro a9 hE e2 kp
   refine wpList_nil ?_
   replace k := k.env hE
   clear hE e0
   refine Z01 ?_
   refine wp_ret ?_
   refine Z0n rfl k e2 ?_
   exact ⟨rfl, O.below⟩
 · have h2 : b = false := by rw [← hb]; exact decide_eq_false (fun h => h1 h.1)
   subst h2
   refine wp_seq ?_
   refine wp_region_lit ?_
   have hE := Env.refl a1 [2]
   refine sd 2 hE k (Z00 rfl rfl) ?_
   intro a10 hE e2 kp
   refine wpList_nil ?_
   replace e0 := hE.g e0
   replace k := k.env hE
   clear hE e2
   refine Z01 (wp_seq ?_)
   refine wp_region_lit ?_
   have hE := Env.refl a10 [3, 4, 5, 6, 7, 8, 2]
   refine sm 3 hE k e0 ?_
   intro a11 hE e3 kp
   refine sd 4 hE k (Z06 (Z1z rfl e3 rfl) (decide_eq_false h1)) ?_
   intro a12 hE e4 kp
   refine sd 5 hE k (Z03 rfl e4) ?_
   intro a13 hE e5 kp
   refine Z09 6 hE k rfl (by rfl) (by rfl) rfl rfl (.inl e5) ?_
   intro a14 hE e6 kp
   replace e5 := kt kp e5
   refine Z09 7 hE k rfl (by rfl) (by rfl) rfl rfl (.inl e5) ?_
   intro a15 hE e7 kp
   replace e5 := kt kp e5
   refine sd 8 hE k (Z07 rfl e5 rfl) ?_
   intro a16 hE e8 kp
   refine sd 2 hE k (Z00 rfl e8) ?_
   intro a17 hE e2 kp
   refine wpList_nil ?_
   replace k := k.env hE
   clear hE e0
   refine Z01 ?_
   refine wp_ret ?_
   refine Z0n rfl k e2 ?_
   exact ⟨rfl, O.below⟩
set_option maxRecDepth 100000 in
set_option maxHeartbeats 4000000 in
theorem Z57 {root : Nat} {u : Value} (at_ ch : Int) (W0 : World) (hb : ¬ ((0 ≤ at_ ∧ at_ < 64) ∧ (1 ≤ ch ∧ ch ≤ 1023))) : Calls Try.prog 33 #[u, .int .i64 root, .int .i64 at_, .int .i64 ch] W0 fun e w' => e = .returned (.tuple #[.int .i64 0, .int .i64 1]) ∧ Ext W0 w' := by
 have O := OwnT.start W0
 refine Z0d Try.func33 rfl 27 rfl (by rfl) ?_
 intro a1 k hargs
 have e0 : a1.eval (.tmp 0) = u := hargs 0 _ rfl
 have e1 : a1.eval (.tmp 1) = .int .i64 ↑root := hargs 1 _ rfl
 have e2 : a1.eval (.tmp 2) = .int .i64 at_ := hargs 2 _ rfl
 have e3 : a1.eval (.tmp 3) = .int .i64 ch := hargs 3 _ rfl
 clear hargs
 by_cases h1 : 0 ≤ at_ ∧ at_ < 64
 · have h2 : ¬ (1 ≤ ch ∧ ch ≤ 1023) := fun h => hb ⟨h1, h⟩
   refine wp_seq ?_
   refine wp_region_lit ?_
   have hE := Env.refl a1 [8, 9]
   refine sd 8 hE k (Z00 rfl rfl) ?_
   intro a2 hE e8 kp
   refine sd 9 hE k (Z00 rfl rfl) ?_
   intro a3 hE e9 kp
   refine wpList_nil ?_
   replace e0 := hE.g e0; replace e1 := hE.g e1; replace e2 := hE.g e2; replace e3 := hE.g e3
   replace k := k.env hE
   clear hE e9
   refine Z01 (wp_seq ?_)
   refine wp_seq ?_
   refine wp_region_lit ?_
   have hE := Env.refl a3 [10, 11, 12, 13, 14, 15, 16, 17]
   refine sm 10 hE k e2 ?_
   intro a4 hE e10 kp
   apply Z08 11 hE k rfl (by rfl) (by rfl) rfl
   case h =>
    simp [go_sem, ↓IntWalk.iteOmega, ev e10]
    with_reducible exact ⟨rfl, rfl⟩
   case hc => exact Z1e at_ _
   rintro e w6 ⟨rfl, R⟩
   replace O := OwnT.ext O R
   refine ⟨_, congrArg (fun b => Ending.returned (.bool b)) (decide_eq_true h1), ?_⟩
   intro a5 hE e11 kp
   refine sd 12 hE k (Z0u rfl e11) ?_
   intro a7 hE e12 kp
   refine sd 13 hE k (Z03 rfl e12) ?_
   intro a8 hE e13 kp
   apply Z04 14 hE k rfl rfl rfl rfl rfl e13
   case h =>
    exact Z03 rfl (hE.g e3)
   intro a9 hE e14 kp
   replace e13 := kt kp e13
   apply Z18 15 hE k rfl (by rfl) (by rfl) rfl rfl e13
   case h =>
    simp [go_sem, ↓IntWalk.iteOmega, ev e14]
    with_reducible exact ⟨rfl, rfl⟩
   case hc => exact Z31 ch _
   rintro e w11 ⟨rfl, R⟩
   replace O := OwnT.ext O R
   refine ⟨_, congrArg (fun b => Ending.returned (.bool b)) (decide_eq_false h2), ?_⟩
   intro a10 hE e15 kp
   replace e13 := kt kp e13
   apply Z04 16 hE k rfl rfl rfl rfl rfl e13
   case h =>
    exact Z0u rfl e15
   intro a12 hE e16 kp
   replace e13 := kt kp e13
   refine sd 17 hE k (Z07 rfl e13 e16) ?_
   intro a13 hE e17 kp
   refine wpList_nil ?_
   replace e0 := hE.g e0; replace e1 := hE.g e1; replace e2 := hE.g e2; replace e3 := hE.g e3
   replace k := k.env hE
   clear hE
   refine Z01 ?_
   refine Z0b e17 rfl ?_
   refine wp_seq ?_
   refine wp_region_lit ?_
   have hE := Env.refl a13 [8, 9]
   refine sd 8 hE k (Z00 rfl rfl) ?_
   intro a14 hE e8 kp
   refine sd 9 hE k (Z00 rfl rfl) ?_
   intro a15 hE e9 kp
   replace e8 := kt kp e8
   refine wpList_nil ?_
   replace k := k.env hE
   clear hE e0 e1 e2 e3 e17
   refine Z01 ?_
   refine wp_ret ?_
   refine Z0c ?_
   refine Z1d rfl k e8 e9 ?_
   exact ⟨rfl, O.below⟩
 · skip
   refine wp_seq ?_
   refine wp_region_lit ?_
   have hE := Env.refl a1 [8, 9]
   refine sd 8 hE k (Z00 rfl rfl) ?_
   intro a16 hE e8 kp
   refine sd 9 hE k (Z00 rfl rfl) ?_
   intro a17 hE e9 kp
   refine wpList_nil ?_
   replace e0 := hE.g e0; replace e1 := hE.g e1; replace e2 := hE.g e2; replace e3 := hE.g e3
   replace k := k.env hE
   clear hE e9
   refine Z01 (wp_seq ?_)
   refine wp_seq ?_
   refine wp_region_lit ?_
   have hE := Env.refl a17 [10, 11, 12, 13, 14, 15, 16, 17]
   refine sm 10 hE k e2 ?_
   intro a18 hE e10 kp
   apply Z08 11 hE k rfl (by rfl) (by rfl) rfl
   case h =>
    simp [go_sem, ↓IntWalk.iteOmega, ev e10]
    with_reducible exact ⟨rfl, rfl⟩
   case hc => exact Z1e at_ _
   rintro e w20 ⟨rfl, R⟩
   replace O := OwnT.ext O R
   refine ⟨_, congrArg (fun b => Ending.returned (.bool b)) (decide_eq_false h1), ?_⟩
   intro a19 hE e11 kp
   refine sd 12 hE k (Z0u rfl e11) ?_
   intro a21 hE e12 kp
   refine sd 13 hE k (Z03 rfl e12) ?_
   intro a22 hE e13 kp
   refine Z09 14 hE k rfl (by rfl) (by rfl) rfl rfl (.inl e13) ?_
   intro a23 hE e14 kp
   replace e13 := kt kp e13
   refine Z09 15 hE k rfl (by rfl) (by rfl) rfl rfl (.inl e13) ?_
   intro a24 hE e15 kp
   replace e13 := kt kp e13
   refine Z09 16 hE k rfl (by rfl) (by rfl) rfl rfl (.inl e13) ?_
   intro a25 hE e16 kp
   replace e13 := kt kp e13
   refine sd 17 hE k (Z0a rfl e13 rfl) ?_
   intro a26 hE e17 kp
   refine wpList_nil ?_
   replace e0 := hE.g e0; replace e1 := hE.g e1; replace e2 := hE.g e2; replace e3 := hE.g e3
   replace k := k.env hE
   clear hE
   refine Z01 ?_
   refine Z0b e17 rfl ?_
   refine wp_seq ?_
   refine wp_region_lit ?_
   have hE := Env.refl a26 [8, 9]
   refine sd 8 hE k (Z00 rfl rfl) ?_
   intro a27 hE e8 kp
   refine sd 9 hE k (Z00 rfl rfl) ?_
   intro a28 hE e9 kp
   replace e8 := kt kp e8
   refine wpList_nil ?_
   replace k := k.env hE
   clear hE e0 e1 e2 e3 e17
   refine Z01 ?_
   refine wp_ret ?_
   refine Z0c ?_
   refine Z1d rfl k e8 e9 ?_
   exact ⟨rfl, O.below⟩
set_option maxRecDepth 100000 in
set_option maxHeartbeats 4000000 in
theorem mSet {H : Nat} {A0 : World} {R : List Thing} {sb cap : Nat} {room : Int} {B : Option Addr} {vs : List Value} {N : List Nd} {root c : Nat} {P : List Pr} {ky ch : Nat} (w : World) (O : OwnT H A0 (shT sb room B cap vs N R) w) (hT : Tre N root c P) (hc : c ≤ 119) (hN : N.length ≤ 511) (hk : ky < 64) (hch : 1 ≤ ch ∧ ch ≤ 1023) : Calls Try.prog 33 #[.iface 24 (.pointer (some ⟨sb, 0, none⟩)), .int .i64 root, .int .i64 ky, .int .i64 ch] w fun e w' => ∃ N' root' er B' cap' vs', e = .returned (.tuple #[.int .i64 root', .int .i64 er]) ∧ OwnT H A0 (shT sb room B' cap' vs' N' R) w' ∧ PutL N N' room root ky ch c P root' er := by
 refine Z0d Try.func33 rfl 27 rfl (by rfl) ?_
 intro a1 k hargs
 have e0 : a1.eval (.tmp 0) = .iface 24 (.pointer (some ⟨sb, 0, none⟩)) := hargs 0 _ rfl
 have e1 : a1.eval (.tmp 1) = .int .i64 ↑root := hargs 1 _ rfl
 have e2 : a1.eval (.tmp 2) = .int .i64 ↑ky := hargs 2 _ rfl
 have e3 : a1.eval (.tmp 3) = .int .i64 ↑ch := hargs 3 _ rfl
 clear hargs
 refine wp_seq ?_
 refine wp_region_lit ?_
 have hE := Env.refl a1 [8, 9]
 refine sd 8 hE k (Z00 rfl rfl) ?_
 intro a2 hE e8 kp
 refine sd 9 hE k (Z00 rfl rfl) ?_
 intro a3 hE e9 kp
 refine wpList_nil ?_
 replace e0 := hE.g e0; replace e1 := hE.g e1; replace e2 := hE.g e2; replace e3 := hE.g e3
 replace k := k.env hE
 clear hE e9
 refine Z01 (wp_seq ?_)
 refine wp_seq ?_
 refine wp_region_lit ?_
 have hE := Env.refl a3 [10, 11, 12, 13, 14, 15, 16, 17]
 refine sm 10 hE k e2 ?_
 intro a4 hE e10 kp
 apply Z08 11 hE k rfl (by rfl) (by rfl) rfl
 case h =>
  simp [go_sem, ↓IntWalk.iteOmega, ev e10]
  with_reducible exact ⟨rfl, rfl⟩
 case hc => exact Z1e (ky : Int) _
 rintro e w6 ⟨rfl, RE⟩
 replace O := OwnT.ext O RE
 refine ⟨_, congrArg (fun b => Ending.returned (.bool b)) (decide_eq_true (by omega)), ?_⟩
 intro a5 hE e11 kp
 refine sd 12 hE k (Z0u rfl e11) ?_
 intro a7 hE e12 kp
 refine sd 13 hE k (Z03 rfl e12) ?_
 intro a8 hE e13 kp
 apply Z04 14 hE k rfl rfl rfl rfl rfl e13
 case h =>
  exact Z03 rfl (hE.g e3)
 intro a9 hE e14 kp
 replace e13 := kt kp e13
 apply Z18 15 hE k rfl (by rfl) (by rfl) rfl rfl e13
 case h =>
  simp [go_sem, ↓IntWalk.iteOmega, ev e14]
  with_reducible exact ⟨rfl, rfl⟩
 case hc => exact Z31 (ch : Int) _
 rintro e w11 ⟨rfl, RE⟩
 replace O := OwnT.ext O RE
 refine ⟨_, congrArg (fun b => Ending.returned (.bool b)) (decide_eq_true (by omega)), ?_⟩
 intro a10 hE e15 kp
 replace e13 := kt kp e13
 apply Z04 16 hE k rfl rfl rfl rfl rfl e13
 case h =>
  exact Z0u rfl e15
 intro a12 hE e16 kp
 replace e13 := kt kp e13
 refine sd 17 hE k (Z07 rfl e13 e16) ?_
 intro a13 hE e17 kp
 refine wpList_nil ?_
 replace e0 := hE.g e0; replace e1 := hE.g e1; replace e2 := hE.g e2; replace e3 := hE.g e3
 replace k := k.env hE
 clear hE
 refine Z01 ?_
 refine Z05 e17 rfl ?_
 refine wp_skip ?_
 refine Z01 (wp_seq ?_)
 refine wp_region_lit ?_
 have hE := Env.refl a13 [18, 19, 20, 21, 22, 23, 24, 25, 26, 8, 9]
 refine sm 18 hE k e0 ?_
 intro a14 hE e18 kp
 refine sm 19 hE k e1 ?_
 intro a15 hE e19 kp
 replace e18 := kt kp e18
 refine sm 20 hE k e2 ?_
 intro a16 hE e20 kp
 replace e18 := kt kp e18; replace e19 := kt kp e19
 refine sd 21 hE k (Z23 rfl e20 (Z2w ky _ (by omega))) ?_
 intro a17 hE e21 kp
 replace e18 := kt kp e18; replace e19 := kt kp e19
 refine sm 22 hE k e3 ?_
 intro a18 hE e22 kp
 replace e18 := kt kp e18; replace e19 := kt kp e19; replace e21 := kt kp e21
 refine sd 23 hE k (Z23 rfl e22 (Z2w ch _ (by omega))) ?_
 intro a19 hE e23 kp
 replace e18 := kt kp e18; replace e19 := kt kp e19; replace e21 := kt kp e21
 apply Z08 24 hE k rfl (by rfl) (by rfl) rfl
 case h =>
  simp [go_sem, ↓IntWalk.iteOmega, ev e18, ev e19, ev e21, ev e23]
  with_reducible exact ⟨rfl, rfl⟩
 case hc => exact lPut _ O hT hc hN (by omega) (by omega)
 clear O
 rintro e w21 ⟨N2, r2, er, B2, cap2, vs2, rfl, O, hP⟩
 refine ⟨_, rfl, ?_⟩
 intro a20 hE e24 kp
 apply Z02 25 hE k rfl rfl rfl rfl
 case h =>
  simp [go_sem, ↓IntWalk.iteOmega, ev e24]
  with_reducible rfl
 intro a22 hE e25 kp
 replace e24 := kt kp e24
 apply Z02 26 hE k rfl rfl rfl rfl
 case h =>
  simp [go_sem, ↓IntWalk.iteOmega, ev e24]
  with_reducible rfl
 intro a23 hE e26 kp
 replace e25 := kt kp e25
 refine sd 8 hE k (Z00 rfl e25) ?_
 intro a24 hE e8 kp
 replace e26 := kt kp e26
 refine sd 9 hE k (Z00 rfl e26) ?_
 intro a25 hE e9 kp
 replace e8 := kt kp e8
 refine wpList_nil ?_
 replace k := k.env hE
 clear hE e0 e1 e2 e3 e17
 refine Z01 ?_
 refine wp_ret ?_
 refine Z1d rfl k e8 e9 ?_
 exact ⟨N2, r2, er, B2, cap2, vs2, rfl, O, hP⟩
set_option maxRecDepth 100000 in
set_option maxHeartbeats 4000000 in
theorem mGet_bad {root : Nat} {u : Value} (at_ : Int) (W0 : World) (h1 : ¬ (0 ≤ at_ ∧ at_ < 64)) : Calls Try.prog 34 #[u, .int .i64 root, .int .i64 at_] W0 fun e w' => e = .returned (.tuple #[.int .i64 0, .int .i64 1]) ∧ Ext W0 w' := by
 have O := OwnT.start W0
 refine Z0d Try.func34 rfl 26 rfl (by rfl) ?_
 intro a1 k hargs
 have e0 : a1.eval (.tmp 0) = u := hargs 0 _ rfl
 have e1 : a1.eval (.tmp 1) = .int .i64 ↑root := hargs 1 _ rfl
 have e2 : a1.eval (.tmp 2) = .int .i64 at_ := hargs 2 _ rfl
 clear hargs
 refine wp_seq ?_
 refine wp_region_lit ?_
 have hE := Env.refl a1 [6, 7]
 refine sd 6 hE k (Z00 rfl rfl) ?_
 intro a2 hE e6 kp
 refine sd 7 hE k (Z00 rfl rfl) ?_
 intro a3 hE e7 kp
 refine wpList_nil ?_
 replace e0 := hE.g e0; replace e1 := hE.g e1; replace e2 := hE.g e2
 replace k := k.env hE
 clear hE e7
 refine Z01 (wp_seq ?_)
 refine wp_seq ?_
 refine wp_region_lit ?_
 have hE := Env.refl a3 [11, 12, 13]
 refine sm 11 hE k e2 ?_
 intro a4 hE e11 kp
 apply Z08 12 hE k rfl (by rfl) (by rfl) rfl
 case h =>
  simp [go_sem, ↓IntWalk.iteOmega, ev e11]
  with_reducible exact ⟨rfl, rfl⟩
 case hc => exact Z1e at_ _
 rintro e w6 ⟨rfl, R⟩
 replace O := OwnT.ext O R
 refine ⟨_, congrArg (fun b => Ending.returned (.bool b)) (decide_eq_false h1), ?_⟩
 intro a5 hE e12 kp
 refine sd 13 hE k (Z0u rfl e12) ?_
 intro a7 hE e13 kp
 refine wpList_nil ?_
 replace e0 := hE.g e0; replace e1 := hE.g e1; replace e2 := hE.g e2
 replace k := k.env hE
 clear hE
 refine Z01 ?_
 refine Z0b e13 rfl ?_
 refine wp_seq ?_
 refine wp_region_lit ?_
 have hE := Env.refl a7 [6, 7]
 refine sd 6 hE k (Z00 rfl rfl) ?_
 intro a8 hE e6 kp
 refine sd 7 hE k (Z00 rfl rfl) ?_
 intro a9 hE e7 kp
 replace e6 := kt kp e6
 refine wpList_nil ?_
 replace k := k.env hE
 clear hE e0 e1 e2 e13
 refine Z01 ?_
 refine wp_ret ?_
 refine Z0c ?_
 refine Z1d rfl k e6 e7 ?_
 exact ⟨rfl, O.below⟩
set_option maxRecDepth 100000 in
set_option maxHeartbeats 4000000 in
theorem mGet {H : Nat} {A0 : World} {R : List Thing} {sb cap : Nat} {room : Int} {B : Option Addr} {vs : List Value} {N : List Nd} {root c : Nat} {P : List Pr} {ky : Nat} (w : World) (O : OwnT H A0 (shT sb room B cap vs N R) w) (hT : Tre N root c P) (hN : N.length ≤ 511) (hk : ky < 64) (hv : ∀ x ∈ P, x.2 ≤ 1000000) : Calls Try.prog 34 #[.iface 24 (.pointer (some ⟨sb, 0, none⟩)), .int .i64 root, .int .i64 ky] w fun e w' => e = .returned (.tuple #[.int .i64 ((lookP ky P).getD 0 : Nat), .int .i64 0]) ∧ OwnT H A0 (shT sb room B cap vs N R) w' := by
 have hv2 : (lookP ky P).getD 0 ≤ 1000000 := by
  unfold lookP
  cases h : P.find? fun y => decide (y.1 = ky) with
  | none => simp
  | some y => have := hv y (List.mem_of_find?_eq_some h); simpa using this
 obtain ⟨z, hz⟩ : ∃ z, (lookP ky P).getD 0 = z := ⟨_, rfl⟩
 obtain ⟨bb, hbb⟩ : ∃ z, (lookP ky P).isSome = z := ⟨_, rfl⟩
 have hG := lGet (ky := ky) (H := H) (A0 := A0) (R := R) (sb := sb) (cap := cap) (room := room) (B := B) (vs := vs) (hT := hT) (hN := hN)
 rw [hz, hbb] at hG
 rw [hz] at hv2 ⊢

 refine Z0d Try.func34 rfl 26 rfl (by rfl) ?_
 intro a1 k hargs
 have e0 : a1.eval (.tmp 0) = .iface 24 (.pointer (some ⟨sb, 0, none⟩)) := hargs 0 _ rfl
 have e1 : a1.eval (.tmp 1) = .int .i64 ↑root := hargs 1 _ rfl
 have e2 : a1.eval (.tmp 2) = .int .i64 ↑ky := hargs 2 _ rfl
 clear hargs
 refine wp_seq ?_
 refine wp_region_lit ?_
 have hE := Env.refl a1 [6, 7]
 refine sd 6 hE k (Z00 rfl rfl) ?_
 intro a2 hE e6 kp
 refine sd 7 hE k (Z00 rfl rfl) ?_
 intro a3 hE e7 kp
 refine wpList_nil ?_
 replace e0 := hE.g e0; replace e1 := hE.g e1; replace e2 := hE.g e2
 replace k := k.env hE
 clear hE e7
 refine Z01 (wp_seq ?_)
 refine wp_seq ?_
 refine wp_region_lit ?_
 have hE := Env.refl a3 [11, 12, 13]
 refine sm 11 hE k e2 ?_
 intro a4 hE e11 kp
 apply Z08 12 hE k rfl (by rfl) (by rfl) rfl
 case h =>
  simp [go_sem, ↓IntWalk.iteOmega, ev e11]
  with_reducible exact ⟨rfl, rfl⟩
 case hc => exact Z1e (ky : Int) _
 rintro e w6 ⟨rfl, RE⟩
 replace O := OwnT.ext O RE
 refine ⟨_, congrArg (fun b => Ending.returned (.bool b)) (decide_eq_true (by omega)), ?_⟩
 intro a5 hE e12 kp
 refine sd 13 hE k (Z0u rfl e12) ?_
 intro a7 hE e13 kp
 refine wpList_nil ?_
 replace e0 := hE.g e0; replace e1 := hE.g e1; replace e2 := hE.g e2
 replace k := k.env hE
 clear hE
 refine Z01 ?_
 refine Z05 e13 rfl ?_
 refine wp_skip ?_
 refine Z01 (wp_seq ?_)
 refine wp_region_lit ?_
 have hE := Env.refl a7 [15, 16, 17, 18, 19, 14, 20, 21, 22, 8, 9, 10]
 refine sm 15 hE k e0 ?_
 intro a8 hE e15 kp
 refine sm 16 hE k e1 ?_
 intro a9 hE e16 kp
 replace e15 := kt kp e15
 refine sm 17 hE k e2 ?_
 intro a10 hE e17 kp
 replace e15 := kt kp e15; replace e16 := kt kp e16
 refine sd 18 hE k (Z23 rfl e17 (Z2w ky _ (by omega))) ?_
 intro a11 hE e18 kp
 replace e15 := kt kp e15; replace e16 := kt kp e16
 apply Z08 19 hE k rfl (by rfl) (by rfl) rfl
 case h =>
  simp [go_sem, ↓IntWalk.iteOmega, ev e15, ev e16, ev e18]
  with_reducible exact ⟨rfl, rfl⟩
 case hc => exact hG _ O
 clear O
 rintro e w13 ⟨rfl, O⟩
 refine ⟨_, rfl, ?_⟩
 intro a12 hE e19 kp
 refine sd 14 hE k (Z03 rfl e19) ?_
 intro a14 hE e14 kp
 apply Z02 20 hE k rfl rfl rfl rfl
 case h =>
  simp [go_sem, ↓IntWalk.iteOmega, ev e14]
  with_reducible rfl
 intro a15 hE e20 kp
 replace e14 := kt kp e14
 apply Z02 21 hE k rfl rfl rfl rfl
 case h =>
  simp [go_sem, ↓IntWalk.iteOmega, ev e14]
  with_reducible rfl
 intro a16 hE e21 kp
 replace e14 := kt kp e14; replace e20 := kt kp e20
 apply Z02 22 hE k rfl rfl rfl rfl
 case h =>
  simp [go_sem, ↓IntWalk.iteOmega, ev e14]
  with_reducible rfl
 intro a17 hE e22 kp
 replace e20 := kt kp e20; replace e21 := kt kp e21
 refine sd 8 hE k (Z00 rfl e20) ?_
 intro a18 hE e8 kp
 replace e21 := kt kp e21; replace e22 := kt kp e22
 refine sd 9 hE k (Z00 rfl e21) ?_
 intro a19 hE e9 kp
 replace e22 := kt kp e22; replace e8 := kt kp e8
 refine sd 10 hE k (Z00 rfl e22) ?_
 intro a20 hE e10 kp
 replace e8 := kt kp e8
 refine wpList_nil ?_
 replace k := k.env hE
 clear hE e0 e1 e2 e13
 refine Z01 (wp_seq ?_)
 refine wp_region_lit ?_
 have hE := Env.refl a20 [23, 24, 25, 6, 7]
 refine sm 23 hE k e8 ?_
 intro a21 hE e23 kp
 refine sd 24 hE k (Z23 rfl e23 (Z1p z _ (by omega))) ?_
 intro a22 hE e24 kp
 refine sm 25 hE k e10 ?_
 intro a23 hE e25 kp
 replace e24 := kt kp e24
 refine sd 6 hE k (Z00 rfl e24) ?_
 intro a24 hE e6 kp
 replace e25 := kt kp e25
 refine sd 7 hE k (Z00 rfl e25) ?_
 intro a25 hE e7 kp
 replace e6 := kt kp e6
 refine wpList_nil ?_
 replace k := k.env hE
 clear hE e8 e10
 refine Z01 ?_
 refine wp_ret ?_
 refine Z1d rfl k e6 e7 ?_
 exact ⟨rfl, O⟩
set_option maxRecDepth 100000 in
set_option maxHeartbeats 4000000 in
theorem mList {H : Nat} {A0 : World} {R : List Thing} {sb cap : Nat} {room : Int} {B : Option Addr} {vs : List Value} {N : List Nd} {root c : Nat} {P : List Pr} (w : World) (O : OwnT H A0 (shT sb room B cap vs N R) w) (hT : Tre N root c P) (hc : c ≤ 1000) (hN : N.length ≤ 511) : Calls Try.prog 31 #[.iface 24 (.pointer (some ⟨sb, 0, none⟩)), .int .i64 root] w fun e w' => (P.all enOk = true ∧ ∃ B' c', e = .returned (.tuple #[.slice B' P.length c', .int .i64 0]) ∧ OwnT H A0 (shT sb room B cap vs N (tEs (.slice B' P.length c') P :: R)) w') ∨ (P.all enOk = false ∧ e = .returned (.tuple #[.slice none 0 0, .int .i64 3]) ∧ OwnT H A0 (shT sb room B cap vs N R) w') := by
 refine Z0d Try.func31 rfl 51 rfl (by rfl) ?_
 intro a1 k hargs
 have e0 : a1.eval (.tmp 0) = .iface 24 (.pointer (some ⟨sb, 0, none⟩)) := hargs 0 _ rfl
 have e1 : a1.eval (.tmp 1) = .int .i64 ↑root := hargs 1 _ rfl
 clear hargs
 refine wp_seq ?_
 refine wp_region_lit ?_
 have hE := Env.refl a1 [4, 5]
 refine sd 4 hE k (Z00 rfl rfl) ?_
 intro a2 hE e4 kp
 refine sd 5 hE k (Z00 rfl rfl) ?_
 intro a3 hE e5 kp
 refine wpList_nil ?_
 replace e0 := hE.g e0; replace e1 := hE.g e1
 replace k := k.env hE
 clear hE e5
 refine Z01 (wp_seq ?_)
 refine wp_region_lit ?_
 have hE := Env.refl a3 [12, 13, 14, 11, 15, 16, 6, 7]
 refine sm 12 hE k e0 ?_
 intro a4 hE e12 kp
 refine sm 13 hE k e1 ?_
 intro a5 hE e13 kp
 replace e12 := kt kp e12
 apply Z08 14 hE k rfl (by rfl) (by rfl) rfl
 case h =>
  simp [go_sem, ↓IntWalk.iteOmega, ev e12, ev e13]
  with_reducible exact ⟨rfl, rfl⟩
 case hc => exact lAll _ O hT hc hN
 clear O
 rintro e w7 ⟨Bp, cp, rfl, O⟩
 refine ⟨_, rfl, ?_⟩
 intro a6 hE e14 kp
 refine sd 11 hE k (Z03 rfl e14) ?_
 intro a8 hE e11 kp
 apply Z02 15 hE k rfl rfl rfl rfl
 case h =>
  simp [go_sem, ↓IntWalk.iteOmega, ev e11]
  with_reducible rfl
 intro a9 hE e15 kp
 replace e11 := kt kp e11
 apply Z02 16 hE k rfl rfl rfl rfl
 case h =>
  simp [go_sem, ↓IntWalk.iteOmega, ev e11]
  with_reducible rfl
 intro a10 hE e16 kp
 replace e15 := kt kp e15
 refine sd 6 hE k (Z00 rfl e15) ?_
 intro a11 hE e6 kp
 replace e16 := kt kp e16
 refine sd 7 hE k (Z00 rfl e16) ?_
 intro a12 hE e7 kp
 replace e6 := kt kp e6
 refine wpList_nil ?_
 replace k := k.env hE
 clear hE e0 e1
 refine Z01 (wp_seq ?_)
 refine wp_seq ?_
 refine wp_region_lit ?_
 have hE := Env.refl a12 [17, 18]
 refine sm 17 hE k e7 ?_
 intro a13 hE e17 kp
 refine sd 18 hE k (Z06 (Z0v rfl e17 rfl) (decide_eq_false (by omega))) ?_
 intro a14 hE e18 kp
 refine wpList_nil ?_
 replace e6 := hE.g e6; replace e7 := hE.g e7
 replace k := k.env hE
 clear hE
 refine Z01 ?_
 refine Z05 e18 rfl ?_
 refine wp_skip ?_
 refine Z01 (wp_seq ?_)
 refine wp_region_lit ?_
 have hE := Env.refl a14 [8]
 refine sd 8 hE k (Z00 rfl rfl) ?_
 intro a15 hE e8 kp
 refine wpList_nil ?_
 replace e6 := hE.g e6
 replace k := k.env hE
 clear hE e7 e18
 refine Z01 (wp_seq ?_)
 refine wp_seq ?_
 refine wp_region_lit ?_
 have hE := Env.refl a15 [20, 21, 22]
 refine sm 20 hE k e6 ?_
 intro a16 hE e20 kp
 refine sd 21 hE k (Z0j Try.underlying29 rfl e20) ?_
 intro a17 hE e21 kp
 replace e20 := kt kp e20
 refine sd 22 hE k (Z03 rfl rfl) ?_
 intro a18 hE e22 kp
 replace e20 := kt kp e20; replace e21 := kt kp e21
 refine wpList_nil ?_
 replace e8 := hE.g e8
 replace k := k.env hE
 clear hE e6
 refine Z01 ?_
 refine wp_block ?_
 replace O := OwnT.nilRow O 67 2
 have hPl := hT.len
 refine wp_loop (fun a w => Fr 51 a ∧ a.eval (.tmp 20) = .slice Bp P.length cp ∧ a.eval (.tmp 21) = .int .i64 ↑P.length ∧ ∃ (i : Nat) (Bo : Option Addr) (co : Nat), a.eval (.tmp 8) = .slice Bo i co ∧ a.eval (.tmp 22) = .int .i64 ↑i ∧ i ≤ P.length ∧ (∀ x ∈ P.take i, enOk x = true) ∧ OwnT H A0 ((tRow 67 2 (.slice Bo i co) i (flatE (P.take i))) :: (tPs (.slice Bp P.length cp) P) :: (tBlk sb 28 #[.slice B N.length cap, .int .i64 room]) :: (tRow 125 2 (.slice B N.length cap) N.length (leafV vs N)) :: (tPool vs N) :: R) w) (fun a w => P.length - (intOf (a.eval (.tmp 22))).toNat) ?_ ?_
 · exact ⟨k, e20, e21, 0, none, 0, e8, e22, Nat.zero_le _, (fun x h => by simp at h), (OwnT.pickR (L := [_, _, _, _, _]) (R := R) O [0, 4, 1, 2, 3] (by decide))⟩
 intro a19 w20 hI
 clear k e20 e21
 obtain ⟨k, e20, e21, h_⟩ := hI
 clear O e8 e22
 obtain ⟨i, Bo, co, e8, e22, hi, hall, O⟩ := h_
 have mi := e22
 by_cases hlt : i < P.length
 · skip
   have hltI : (i : Int) < (P.length : Int) := by omega
   obtain ⟨x, hx⟩ : ∃ x, P[i]? = some x := ⟨_, List.getElem?_eq_getElem (by omega)⟩
   obtain ⟨-, gp, rfl, d0, d1⟩ := ps_cells (OwnT.get O 1 rfl) hx
   obtain ⟨x1, x2⟩ := x
   refine wp_seq ?_
   refine wp_region_lit ?_
   have hE := Env.refl a19 [23]
   refine sd 23 hE k (Z06 (Z0x rfl (hE.g e22) (hE.g e21)) (decide_eq_true (by omega))) ?_
   intro a21 hE e23 kp
   refine wpList_nil ?_
   replace e8 := hE.g e8; replace e20 := hE.g e20; replace e21 := hE.g e21; replace e22 := hE.g e22
   replace k := k.env hE
   clear hE
   refine Z01 (wp_seq ?_)
   refine Z0b e23 rfl ?_
   refine wp_skip ?_
   refine Z01 (wp_seq ?_)
   refine wp_block ?_
   refine wp_seq ?_
   refine wp_region_lit ?_
   have hE := Env.refl a21 [24, 25, 10]
   apply Z02 24 hE k rfl rfl rfl rfl
   case h =>
    simp [go_sem, ↓IntWalk.iteOmega, ev (hE.g e20), ev (hE.g e22)]
    with_reducible rfl
   intro a22 hE e24 kp
   apply Z02 25 hE k rfl rfl rfl rfl
   case h =>
    simp [go_sem, ↓IntWalk.iteOmega, ev e24, d0, d1]
    with_reducible rfl
   intro a23 hE e25 kp
   refine Z0m O (cs := #[.int .u64 0, .int .u64 0]) (t := 38) 10 hE k rfl (by rfl) (by rfl) rfl (by simp [go_sem, ↓IntWalk.iteOmega]) ?_
   clear O
   intro nb a24 w25 O hE e10 kp
   replace e25 := kt kp e25
   have q0 : w25.cell? ⟨nb, 0, none⟩ = some (.int .u64 0) := (OwnT.blk O 0 rfl).cell 0
   have z0 : w25.frozen? ⟨nb, 0, none⟩ = false := (OwnT.blk O 0 rfl).frozen 0
   have q1 : w25.cell? ⟨nb, 1, none⟩ = some (.int .u64 0) := (OwnT.blk O 0 rfl).cell 1
   have z1 : w25.frozen? ⟨nb, 1, none⟩ = false := (OwnT.blk O 0 rfl).frozen 1
   refine Z0h (w' := ((w25.setCell ⟨nb, 0, none⟩ (.int .u64 ↑x1)).setCell ⟨nb, 1, none⟩ (.int .u64 ↑x2))) hE rfl rfl (by simp [go_sem, ↓IntWalk.iteOmega, ev e10, ev e25, q0, z0, q1, z1]) ?_
   replace O := OwnT.push 0 rfl (((OwnT.pull O 0 rfl).set 0 (.int .u64 ↑x1)).set 1 (.int .u64 ↑x2))
   clear q0 z0 q1 z1
   generalize ((w25.setCell ⟨nb, 0, none⟩ (.int .u64 ↑x1)).setCell ⟨nb, 1, none⟩ (.int .u64 ↑x2)) = w26 at O ⊢
   replace O : OwnT _ _ ((tBlk nb 38 #[.int .u64 ↑x1, .int .u64 ↑x2]) :: (tRow 67 2 (.slice Bo i co) i (flatE (P.take i))) :: (tPs (.slice (some ⟨gp, 0, none⟩) P.length cp) P) :: (tBlk sb 28 #[.slice B N.length cap, .int .i64 room]) :: (tRow 125 2 (.slice B N.length cap) N.length (leafV vs N)) :: (tPool vs N) :: R) w26 := O
   refine wpList_nil ?_
   replace e8 := hE.g e8; replace e20 := hE.g e20; replace e21 := hE.g e21; replace e22 := hE.g e22
   replace k := k.env hE
   clear hE e23 e25
   refine Z01 ?_
   clear d0 d1
   by_cases hg : enOk (x1, x2) = true
   · have hg' := of_decide_eq_true hg
     have hg2 : x1 < 64 ∧ 1 ≤ x2 ∧ x2 ≤ 1023 := hg'
     refine wp_seq ?_
     refine wp_seq ?_
     refine wp_region_lit ?_
     have hE := Env.refl a24 [26, 27, 28, 29, 30, 31, 32, 33, 34, 35, 36, 37, 38]
     apply Z02 26 hE k rfl rfl rfl rfl
     case h =>
      simp [go_sem, ↓IntWalk.iteOmega, ev (hE.g e10)]
      with_reducible rfl
     intro a27 hE e26 kp
     apply Z02 27 hE k rfl rfl rfl rfl
     case h =>
      have q0 : w26.cell? ⟨nb, 0, none⟩ = some (.int .u64 ↑x1) := (OwnT.blk O 0 rfl).cell 0
      simp [go_sem, ↓IntWalk.iteOmega, ev e26, q0]
      with_reducible rfl
     intro a28 hE e27 kp
     refine sd 28 hE k (Z06 (Z1z rfl e27 rfl) (decide_eq_false (by omega))) ?_
     intro a29 hE e28 kp
     refine sd 29 hE k (Z03 rfl e28) ?_
     intro a30 hE e29 kp
     apply Z04 30 hE k rfl rfl rfl rfl rfl e29
     case h =>
      simp [go_sem, ↓IntWalk.iteOmega, ev (hE.g e10)]
      with_reducible rfl
     intro a31 hE e30 kp
     replace e29 := kt kp e29
     apply Z04 31 hE k rfl rfl rfl rfl rfl e29
     case h =>
      have q0 : w26.cell? ⟨nb, 1, none⟩ = some (.int .u64 ↑x2) := (OwnT.blk O 0 rfl).cell 1
      simp [go_sem, ↓IntWalk.iteOmega, ev e30, q0]
      with_reducible rfl
     intro a32 hE e31 kp
     replace e29 := kt kp e29
     apply Z04 32 hE k rfl rfl rfl rfl rfl e29
     case h =>
      exact Z06 (Z0x rfl e31 rfl) (decide_eq_false (by omega))
     intro a33 hE e32 kp
     replace e29 := kt kp e29
     refine sd 33 hE k (Z07 rfl e29 e32) ?_
     intro a34 hE e33 kp
     refine sd 34 hE k (Z03 rfl e33) ?_
     intro a35 hE e34 kp
     apply Z04 35 hE k rfl rfl rfl rfl rfl e34
     case h =>
      simp [go_sem, ↓IntWalk.iteOmega, ev (hE.g e10)]
      with_reducible rfl
     intro a36 hE e35 kp
     replace e34 := kt kp e34
     apply Z04 36 hE k rfl rfl rfl rfl rfl e34
     case h =>
      have q0 : w26.cell? ⟨nb, 1, none⟩ = some (.int .u64 ↑x2) := (OwnT.blk O 0 rfl).cell 1
      simp [go_sem, ↓IntWalk.iteOmega, ev e35, q0]
      with_reducible rfl
     intro a37 hE e36 kp
     replace e34 := kt kp e34
     apply Z04 37 hE k rfl rfl rfl rfl rfl e34
     case h =>
      exact Z06 (Z21 rfl e36 rfl) (decide_eq_false (by omega))
     intro a38 hE e37 kp
     replace e34 := kt kp e34
     refine sd 38 hE k (Z07 rfl e34 e37) ?_
     intro a39 hE e38 kp
     refine wpList_nil ?_
     replace e8 := hE.g e8; replace e10 := hE.g e10; replace e20 := hE.g e20; replace e21 := hE.g e21; replace e22 := hE.g e22
     replace k := k.env hE
     clear hE
     refine Z01 ?_
     refine Z05 e38 rfl ?_
     refine wp_skip ?_
     refine Z01 ?_
     replace O : OwnT _ _ ((tRow 67 2 (.slice Bo i co) i (flatE (P.take i))) :: (tPs (.slice (some ⟨gp, 0, none⟩) P.length cp) P) :: (tBlk sb 28 #[.slice B N.length cap, .int .i64 room]) :: (tRow 125 2 (.slice B N.length cap) N.length (leafV vs N)) :: (tPool vs N) :: (tBlk nb 38 #[.int .u64 ↑x1, .int .u64 ↑x2]) :: R) w26 := OwnT.pickR (L := [_, _, _, _, _, _]) (R := R) O [1, 2, 3, 4, 5, 0] (by decide)
     refine wp_region_lit ?_
     have hE := Env.refl a39 [39, 40, 41, 42, 43, 44, 45, 46, 47, 48, 8]
     refine sd 39 hE k (Z03 rfl e8) ?_
     intro a40 hE e39 kp
     replace e8 := kt kp e8
     apply Z02 40 hE k rfl rfl rfl rfl
     case h =>
      simp [go_sem, ↓IntWalk.iteOmega, ev (hE.g e10)]
      with_reducible rfl
     intro a41 hE e40 kp
     replace e8 := kt kp e8; replace e39 := kt kp e39
     apply Z02 41 hE k rfl rfl rfl rfl
     case h =>
      have q0 : w26.cell? ⟨nb, 0, none⟩ = some (.int .u64 ↑x1) := (OwnT.blk O 5 rfl).cell 0
      simp [go_sem, ↓IntWalk.iteOmega, ev e40, q0]
      with_reducible rfl
     intro a42 hE e41 kp
     replace e8 := kt kp e8; replace e39 := kt kp e39
     refine sd 42 hE k (Z23 rfl e41 (Z1p x1 _ (by omega))) ?_
     intro a43 hE e42 kp
     replace e8 := kt kp e8; replace e39 := kt kp e39
     apply Z02 43 hE k rfl rfl rfl rfl
     case h =>
      simp [go_sem, ↓IntWalk.iteOmega, ev (hE.g e10)]
      with_reducible rfl
     intro a44 hE e43 kp
     replace e8 := kt kp e8; replace e39 := kt kp e39; replace e42 := kt kp e42
     apply Z02 44 hE k rfl rfl rfl rfl
     case h =>
      have q0 : w26.cell? ⟨nb, 1, none⟩ = some (.int .u64 ↑x2) := (OwnT.blk O 5 rfl).cell 1
      simp [go_sem, ↓IntWalk.iteOmega, ev e43, q0]
      with_reducible rfl
     intro a45 hE e44 kp
     replace e8 := kt kp e8; replace e39 := kt kp e39; replace e42 := kt kp e42
     refine sd 45 hE k (Z23 rfl e44 (Z1p x2 _ (by omega))) ?_
     intro a46 hE e45 kp
     replace e8 := kt kp e8; replace e39 := kt kp e39; replace e42 := kt kp e42
     apply Z02 46 hE k rfl rfl rfl rfl
     case h =>
      simp [go_sem, ↓IntWalk.iteOmega, ev e42, ev e45]
      with_reducible rfl
     intro a47 hE e46 kp
     replace e8 := kt kp e8; replace e39 := kt kp e39
     refine Z1s (m := 1) (c := 1) O (cs := #[.int .i64 ↑x1, .int .i64 ↑x2]) (t := 67) 47 hE k rfl (by rfl) (by rfl) rfl (by simp [go_sem, ↓IntWalk.iteOmega, ev e46]) ?_
     clear O
     intro gn a48 w49 O hE e47 kp
     replace e8 := kt kp e8; replace e39 := kt kp e39
     obtain ⟨gr, cr, w50, hrun, O⟩ := Z2p O elemEn (by decide) rfl (by intro u hu; simp at hu; rcases hu with rfl | rfl <;> rfl) (by unfold maxLen; omega) (by omega)
     apply Z1n 48 hE k rfl (by rfl) (by rfl) rfl
     case h => exact Z1r rfl e39 e47 (hrun _)
     clear hrun
     intro a51 hE e48 kp
     replace e8 := kt kp e8
     refine sd 8 hE k (Z00 rfl e48) ?_
     intro a52 hE e8 kp
     refine wpList_nil ?_
     replace e20 := hE.g e20; replace e21 := hE.g e21; replace e22 := hE.g e22
     replace k := k.env hE
     clear hE e10 e38
     refine Z0i ?_
     refine Z01 ?_
     refine wp_region_lit ?_
     have hE := Env.refl a52 [49, 22]
     refine sd 49 hE k (Z12 rfl e22 rfl (by omega)) ?_
     intro a53 hE e49 kp
     replace e22 := kt kp e22
     refine sd 22 hE k (Z03 rfl e49) ?_
     intro a54 hE e22 kp
     refine wpList_nil ?_
     replace e8 := hE.g e8; replace e20 := hE.g e20; replace e21 := hE.g e21
     replace k := k.env hE
     clear hE
     refine Z01 ?_
     replace O : OwnT _ _ ((tRow 67 2 (.slice (some ⟨gr, 0, none⟩) ((i + 1)) cr) (i + 1) ((flatE (P.take i)) ++ [Value.int .i64 (x1 : Int), Value.int .i64 (x2 : Int)])) :: (tPs (.slice (some ⟨gp, 0, none⟩) P.length cp) P) :: (tBlk sb 28 #[.slice B N.length cap, .int .i64 room]) :: (tRow 125 2 (.slice B N.length cap) N.length (leafV vs N)) :: (tPool vs N) :: R) w50 := OwnT.pickR (L := [_, _, _, _, _, _]) (R := R) O [0, 1, 2, 3, 4] (by decide)
     have htk : P.take (i + 1) = P.take i ++ [(x1, x2)] := by rw [List.take_add_one, hx]; rfl
     rw [show flatE (P.take i) ++ [Value.int .i64 (x1 : Int), Value.int .i64 (x2 : Int)] = flatE (P.take (i + 1)) by rw [htk, flatE, flatE, List.flatMap_append]; rfl] at O
     refine ⟨⟨k, e20, e21, i + 1, some ⟨gr, 0, none⟩, cr, e8, e22, by omega, fun u hu => ?_, O⟩, ?_⟩

     · rw [htk] at hu; rcases List.mem_append.1 hu with hu | hu
       · exact hall u hu
       · obtain rfl : u = (x1, x2) := by simpa using hu
         exact hg
     · rw [e22, mi]; simp only [intOf]; omega
   · have hbad : P.all enOk = false := by rw [Bool.eq_false_iff]; exact fun h => hg (List.all_eq_true.1 h _ (List.mem_of_getElem? hx))
     have hg2 : ¬ (x1 < 64 ∧ 1 ≤ x2 ∧ x2 ≤ 1023) := fun h => hg (decide_eq_true h)
     have O9 := OwnT.pickR (L := [_, _, _, _, _, _]) (R := R) O [3, 4, 5] (by decide)
     by_cases c1 : 64 ≤ x1
     · skip
       refine wp_seq ?_
       refine wp_seq ?_
       refine wp_region_lit ?_
       have hE := Env.refl a24 [26, 27, 28, 29, 30, 31, 32, 33, 34, 35, 36, 37, 38]
       apply Z02 26 hE k rfl rfl rfl rfl
       case h =>
        simp [go_sem, ↓IntWalk.iteOmega, ev (hE.g e10)]
        with_reducible rfl
       intro a55 hE e26 kp
       apply Z02 27 hE k rfl rfl rfl rfl
       case h =>
        have q0 : w26.cell? ⟨nb, 0, none⟩ = some (.int .u64 ↑x1) := (OwnT.blk O 0 rfl).cell 0
        simp [go_sem, ↓IntWalk.iteOmega, ev e26, q0]
        with_reducible rfl
       intro a56 hE e27 kp
       refine sd 28 hE k (Z06 (Z1z rfl e27 rfl) (decide_eq_true (by omega))) ?_
       intro a57 hE e28 kp
       refine sd 29 hE k (Z03 rfl e28) ?_
       intro a58 hE e29 kp
       refine Z09 30 hE k rfl (by rfl) (by rfl) rfl rfl (.inl e29) ?_
       intro a59 hE e30 kp
       replace e29 := kt kp e29
       refine Z09 31 hE k rfl (by rfl) (by rfl) rfl rfl (.inl e29) ?_
       intro a60 hE e31 kp
       replace e29 := kt kp e29
       refine Z09 32 hE k rfl (by rfl) (by rfl) rfl rfl (.inl e29) ?_
       intro a61 hE e32 kp
       replace e29 := kt kp e29
       refine sd 33 hE k (Z0a rfl e29 rfl) ?_
       intro a62 hE e33 kp
       refine sd 34 hE k (Z03 rfl e33) ?_
       intro a63 hE e34 kp
       refine Z09 35 hE k rfl (by rfl) (by rfl) rfl rfl (.inl e34) ?_
       intro a64 hE e35 kp
       replace e34 := kt kp e34
       refine Z09 36 hE k rfl (by rfl) (by rfl) rfl rfl (.inl e34) ?_
       intro a65 hE e36 kp
       replace e34 := kt kp e34
       refine Z09 37 hE k rfl (by rfl) (by rfl) rfl rfl (.inl e34) ?_
       intro a66 hE e37 kp
       replace e34 := kt kp e34
       refine sd 38 hE k (Z0a rfl e34 rfl) ?_
       intro a67 hE e38 kp
       refine wpList_nil ?_
       replace e8 := hE.g e8; replace e10 := hE.g e10; replace e20 := hE.g e20; replace e21 := hE.g e21; replace e22 := hE.g e22
       replace k := k.env hE
       clear hE
       refine Z01 ?_
       refine Z0b e38 rfl ?_
       refine wp_seq ?_
       refine wp_region_lit ?_
       have hE := Env.refl a67 [4, 5]
       refine sd 4 hE k (Z00 rfl rfl) ?_
       intro a68 hE e4 kp
       refine sd 5 hE k (Z00 rfl rfl) ?_
       intro a69 hE e5 kp
       replace e4 := kt kp e4
       refine wpList_nil ?_
       replace k := k.env hE
       clear hE e8 e10 e20 e21 e22 e38
       refine Z01 ?_
       refine wp_ret ?_
       refine Z0c ?_
       refine Z0q ?_
       refine Z0c ?_
       refine Z0c ?_
       refine Z0q ?_
       refine Z0c ?_
       refine Z1d rfl k e4 e5 ?_
       exact (.inr ⟨hbad, rfl, O9.ext (Ext.refl _)⟩)
     · skip
       by_cases c2 : x2 < 1
       · skip
         refine wp_seq ?_
         refine wp_seq ?_
         refine wp_region_lit ?_
         have hE := Env.refl a24 [26, 27, 28, 29, 30, 31, 32, 33, 34, 35, 36, 37, 38]
         apply Z02 26 hE k rfl rfl rfl rfl
         case h =>
          simp [go_sem, ↓IntWalk.iteOmega, ev (hE.g e10)]
          with_reducible rfl
         intro a70 hE e26 kp
         apply Z02 27 hE k rfl rfl rfl rfl
         case h =>
          have q0 : w26.cell? ⟨nb, 0, none⟩ = some (.int .u64 ↑x1) := (OwnT.blk O 0 rfl).cell 0
          simp [go_sem, ↓IntWalk.iteOmega, ev e26, q0]
          with_reducible rfl
         intro a71 hE e27 kp
         refine sd 28 hE k (Z06 (Z1z rfl e27 rfl) (decide_eq_false (by omega))) ?_
         intro a72 hE e28 kp
         refine sd 29 hE k (Z03 rfl e28) ?_
         intro a73 hE e29 kp
         apply Z04 30 hE k rfl rfl rfl rfl rfl e29
         case h =>
          simp [go_sem, ↓IntWalk.iteOmega, ev (hE.g e10)]
          with_reducible rfl
         intro a74 hE e30 kp
         replace e29 := kt kp e29
         apply Z04 31 hE k rfl rfl rfl rfl rfl e29
         case h =>
          have q0 : w26.cell? ⟨nb, 1, none⟩ = some (.int .u64 ↑x2) := (OwnT.blk O 0 rfl).cell 1
          simp [go_sem, ↓IntWalk.iteOmega, ev e30, q0]
          with_reducible rfl
         intro a75 hE e31 kp
         replace e29 := kt kp e29
         apply Z04 32 hE k rfl rfl rfl rfl rfl e29
         case h =>
          exact Z06 (Z0x rfl e31 rfl) (decide_eq_true (by omega))
         intro a76 hE e32 kp
         replace e29 := kt kp e29
         refine sd 33 hE k (Z07 rfl e29 e32) ?_
         intro a77 hE e33 kp
         refine sd 34 hE k (Z03 rfl e33) ?_
         intro a78 hE e34 kp
         refine Z09 35 hE k rfl (by rfl) (by rfl) rfl rfl (.inl e34) ?_
         intro a79 hE e35 kp
         replace e34 := kt kp e34
         refine Z09 36 hE k rfl (by rfl) (by rfl) rfl rfl (.inl e34) ?_
         intro a80 hE e36 kp
         replace e34 := kt kp e34
         refine Z09 37 hE k rfl (by rfl) (by rfl) rfl rfl (.inl e34) ?_
         intro a81 hE e37 kp
         replace e34 := kt kp e34
         refine sd 38 hE k (Z0a rfl e34 rfl) ?_
         intro a82 hE e38 kp
         refine wpList_nil ?_
         replace e8 := hE.g e8; replace e10 := hE.g e10; replace e20 := hE.g e20; replace e21 := hE.g e21; replace e22 := hE.g e22
         replace k := k.env hE
         clear hE
         refine Z01 ?_
         refine Z0b e38 rfl ?_
         refine wp_seq ?_
         refine wp_region_lit ?_
         have hE := Env.refl a82 [4, 5]
         refine sd 4 hE k (Z00 rfl rfl) ?_
         intro a83 hE e4 kp
         refine sd 5 hE k (Z00 rfl rfl) ?_
         intro a84 hE e5 kp
         replace e4 := kt kp e4
         refine wpList_nil ?_
         replace k := k.env hE
         clear hE e8 e10 e20 e21 e22 e38
         refine Z01 ?_
         refine wp_ret ?_
         refine Z0c ?_
         refine Z0q ?_
         refine Z0c ?_
         refine Z0c ?_
         refine Z0q ?_
         refine Z0c ?_
         refine Z1d rfl k e4 e5 ?_
         exact (.inr ⟨hbad, rfl, O9.ext (Ext.refl _)⟩)
       · skip
         refine wp_seq ?_
         refine wp_seq ?_
         refine wp_region_lit ?_
         have hE := Env.refl a24 [26, 27, 28, 29, 30, 31, 32, 33, 34, 35, 36, 37, 38]
         apply Z02 26 hE k rfl rfl rfl rfl
         case h =>
          simp [go_sem, ↓IntWalk.iteOmega, ev (hE.g e10)]
          with_reducible rfl
         intro a85 hE e26 kp
         apply Z02 27 hE k rfl rfl rfl rfl
         case h =>
          have q0 : w26.cell? ⟨nb, 0, none⟩ = some (.int .u64 ↑x1) := (OwnT.blk O 0 rfl).cell 0
          simp [go_sem, ↓IntWalk.iteOmega, ev e26, q0]
          with_reducible rfl
         intro a86 hE e27 kp
         refine sd 28 hE k (Z06 (Z1z rfl e27 rfl) (decide_eq_false (by omega))) ?_
         intro a87 hE e28 kp
         refine sd 29 hE k (Z03 rfl e28) ?_
         intro a88 hE e29 kp
         apply Z04 30 hE k rfl rfl rfl rfl rfl e29
         case h =>
          simp [go_sem, ↓IntWalk.iteOmega, ev (hE.g e10)]
          with_reducible rfl
         intro a89 hE e30 kp
         replace e29 := kt kp e29
         apply Z04 31 hE k rfl rfl rfl rfl rfl e29
         case h =>
          have q0 : w26.cell? ⟨nb, 1, none⟩ = some (.int .u64 ↑x2) := (OwnT.blk O 0 rfl).cell 1
          simp [go_sem, ↓IntWalk.iteOmega, ev e30, q0]
          with_reducible rfl
         intro a90 hE e31 kp
         replace e29 := kt kp e29
         apply Z04 32 hE k rfl rfl rfl rfl rfl e29
         case h =>
          exact Z06 (Z0x rfl e31 rfl) (decide_eq_false (by omega))
         intro a91 hE e32 kp
         replace e29 := kt kp e29
         refine sd 33 hE k (Z07 rfl e29 e32) ?_
         intro a92 hE e33 kp
         refine sd 34 hE k (Z03 rfl e33) ?_
         intro a93 hE e34 kp
         apply Z04 35 hE k rfl rfl rfl rfl rfl e34
         case h =>
          simp [go_sem, ↓IntWalk.iteOmega, ev (hE.g e10)]
          with_reducible rfl
         intro a94 hE e35 kp
         replace e34 := kt kp e34
         apply Z04 36 hE k rfl rfl rfl rfl rfl e34
         case h =>
          have q0 : w26.cell? ⟨nb, 1, none⟩ = some (.int .u64 ↑x2) := (OwnT.blk O 0 rfl).cell 1
          simp [go_sem, ↓IntWalk.iteOmega, ev e35, q0]
          with_reducible rfl
         intro a95 hE e36 kp
         replace e34 := kt kp e34
         apply Z04 37 hE k rfl rfl rfl rfl rfl e34
         case h =>
          exact Z06 (Z21 rfl e36 rfl) (decide_eq_true (by omega))
         intro a96 hE e37 kp
         replace e34 := kt kp e34
         refine sd 38 hE k (Z07 rfl e34 e37) ?_
         intro a97 hE e38 kp
         refine wpList_nil ?_
         replace e8 := hE.g e8; replace e10 := hE.g e10; replace e20 := hE.g e20; replace e21 := hE.g e21; replace e22 := hE.g e22
         replace k := k.env hE
         clear hE
         refine Z01 ?_
         refine Z0b e38 rfl ?_
         refine wp_seq ?_
         refine wp_region_lit ?_
         have hE := Env.refl a97 [4, 5]
         refine sd 4 hE k (Z00 rfl rfl) ?_
         intro a98 hE e4 kp
         refine sd 5 hE k (Z00 rfl rfl) ?_
         intro a99 hE e5 kp
         replace e4 := kt kp e4
         refine wpList_nil ?_
         replace k := k.env hE
         clear hE e8 e10 e20 e21 e22 e38
         refine Z01 ?_
         refine wp_ret ?_
         refine Z0c ?_
         refine Z0q ?_
         refine Z0c ?_
         refine Z0c ?_
         refine Z0q ?_
         refine Z0c ?_
         refine Z1d rfl k e4 e5 ?_
         exact (.inr ⟨hbad, rfl, O9.ext (Ext.refl _)⟩)
 · skip
   obtain rfl : i = P.length := by omega
   rw [List.take_length] at hall O
   refine wp_seq ?_
   refine wp_region_lit ?_
   have hE := Env.refl a19 [23]
   refine sd 23 hE k (Z06 (Z0x rfl (hE.g e22) (hE.g e21)) (decide_eq_false (by omega))) ?_
   intro a100 hE e23 kp
   refine wpList_nil ?_
   replace e8 := hE.g e8; replace e20 := hE.g e20; replace e21 := hE.g e21; replace e22 := hE.g e22
   replace k := k.env hE
   clear hE
   refine Z01 (wp_seq ?_)
   refine Z05 e23 rfl ?_
   refine wp_exit ?_
   refine Z0o ?_
   refine Z0o ?_
   refine Z15 ?_
   refine Z01 (wp_seq ?_)
   refine wp_region_lit ?_
   have hE := Env.refl a100 [50, 4, 5]
   refine sm 50 hE k e8 ?_
   intro a101 hE e50 kp
   refine sd 4 hE k (Z00 rfl e50) ?_
   intro a102 hE e4 kp
   refine sd 5 hE k (Z00 rfl rfl) ?_
   intro a103 hE e5 kp
   replace e4 := kt kp e4
   refine wpList_nil ?_
   replace k := k.env hE
   clear hE e8 e20 e21 e22 e23
   refine Z01 ?_
   refine wp_ret ?_
   refine Z1d rfl k e4 e5 ?_
   exact (.inl ⟨List.all_eq_true.2 hall, Bo, co, rfl, OwnT.pickR (L := [_, _, _, _, _]) (R := R) O [2, 3, 4, 0] (by decide)⟩)
end Go.Proofs.Ytngehbhhpkkijaa
