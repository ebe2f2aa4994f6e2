/- maps: Clear (printed by XMgD.gen.py). -/
import Derived.Test.YtngehbhhpkkijaaKMapsExact36
namespace Go.Proofs.Ytngehbhhpkkijaa
attribute [local simp] BigFrame.eval_const BigFrame.eval_global BigFrame.eval_func
set_option linter.unusedVariables false
set_option linter.unusedSimpArgs false
open Go.RowKit Go.Maps

set_option maxRecDepth 100000 in
set_option maxHeartbeats 4000000 in
theorem Z7g {root : Nat} {u : Value} (at_ : Int) (W0 : World) (h1 : ¬ (0 ≤ at_ ∧ at_ < 64)) : Calls Try.prog 36 #[u, .int .i64 root, .int .i64 at_] W0 fun e w' => e = .returned (.tuple #[.int .i64 0, .int .i64 1]) ∧ Ext W0 w' := by
 have O := OwnT.start W0
 refine Z0d Try.func36 rfl 25 rfl (by rfl) ?_
 intro a1 k hargs
 have e0 : a1.eval (.tmp 0) = u := hargs 0 _ rfl
 have e1 : a1.eval (.tmp 1) = .int .i64 ↑root := hargs 1 _ rfl
 have e2 : a1.eval (.tmp 2) = .int .i64 at_ := hargs 2 _ rfl
 clear hargs
 refine wp_seq ?_
 refine wp_region_lit ?_
 have hE := Env.refl a1 [6, 7]
 refine sd 6 hE k (Z00 rfl rfl) ?_
 intro a2 hE e6 kp
 refine sd 7 hE k (Z00 rfl rfl) ?_
 intro a3 hE e7 kp
 refine wpList_nil ?_
 replace e0 := hE.g e0; replace e1 := hE.g e1; replace e2 := hE.g e2
 replace k := k.env hE
 clear hE e7
 refine Z01 (wp_seq ?_)
 refine wp_seq ?_
 refine wp_region_lit ?_
 have hE := Env.refl a3 [11, 12, 13]
 refine sm 11 hE k e2 ?_
 intro a4 hE e11 kp
 apply Z08 12 hE k rfl (by rfl) (by rfl) rfl
 case h =>
  simp [go_sem, ↓IntWalk.iteOmega, ev e11]
  with_reducible exact ⟨rfl, rfl⟩
 case hc => exact Z1e at_ _
 rintro e w6 ⟨rfl, R⟩
 replace O := OwnT.ext O R
 refine ⟨_, congrArg (fun b => Ending.returned (.bool b)) (decide_eq_false h1), ?_⟩
 intro a5 hE e12 kp
 refine sd 13 hE k (Z0u rfl e12) ?_
 intro a7 hE e13 kp
 refine wpList_nil ?_
 replace e0 := hE.g e0; replace e1 := hE.g e1; replace e2 := hE.g e2
 replace k := k.env hE
 clear hE
 refine Z01 ?_
 refine Z0b e13 rfl ?_
 refine wp_seq ?_
 refine wp_region_lit ?_
 have hE := Env.refl a7 [6, 7]
 refine sd 6 hE k (Z00 rfl rfl) ?_
 intro a8 hE e6 kp
 refine sd 7 hE k (Z00 rfl rfl) ?_
 intro a9 hE e7 kp
 replace e6 := kt kp e6
 refine wpList_nil ?_
 replace k := k.env hE
 clear hE e0 e1 e2 e13
 refine Z01 ?_
 refine wp_ret ?_
 refine Z0c ?_
 refine Z1d rfl k e6 e7 ?_
 exact ⟨rfl, O.below⟩
set_option maxRecDepth 100000 in
set_option maxHeartbeats 4000000 in
theorem mClear {H : Nat} {A0 : World} {R : List Thing} {sb cap : Nat} {room : Int} {B : Option Addr} {vs : List Value} {N : List Nd} {root c : Nat} {P : List Pr} {ky : Nat} (w : World) (O : OwnT H A0 (shT sb room B cap vs N R) w) (hT : Tre N root c P) (hN : N.length ≤ 500) (hk : ky < 64) : Calls Try.prog 36 #[.iface 24 (.pointer (some ⟨sb, 0, none⟩)), .int .i64 root, .int .i64 ky] w fun e w' => ∃ N' root' ok er B' cap' vs', e = .returned (.tuple #[.int .i64 root', .int .i64 er]) ∧ OwnT H A0 (shT sb room B' cap' vs' N' R) w' ∧ DropL N N' room root ky c P root' ok er := by
 refine Z0d Try.func36 rfl 25 rfl (by rfl) ?_
 intro a1 k hargs
 have e0 : a1.eval (.tmp 0) = .iface 24 (.pointer (some ⟨sb, 0, none⟩)) := hargs 0 _ rfl
 have e1 : a1.eval (.tmp 1) = .int .i64 ↑root := hargs 1 _ rfl
 have e2 : a1.eval (.tmp 2) = .int .i64 ↑ky := hargs 2 _ rfl
 clear hargs
 refine wp_seq ?_
 refine wp_region_lit ?_
 have hE := Env.refl a1 [6, 7]
 refine sd 6 hE k (Z00 rfl rfl) ?_
 intro a2 hE e6 kp
 refine sd 7 hE k (Z00 rfl rfl) ?_
 intro a3 hE e7 kp
 refine wpList_nil ?_
 replace e0 := hE.g e0; replace e1 := hE.g e1; replace e2 := hE.g e2
 replace k := k.env hE
 clear hE e7
 refine Z01 (wp_seq ?_)
 refine wp_seq ?_
 refine wp_region_lit ?_
 have hE := Env.refl a3 [11, 12, 13]
 refine sm 11 hE k e2 ?_
 intro a4 hE e11 kp
 apply Z08 12 hE k rfl (by rfl) (by rfl) rfl
 case h =>
  simp [go_sem, ↓IntWalk.iteOmega, ev e11]
  with_reducible exact ⟨rfl, rfl⟩
 case hc => exact Z1e (ky : Int) _
 rintro e w6 ⟨rfl, RE⟩
 replace O := OwnT.ext O RE
 refine ⟨_, congrArg (fun b => Ending.returned (.bool b)) (decide_eq_true (by omega)), ?_⟩
 intro a5 hE e12 kp
 refine sd 13 hE k (Z0u rfl e12) ?_
 intro a7 hE e13 kp
 refine wpList_nil ?_
 replace e0 := hE.g e0; replace e1 := hE.g e1; replace e2 := hE.g e2
 replace k := k.env hE
 clear hE
 refine Z01 ?_
 refine Z05 e13 rfl ?_
 refine wp_skip ?_
 refine Z01 (wp_seq ?_)
 refine wp_region_lit ?_
 have hE := Env.refl a7 [15, 16, 17, 18, 19, 14, 20, 21, 22, 8, 9, 10]
 refine sm 15 hE k e0 ?_
 intro a8 hE e15 kp
 refine sm 16 hE k e1 ?_
 intro a9 hE e16 kp
 replace e15 := kt kp e15
 refine sm 17 hE k e2 ?_
 intro a10 hE e17 kp
 replace e15 := kt kp e15; replace e16 := kt kp e16
 refine sd 18 hE k (Z23 rfl e17 (Z2w ky _ (by omega))) ?_
 intro a11 hE e18 kp
 replace e15 := kt kp e15; replace e16 := kt kp e16
 apply Z08 19 hE k rfl (by rfl) (by rfl) rfl
 case h =>
  simp [go_sem, ↓IntWalk.iteOmega, ev e15, ev e16, ev e18]
  with_reducible exact ⟨rfl, rfl⟩
 case hc => exact lDrop (ky := ky) _ O hT hN
 clear O
 rintro e w13 ⟨N2, r2, ok, er, B2, cap2, vs2, rfl, O, hP⟩
 refine ⟨_, rfl, ?_⟩
 intro a12 hE e19 kp
 refine sd 14 hE k (Z03 rfl e19) ?_
 intro a14 hE e14 kp
 apply Z02 20 hE k rfl rfl rfl rfl
 case h =>
  simp [go_sem, ↓IntWalk.iteOmega, ev e14]
  with_reducible rfl
 intro a15 hE e20 kp
 replace e14 := kt kp e14
 apply Z02 21 hE k rfl rfl rfl rfl
 case h =>
  simp [go_sem, ↓IntWalk.iteOmega, ev e14]
  with_reducible rfl
 intro a16 hE e21 kp
 replace e14 := kt kp e14; replace e20 := kt kp e20
 apply Z02 22 hE k rfl rfl rfl rfl
 case h =>
  simp [go_sem, ↓IntWalk.iteOmega, ev e14]
  with_reducible rfl
 intro a17 hE e22 kp
 replace e20 := kt kp e20; replace e21 := kt kp e21
 refine sd 8 hE k (Z00 rfl e20) ?_
 intro a18 hE e8 kp
 replace e21 := kt kp e21; replace e22 := kt kp e22
 refine sd 9 hE k (Z00 rfl e21) ?_
 intro a19 hE e9 kp
 replace e22 := kt kp e22; replace e8 := kt kp e8
 refine sd 10 hE k (Z00 rfl e22) ?_
 intro a20 hE e10 kp
 replace e8 := kt kp e8
 refine wpList_nil ?_
 replace k := k.env hE
 clear hE e0 e1 e2 e13
 refine Z01 (wp_seq ?_)
 refine wp_region_lit ?_
 have hE := Env.refl a20 [23, 24, 6, 7]
 refine sm 23 hE k e8 ?_
 intro a21 hE e23 kp
 refine sm 24 hE k e10 ?_
 intro a22 hE e24 kp
 replace e23 := kt kp e23
 refine sd 6 hE k (Z00 rfl e23) ?_
 intro a23 hE e6 kp
 replace e24 := kt kp e24
 refine sd 7 hE k (Z00 rfl e24) ?_
 intro a24 hE e7 kp
 replace e6 := kt kp e6
 refine wpList_nil ?_
 replace k := k.env hE
 clear hE e8 e10
 refine Z01 ?_
 refine wp_ret ?_
 refine Z1d rfl k e6 e7 ?_
 exact ⟨N2, r2, ok, er, B2, cap2, vs2, rfl, O, hP⟩
end Go.Proofs.Ytngehbhhpkkijaa
