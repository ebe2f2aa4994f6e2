/- tierceref05: Good (printed by XLeafMb.gen.py). -/
import Derived.Test.YtakkhglbdljfiaaGreatDoorKStoreOpens09
import Derived.Test.YtakkhglbdljfiaaGreatDoorKStoreOpens01
namespace Go.Proofs.YtakkhglbdljfiaaGreatDoor
attribute [local simp] BigFrame.eval_const BigFrame.eval_global BigFrame.eval_func
set_option linter.unusedVariables false
set_option linter.unusedSimpArgs false
open Go.RowKit Go.Maps

theorem Z4t {lv : Int} {xs : List (Nat × Nat)} (h : ¬ ((0 ≤ lv ∧ lv < 8 ∧ xs.length ≤ 15) ∧ (lv ≤ 0 ∨ 0 < xs.length))) : goodB lv xs = false := by
 cases hb : goodB lv xs with
 | false => rfl
 | true => exact absurd ⟨((Z1a lv xs).1 hb).1, ((Z1a lv xs).1 hb).2.1⟩ h
theorem Z32 {lv : Int} {xs : List (Nat × Nat)} {j : Nat} (hj : j < xs.length) (h : ¬ okAt lv xs j) : goodB lv xs = false := by
 cases hb : goodB lv xs with
 | false => rfl
 | true => exact absurd (((Z1a lv xs).1 hb).2.2 j hj) h

set_option maxRecDepth 100000 in
set_option maxHeartbeats 8000000 in
theorem rgood_any (lv : Int) (A : Option Addr) (len cap : Nat) (xs : List (Nat × Nat)) (W0 : World) (hlen : xs.length = len) (hm : len ≤ 1000000) (hrow : Row W0 A 2 pairC xs) (hx : ∀ x ∈ xs, x.1 < 18446744073709551616) : Calls Tryz.prog 51 #[.agg #[.int .i64 lv, .slice A len cap]] W0 fun e w' => e = .returned (.bool (goodB lv xs)) ∧ Ext W0 w' := by
 have O := OwnT.start W0
 refine Z0f Tryz.func51 rfl 77 rfl (by rfl) ?_
 intro a1 k hargs; have e0 : a1.eval (.tmp 0) = .agg #[.int .i64 lv, .slice A len cap] := hargs 0 _ rfl
 clear hargs; refine wp_seq ?_; refine wp_region_lit ?_
 have hE := Env.refl a1 [1, 2]; refine Z0o O (cs := #[.int .i64 lv, .slice A len cap]) (t := 47) 1 hE k rfl (by rfl) (by rfl) rfl (by simp [go_sem, ↓IntWalk.iteOmega, ev (hE.g e0)]) ?_
 clear O; intro lb a2 w3 O hE e1 kp; refine sd 2 hE k (Z01 rfl rfl) ?_; intro a4 hE e2 kp; replace e1 := kt kp e1; refine wpList_nil ?_; replace k := k.env hE; clear hE e0 e2; refine Z00 ?_; by_cases h0 : 0 ≤ lv
 rotate_left
 · skip
   refine wp_seq ?_; refine wp_seq ?_; refine wp_region_lit ?_
   have hE := Env.refl a4 [4, 5, 6, 7, 8, 9, 10, 11, 12, 13, 14, 15, 16, 17, 18, 19, 20, 21, 22, 23, 24, 25, 26, 27, 28]; apply Z04 4 hE k rfl rfl rfl rfl; case h =>
    simp [go_sem, ↓IntWalk.iteOmega, ev (hE.g e1)]
    with_reducible rfl
   intro a5 hE e4 kp; apply Z04 5 hE k rfl rfl rfl rfl; case h =>
    have q0 : w3.cell? ⟨lb, 0, none⟩ = some (.int .i64 lv) := (OwnT.blk O 0 rfl).cell 0
    simp [go_sem, ↓IntWalk.iteOmega, ev e4, q0]
    with_reducible rfl
   intro a6 hE e5 kp; refine sd 6 hE k (Z08 (Z14 rfl e5 rfl) (decide_eq_true (by omega))) ?_
   intro a7 hE e6 kp; refine sd 7 hE k (Z02 rfl e6) ?_; intro a8 hE e7 kp; refine Z05 8 hE k rfl (by rfl) (by rfl) rfl rfl (.inl e7) ?_
   intro a9 hE e8 kp; replace e7 := kt kp e7; refine Z05 9 hE k rfl (by rfl) (by rfl) rfl rfl (.inl e7) ?_
   intro a10 hE e9 kp; replace e7 := kt kp e7; refine Z05 10 hE k rfl (by rfl) (by rfl) rfl rfl (.inl e7) ?_
   intro a11 hE e10 kp; replace e7 := kt kp e7; refine sd 11 hE k (Z0a rfl e7 rfl) ?_; intro a12 hE e11 kp; refine sd 12 hE k (Z02 rfl e11) ?_; intro a13 hE e12 kp; refine Z05 13 hE k rfl (by rfl) (by rfl) rfl rfl (.inl e12) ?_
   intro a14 hE e13 kp; replace e12 := kt kp e12; refine Z05 14 hE k rfl (by rfl) (by rfl) rfl rfl (.inl e12) ?_
   intro a15 hE e14 kp; replace e12 := kt kp e12; refine Z05 15 hE k rfl (by rfl) (by rfl) rfl rfl (.inl e12) ?_
   intro a16 hE e15 kp; replace e12 := kt kp e12; refine Z05 16 hE k rfl (by rfl) (by rfl) rfl rfl (.inl e12) ?_
   intro a17 hE e16 kp; replace e12 := kt kp e12; refine sd 17 hE k (Z0a rfl e12 rfl) ?_; intro a18 hE e17 kp; refine sd 18 hE k (Z02 rfl e17) ?_; intro a19 hE e18 kp; refine Z05 19 hE k rfl (by rfl) (by rfl) rfl rfl (.inl e18) ?_
   intro a20 hE e19 kp; replace e18 := kt kp e18; refine Z05 20 hE k rfl (by rfl) (by rfl) rfl rfl (.inl e18) ?_
   intro a21 hE e20 kp; replace e18 := kt kp e18; refine Z05 21 hE k rfl (by rfl) (by rfl) rfl rfl (.inl e18) ?_
   intro a22 hE e21 kp; replace e18 := kt kp e18; refine Z05 22 hE k rfl (by rfl) (by rfl) rfl rfl (.inl e18) ?_
   intro a23 hE e22 kp; replace e18 := kt kp e18; refine Z05 23 hE k rfl (by rfl) (by rfl) rfl rfl (.inr e22) ?_
   intro a24 hE e23 kp; replace e18 := kt kp e18; replace e22 := kt kp e22; refine Z05 24 hE k rfl (by rfl) (by rfl) rfl rfl (.inr e22) ?_
   intro a25 hE e24 kp; replace e18 := kt kp e18; replace e22 := kt kp e22; refine Z05 25 hE k rfl (by rfl) (by rfl) rfl rfl (.inr e22) ?_
   intro a26 hE e25 kp; replace e18 := kt kp e18; replace e22 := kt kp e22; refine Z05 26 hE k rfl (by rfl) (by rfl) rfl rfl (.inr e22) ?_
   intro a27 hE e26 kp; replace e18 := kt kp e18; replace e22 := kt kp e22; refine Z05 27 hE k rfl (by rfl) (by rfl) rfl rfl (.inl e18) ?_
   intro a28 hE e27 kp; replace e18 := kt kp e18; refine sd 28 hE k (Z0a rfl e18 rfl) ?_; intro a29 hE e28 kp; refine wpList_nil ?_; replace e1 := hE.g e1; replace k := k.env hE; clear hE; refine Z00 ?_; refine Z0i e28 rfl ?_
   refine wp_seq ?_; refine wp_region_lit ?_
   have hE := Env.refl a29 [2]; refine sd 2 hE k (Z01 rfl rfl) ?_; intro a30 hE e2 kp; refine wpList_nil ?_; replace k := k.env hE; clear hE e1 e28; refine Z00 ?_; refine wp_ret ?_
   refine Z0h ?_
   refine Z0j rfl k e2 ?_
   exact ⟨congrArg (fun b => Ending.returned (.bool b)) (Z4t (lv := lv) (xs := xs) (by rw [hlen]; omega)).symm, O.below⟩
 by_cases h1 : lv ≤ 7
 rotate_left
 · skip
   refine wp_seq ?_; refine wp_seq ?_; refine wp_region_lit ?_
   have hE := Env.refl a4 [4, 5, 6, 7, 8, 9, 10, 11, 12, 13, 14, 15, 16, 17, 18, 19, 20, 21, 22, 23, 24, 25, 26, 27, 28]; apply Z04 4 hE k rfl rfl rfl rfl; case h =>
    simp [go_sem, ↓IntWalk.iteOmega, ev (hE.g e1)]
    with_reducible rfl
   intro a31 hE e4 kp; apply Z04 5 hE k rfl rfl rfl rfl; case h =>
    have q0 : w3.cell? ⟨lb, 0, none⟩ = some (.int .i64 lv) := (OwnT.blk O 0 rfl).cell 0
    simp [go_sem, ↓IntWalk.iteOmega, ev e4, q0]
    with_reducible rfl
   intro a32 hE e5 kp; refine sd 6 hE k (Z08 (Z14 rfl e5 rfl) (decide_eq_false (by omega))) ?_
   intro a33 hE e6 kp; refine sd 7 hE k (Z02 rfl e6) ?_; intro a34 hE e7 kp; apply Z03 8 hE k rfl rfl rfl rfl rfl e7
   case h =>
    simp [go_sem, ↓IntWalk.iteOmega, ev (hE.g e1)]
    with_reducible rfl
   intro a35 hE e8 kp; replace e7 := kt kp e7; apply Z03 9 hE k rfl rfl rfl rfl rfl e7
   case h =>
    have q0 : w3.cell? ⟨lb, 0, none⟩ = some (.int .i64 lv) := (OwnT.blk O 0 rfl).cell 0
    simp [go_sem, ↓IntWalk.iteOmega, ev e8, q0]
    with_reducible rfl
   intro a36 hE e9 kp; replace e7 := kt kp e7; apply Z03 10 hE k rfl rfl rfl rfl rfl e7
   case h =>
    exact Z08 (Z19 rfl e9 rfl) (decide_eq_true (by omega))
   intro a37 hE e10 kp; replace e7 := kt kp e7; refine sd 11 hE k (Z07 rfl e7 e10) ?_; intro a38 hE e11 kp; refine sd 12 hE k (Z02 rfl e11) ?_; intro a39 hE e12 kp; refine Z05 13 hE k rfl (by rfl) (by rfl) rfl rfl (.inl e12) ?_
   intro a40 hE e13 kp; replace e12 := kt kp e12; refine Z05 14 hE k rfl (by rfl) (by rfl) rfl rfl (.inl e12) ?_
   intro a41 hE e14 kp; replace e12 := kt kp e12; refine Z05 15 hE k rfl (by rfl) (by rfl) rfl rfl (.inl e12) ?_
   intro a42 hE e15 kp; replace e12 := kt kp e12; refine Z05 16 hE k rfl (by rfl) (by rfl) rfl rfl (.inl e12) ?_
   intro a43 hE e16 kp; replace e12 := kt kp e12; refine sd 17 hE k (Z0a rfl e12 rfl) ?_; intro a44 hE e17 kp; refine sd 18 hE k (Z02 rfl e17) ?_; intro a45 hE e18 kp; refine Z05 19 hE k rfl (by rfl) (by rfl) rfl rfl (.inl e18) ?_
   intro a46 hE e19 kp; replace e18 := kt kp e18; refine Z05 20 hE k rfl (by rfl) (by rfl) rfl rfl (.inl e18) ?_
   intro a47 hE e20 kp; replace e18 := kt kp e18; refine Z05 21 hE k rfl (by rfl) (by rfl) rfl rfl (.inl e18) ?_
   intro a48 hE e21 kp; replace e18 := kt kp e18; refine Z05 22 hE k rfl (by rfl) (by rfl) rfl rfl (.inl e18) ?_
   intro a49 hE e22 kp; replace e18 := kt kp e18; refine Z05 23 hE k rfl (by rfl) (by rfl) rfl rfl (.inr e22) ?_
   intro a50 hE e23 kp; replace e18 := kt kp e18; replace e22 := kt kp e22; refine Z05 24 hE k rfl (by rfl) (by rfl) rfl rfl (.inr e22) ?_
   intro a51 hE e24 kp; replace e18 := kt kp e18; replace e22 := kt kp e22; refine Z05 25 hE k rfl (by rfl) (by rfl) rfl rfl (.inr e22) ?_
   intro a52 hE e25 kp; replace e18 := kt kp e18; replace e22 := kt kp e22; refine Z05 26 hE k rfl (by rfl) (by rfl) rfl rfl (.inr e22) ?_
   intro a53 hE e26 kp; replace e18 := kt kp e18; replace e22 := kt kp e22; refine Z05 27 hE k rfl (by rfl) (by rfl) rfl rfl (.inl e18) ?_
   intro a54 hE e27 kp; replace e18 := kt kp e18; refine sd 28 hE k (Z0a rfl e18 rfl) ?_; intro a55 hE e28 kp; refine wpList_nil ?_; replace e1 := hE.g e1; replace k := k.env hE; clear hE; refine Z00 ?_; refine Z0i e28 rfl ?_
   refine wp_seq ?_; refine wp_region_lit ?_
   have hE := Env.refl a55 [2]; refine sd 2 hE k (Z01 rfl rfl) ?_; intro a56 hE e2 kp; refine wpList_nil ?_; replace k := k.env hE; clear hE e1 e28; refine Z00 ?_; refine wp_ret ?_
   refine Z0h ?_
   refine Z0j rfl k e2 ?_
   exact ⟨congrArg (fun b => Ending.returned (.bool b)) (Z4t (lv := lv) (xs := xs) (by rw [hlen]; omega)).symm, O.below⟩
 by_cases h2 : len ≤ 15
 rotate_left
 · skip
   refine wp_seq ?_; refine wp_seq ?_; refine wp_region_lit ?_
   have hE := Env.refl a4 [4, 5, 6, 7, 8, 9, 10, 11, 12, 13, 14, 15, 16, 17, 18, 19, 20, 21, 22, 23, 24, 25, 26, 27, 28]; apply Z04 4 hE k rfl rfl rfl rfl; case h =>
    simp [go_sem, ↓IntWalk.iteOmega, ev (hE.g e1)]
    with_reducible rfl
   intro a57 hE e4 kp; apply Z04 5 hE k rfl rfl rfl rfl; case h =>
    have q0 : w3.cell? ⟨lb, 0, none⟩ = some (.int .i64 lv) := (OwnT.blk O 0 rfl).cell 0
    simp [go_sem, ↓IntWalk.iteOmega, ev e4, q0]
    with_reducible rfl
   intro a58 hE e5 kp; refine sd 6 hE k (Z08 (Z14 rfl e5 rfl) (decide_eq_false (by omega))) ?_
   intro a59 hE e6 kp; refine sd 7 hE k (Z02 rfl e6) ?_; intro a60 hE e7 kp; apply Z03 8 hE k rfl rfl rfl rfl rfl e7
   case h =>
    simp [go_sem, ↓IntWalk.iteOmega, ev (hE.g e1)]
    with_reducible rfl
   intro a61 hE e8 kp; replace e7 := kt kp e7; apply Z03 9 hE k rfl rfl rfl rfl rfl e7
   case h =>
    have q0 : w3.cell? ⟨lb, 0, none⟩ = some (.int .i64 lv) := (OwnT.blk O 0 rfl).cell 0
    simp [go_sem, ↓IntWalk.iteOmega, ev e8, q0]
    with_reducible rfl
   intro a62 hE e9 kp; replace e7 := kt kp e7; apply Z03 10 hE k rfl rfl rfl rfl rfl e7
   case h =>
    exact Z08 (Z19 rfl e9 rfl) (decide_eq_false (by omega))
   intro a63 hE e10 kp; replace e7 := kt kp e7; refine sd 11 hE k (Z07 rfl e7 e10) ?_; intro a64 hE e11 kp; refine sd 12 hE k (Z02 rfl e11) ?_; intro a65 hE e12 kp; apply Z03 13 hE k rfl rfl rfl rfl rfl e12
   case h =>
    simp [go_sem, ↓IntWalk.iteOmega, ev (hE.g e1)]
    with_reducible rfl
   intro a66 hE e13 kp; replace e12 := kt kp e12; apply Z03 14 hE k rfl rfl rfl rfl rfl e12
   case h =>
    have q0 : w3.cell? ⟨lb, 1, none⟩ = some (.slice A len cap) := (OwnT.blk O 0 rfl).cell 1
    simp [go_sem, ↓IntWalk.iteOmega, ev e13, q0]
    with_reducible rfl
   intro a67 hE e14 kp; replace e12 := kt kp e12; apply Z03 15 hE k rfl rfl rfl rfl rfl e12
   case h =>
    exact Z26 Tryz.underlying45 rfl e14
   intro a68 hE e15 kp; replace e12 := kt kp e12; apply Z03 16 hE k rfl rfl rfl rfl rfl e12
   case h =>
    exact Z08 (Z19 rfl e15 rfl) (decide_eq_true (by omega))
   intro a69 hE e16 kp; replace e12 := kt kp e12; refine sd 17 hE k (Z07 rfl e12 e16) ?_; intro a70 hE e17 kp; refine sd 18 hE k (Z02 rfl e17) ?_; intro a71 hE e18 kp; refine Z05 19 hE k rfl (by rfl) (by rfl) rfl rfl (.inl e18) ?_
   intro a72 hE e19 kp; replace e18 := kt kp e18; refine Z05 20 hE k rfl (by rfl) (by rfl) rfl rfl (.inl e18) ?_
   intro a73 hE e20 kp; replace e18 := kt kp e18; refine Z05 21 hE k rfl (by rfl) (by rfl) rfl rfl (.inl e18) ?_
   intro a74 hE e21 kp; replace e18 := kt kp e18; refine Z05 22 hE k rfl (by rfl) (by rfl) rfl rfl (.inl e18) ?_
   intro a75 hE e22 kp; replace e18 := kt kp e18; refine Z05 23 hE k rfl (by rfl) (by rfl) rfl rfl (.inr e22) ?_
   intro a76 hE e23 kp; replace e18 := kt kp e18; replace e22 := kt kp e22; refine Z05 24 hE k rfl (by rfl) (by rfl) rfl rfl (.inr e22) ?_
   intro a77 hE e24 kp; replace e18 := kt kp e18; replace e22 := kt kp e22; refine Z05 25 hE k rfl (by rfl) (by rfl) rfl rfl (.inr e22) ?_
   intro a78 hE e25 kp; replace e18 := kt kp e18; replace e22 := kt kp e22; refine Z05 26 hE k rfl (by rfl) (by rfl) rfl rfl (.inr e22) ?_
   intro a79 hE e26 kp; replace e18 := kt kp e18; replace e22 := kt kp e22; refine Z05 27 hE k rfl (by rfl) (by rfl) rfl rfl (.inl e18) ?_
   intro a80 hE e27 kp; replace e18 := kt kp e18; refine sd 28 hE k (Z0a rfl e18 rfl) ?_; intro a81 hE e28 kp; refine wpList_nil ?_; replace e1 := hE.g e1; replace k := k.env hE; clear hE; refine Z00 ?_; refine Z0i e28 rfl ?_
   refine wp_seq ?_; refine wp_region_lit ?_
   have hE := Env.refl a81 [2]; refine sd 2 hE k (Z01 rfl rfl) ?_; intro a82 hE e2 kp; refine wpList_nil ?_; replace k := k.env hE; clear hE e1 e28; refine Z00 ?_; refine wp_ret ?_
   refine Z0h ?_
   refine Z0j rfl k e2 ?_
   exact ⟨congrArg (fun b => Ending.returned (.bool b)) (Z4t (lv := lv) (xs := xs) (by rw [hlen]; omega)).symm, O.below⟩
 by_cases hs : 0 < lv
 · skip
   by_cases hl : len = 0
   · skip
     refine wp_seq ?_; refine wp_seq ?_; refine wp_region_lit ?_
     have hE := Env.refl a4 [4, 5, 6, 7, 8, 9, 10, 11, 12, 13, 14, 15, 16, 17, 18, 19, 20, 21, 22, 23, 24, 25, 26, 27, 28]; apply Z04 4 hE k rfl rfl rfl rfl; case h =>
      simp [go_sem, ↓IntWalk.iteOmega, ev (hE.g e1)]
      with_reducible rfl
     intro a83 hE e4 kp; apply Z04 5 hE k rfl rfl rfl rfl; case h =>
      have q0 : w3.cell? ⟨lb, 0, none⟩ = some (.int .i64 lv) := (OwnT.blk O 0 rfl).cell 0
      simp [go_sem, ↓IntWalk.iteOmega, ev e4, q0]
      with_reducible rfl
     intro a84 hE e5 kp; refine sd 6 hE k (Z08 (Z14 rfl e5 rfl) (decide_eq_false (by omega))) ?_
     intro a85 hE e6 kp; refine sd 7 hE k (Z02 rfl e6) ?_; intro a86 hE e7 kp; apply Z03 8 hE k rfl rfl rfl rfl rfl e7
     case h =>
      simp [go_sem, ↓IntWalk.iteOmega, ev (hE.g e1)]
      with_reducible rfl
     intro a87 hE e8 kp; replace e7 := kt kp e7; apply Z03 9 hE k rfl rfl rfl rfl rfl e7
     case h =>
      have q0 : w3.cell? ⟨lb, 0, none⟩ = some (.int .i64 lv) := (OwnT.blk O 0 rfl).cell 0
      simp [go_sem, ↓IntWalk.iteOmega, ev e8, q0]
      with_reducible rfl
     intro a88 hE e9 kp; replace e7 := kt kp e7; apply Z03 10 hE k rfl rfl rfl rfl rfl e7
     case h =>
      exact Z08 (Z19 rfl e9 rfl) (decide_eq_false (by omega))
     intro a89 hE e10 kp; replace e7 := kt kp e7; refine sd 11 hE k (Z07 rfl e7 e10) ?_; intro a90 hE e11 kp; refine sd 12 hE k (Z02 rfl e11) ?_; intro a91 hE e12 kp; apply Z03 13 hE k rfl rfl rfl rfl rfl e12
     case h =>
      simp [go_sem, ↓IntWalk.iteOmega, ev (hE.g e1)]
      with_reducible rfl
     intro a92 hE e13 kp; replace e12 := kt kp e12; apply Z03 14 hE k rfl rfl rfl rfl rfl e12
     case h =>
      have q0 : w3.cell? ⟨lb, 1, none⟩ = some (.slice A len cap) := (OwnT.blk O 0 rfl).cell 1
      simp [go_sem, ↓IntWalk.iteOmega, ev e13, q0]
      with_reducible rfl
     intro a93 hE e14 kp; replace e12 := kt kp e12; apply Z03 15 hE k rfl rfl rfl rfl rfl e12
     case h =>
      exact Z26 Tryz.underlying45 rfl e14
     intro a94 hE e15 kp; replace e12 := kt kp e12; apply Z03 16 hE k rfl rfl rfl rfl rfl e12
     case h =>
      exact Z08 (Z19 rfl e15 rfl) (decide_eq_false (by omega))
     intro a95 hE e16 kp; replace e12 := kt kp e12; refine sd 17 hE k (Z07 rfl e12 e16) ?_; intro a96 hE e17 kp; refine sd 18 hE k (Z02 rfl e17) ?_; intro a97 hE e18 kp; apply Z03 19 hE k rfl rfl rfl rfl rfl e18
     case h =>
      simp [go_sem, ↓IntWalk.iteOmega, ev (hE.g e1)]
      with_reducible rfl
     intro a98 hE e19 kp; replace e18 := kt kp e18; apply Z03 20 hE k rfl rfl rfl rfl rfl e18
     case h =>
      have q0 : w3.cell? ⟨lb, 0, none⟩ = some (.int .i64 lv) := (OwnT.blk O 0 rfl).cell 0
      simp [go_sem, ↓IntWalk.iteOmega, ev e19, q0]
      with_reducible rfl
     intro a99 hE e20 kp; replace e18 := kt kp e18; apply Z03 21 hE k rfl rfl rfl rfl rfl e18
     case h =>
      exact Z08 (Z19 rfl e20 rfl) (decide_eq_true (by omega))
     intro a100 hE e21 kp; replace e18 := kt kp e18; apply Z03 22 hE k rfl rfl rfl rfl rfl e18
     case h =>
      exact Z02 rfl e21
     intro a101 hE e22 kp; replace e18 := kt kp e18; apply Z03 23 hE k rfl rfl rfl rfl rfl e22
     case h =>
      simp [go_sem, ↓IntWalk.iteOmega, ev (hE.g e1)]
      with_reducible rfl
     intro a102 hE e23 kp; replace e18 := kt kp e18; replace e22 := kt kp e22; apply Z03 24 hE k rfl rfl rfl rfl rfl e22
     case h =>
      have q0 : w3.cell? ⟨lb, 1, none⟩ = some (.slice A len cap) := (OwnT.blk O 0 rfl).cell 1
      simp [go_sem, ↓IntWalk.iteOmega, ev e23, q0]
      with_reducible rfl
     intro a103 hE e24 kp; replace e18 := kt kp e18; replace e22 := kt kp e22; apply Z03 25 hE k rfl rfl rfl rfl rfl e22
     case h =>
      exact Z26 Tryz.underlying45 rfl e24
     intro a104 hE e25 kp; replace e18 := kt kp e18; replace e22 := kt kp e22; apply Z03 26 hE k rfl rfl rfl rfl rfl e22
     case h =>
      exact Z08 (Z1x rfl e25 rfl) (decide_eq_true (by omega))
     intro a105 hE e26 kp; replace e18 := kt kp e18; replace e22 := kt kp e22; apply Z03 27 hE k rfl rfl rfl rfl rfl e18
     case h =>
      exact Z0a rfl e22 e26
     intro a106 hE e27 kp; replace e18 := kt kp e18; refine sd 28 hE k (Z07 rfl e18 e27) ?_; intro a107 hE e28 kp; refine wpList_nil ?_; replace e1 := hE.g e1; replace k := k.env hE; clear hE; refine Z00 ?_; refine Z0i e28 rfl ?_
     refine wp_seq ?_; refine wp_region_lit ?_
     have hE := Env.refl a107 [2]; refine sd 2 hE k (Z01 rfl rfl) ?_; intro a108 hE e2 kp; refine wpList_nil ?_; replace k := k.env hE; clear hE e1 e28; refine Z00 ?_; refine wp_ret ?_
     refine Z0h ?_
     refine Z0j rfl k e2 ?_
     exact ⟨congrArg (fun b => Ending.returned (.bool b)) (Z4t (lv := lv) (xs := xs) (by rw [hlen]; omega)).symm, O.below⟩
   refine wp_seq ?_; refine wp_seq ?_; refine wp_region_lit ?_
   have hE := Env.refl a4 [4, 5, 6, 7, 8, 9, 10, 11, 12, 13, 14, 15, 16, 17, 18, 19, 20, 21, 22, 23, 24, 25, 26, 27, 28]; apply Z04 4 hE k rfl rfl rfl rfl; case h =>
    simp [go_sem, ↓IntWalk.iteOmega, ev (hE.g e1)]
    with_reducible rfl
   intro a109 hE e4 kp; apply Z04 5 hE k rfl rfl rfl rfl; case h =>
    have q0 : w3.cell? ⟨lb, 0, none⟩ = some (.int .i64 lv) := (OwnT.blk O 0 rfl).cell 0
    simp [go_sem, ↓IntWalk.iteOmega, ev e4, q0]
    with_reducible rfl
   intro a110 hE e5 kp; refine sd 6 hE k (Z08 (Z14 rfl e5 rfl) (decide_eq_false (by omega))) ?_
   intro a111 hE e6 kp; refine sd 7 hE k (Z02 rfl e6) ?_; intro a112 hE e7 kp; apply Z03 8 hE k rfl rfl rfl rfl rfl e7
   case h =>
    simp [go_sem, ↓IntWalk.iteOmega, ev (hE.g e1)]
    with_reducible rfl
   intro a113 hE e8 kp; replace e7 := kt kp e7; apply Z03 9 hE k rfl rfl rfl rfl rfl e7
   case h =>
    have q0 : w3.cell? ⟨lb, 0, none⟩ = some (.int .i64 lv) := (OwnT.blk O 0 rfl).cell 0
    simp [go_sem, ↓IntWalk.iteOmega, ev e8, q0]
    with_reducible rfl
   intro a114 hE e9 kp; replace e7 := kt kp e7; apply Z03 10 hE k rfl rfl rfl rfl rfl e7
   case h =>
    exact Z08 (Z19 rfl e9 rfl) (decide_eq_false (by omega))
   intro a115 hE e10 kp; replace e7 := kt kp e7; refine sd 11 hE k (Z07 rfl e7 e10) ?_; intro a116 hE e11 kp; refine sd 12 hE k (Z02 rfl e11) ?_; intro a117 hE e12 kp; apply Z03 13 hE k rfl rfl rfl rfl rfl e12
   case h =>
    simp [go_sem, ↓IntWalk.iteOmega, ev (hE.g e1)]
    with_reducible rfl
   intro a118 hE e13 kp; replace e12 := kt kp e12; apply Z03 14 hE k rfl rfl rfl rfl rfl e12
   case h =>
    have q0 : w3.cell? ⟨lb, 1, none⟩ = some (.slice A len cap) := (OwnT.blk O 0 rfl).cell 1
    simp [go_sem, ↓IntWalk.iteOmega, ev e13, q0]
    with_reducible rfl
   intro a119 hE e14 kp; replace e12 := kt kp e12; apply Z03 15 hE k rfl rfl rfl rfl rfl e12
   case h =>
    exact Z26 Tryz.underlying45 rfl e14
   intro a120 hE e15 kp; replace e12 := kt kp e12; apply Z03 16 hE k rfl rfl rfl rfl rfl e12
   case h =>
    exact Z08 (Z19 rfl e15 rfl) (decide_eq_false (by omega))
   intro a121 hE e16 kp; replace e12 := kt kp e12; refine sd 17 hE k (Z07 rfl e12 e16) ?_; intro a122 hE e17 kp; refine sd 18 hE k (Z02 rfl e17) ?_; intro a123 hE e18 kp; apply Z03 19 hE k rfl rfl rfl rfl rfl e18
   case h =>
    simp [go_sem, ↓IntWalk.iteOmega, ev (hE.g e1)]
    with_reducible rfl
   intro a124 hE e19 kp; replace e18 := kt kp e18; apply Z03 20 hE k rfl rfl rfl rfl rfl e18
   case h =>
    have q0 : w3.cell? ⟨lb, 0, none⟩ = some (.int .i64 lv) := (OwnT.blk O 0 rfl).cell 0
    simp [go_sem, ↓IntWalk.iteOmega, ev e19, q0]
    with_reducible rfl
   intro a125 hE e20 kp; replace e18 := kt kp e18; apply Z03 21 hE k rfl rfl rfl rfl rfl e18
   case h =>
    exact Z08 (Z19 rfl e20 rfl) (decide_eq_true (by omega))
   intro a126 hE e21 kp; replace e18 := kt kp e18; apply Z03 22 hE k rfl rfl rfl rfl rfl e18
   case h =>
    exact Z02 rfl e21
   intro a127 hE e22 kp; replace e18 := kt kp e18; apply Z03 23 hE k rfl rfl rfl rfl rfl e22
   case h =>
    simp [go_sem, ↓IntWalk.iteOmega, ev (hE.g e1)]
    with_reducible rfl
   intro a128 hE e23 kp; replace e18 := kt kp e18; replace e22 := kt kp e22; apply Z03 24 hE k rfl rfl rfl rfl rfl e22
   case h =>
    have q0 : w3.cell? ⟨lb, 1, none⟩ = some (.slice A len cap) := (OwnT.blk O 0 rfl).cell 1
    simp [go_sem, ↓IntWalk.iteOmega, ev e23, q0]
    with_reducible rfl
   intro a129 hE e24 kp; replace e18 := kt kp e18; replace e22 := kt kp e22; apply Z03 25 hE k rfl rfl rfl rfl rfl e22
   case h =>
    exact Z26 Tryz.underlying45 rfl e24
   intro a130 hE e25 kp; replace e18 := kt kp e18; replace e22 := kt kp e22; apply Z03 26 hE k rfl rfl rfl rfl rfl e22
   case h =>
    exact Z08 (Z1x rfl e25 rfl) (decide_eq_false (by omega))
   intro a131 hE e26 kp; replace e18 := kt kp e18; replace e22 := kt kp e22; apply Z03 27 hE k rfl rfl rfl rfl rfl e18
   case h =>
    exact Z0a rfl e22 e26
   intro a132 hE e27 kp; replace e18 := kt kp e18; refine sd 28 hE k (Z07 rfl e18 e27) ?_; intro a133 hE e28 kp; refine wpList_nil ?_; replace e1 := hE.g e1; replace k := k.env hE; clear hE; refine Z00 ?_; refine Z0b e28 rfl ?_
   refine wp_skip ?_; refine Z00 (wp_seq ?_); refine wp_seq ?_; refine wp_region_lit ?_
   have hE := Env.refl a133 [3]; refine sd 3 hE k (Z01 rfl rfl) ?_; intro a134 hE e3 kp; refine wpList_nil ?_; replace e1 := hE.g e1; replace k := k.env hE; clear hE e28; refine Z00 ?_; refine wp_block ?_; refine wp_loop (fun a w => Fr 77 a ∧ a.eval (.tmp 1) = .pointer (some ⟨lb, 0, none⟩) ∧ ∃ (j : Nat), a.eval (.tmp 3) = .int .i64 ↑j ∧ j ≤ len ∧ (∀ i, i < j → okAt lv xs i) ∧ OwnT W0.heap.size W0 ([tBlk lb 47 #[.int .i64 lv, .slice A len cap]]) w) (fun a w => len - (intOf (a.eval (.tmp 3))).toNat) ?_ ?_
   · exact ⟨k, e1, 0, e3, Nat.zero_le _, fun i hi => absurd hi (by omega), O⟩
   intro a135 w136 hI; clear k e1; obtain ⟨k, e1, h_⟩ := hI
   clear O e3; obtain ⟨j, e3, hj, hok, O⟩ := h_
   have mj := e3
   by_cases hlt : j < len
   rotate_left
   · clear mj; refine wp_seq ?_; refine wp_seq ?_; refine wp_region_lit ?_
     have hE := Env.refl a135 [29, 30, 31, 32, 33]; refine zm 29 hE k e3 ?_; intro a137 hE e29 kp; apply Z04 30 hE k rfl rfl rfl rfl; case h =>
      simp [go_sem, ↓IntWalk.iteOmega, ev (hE.g e1)]
      with_reducible rfl
     intro a138 hE e30 kp; replace e29 := kt kp e29; apply Z04 31 hE k rfl rfl rfl rfl; case h =>
      have q0 : w136.cell? ⟨lb, 1, none⟩ = some (.slice A len cap) := (OwnT.blk O 0 rfl).cell 1
      simp [go_sem, ↓IntWalk.iteOmega, ev e30, q0]
      with_reducible rfl
     intro a139 hE e31 kp; replace e29 := kt kp e29; refine sd 32 hE k (Z26 Tryz.underlying45 rfl e31) ?_; intro a140 hE e32 kp; replace e29 := kt kp e29; refine sd 33 hE k (Z08 (Z14 rfl e29 e32) (decide_eq_false (by omega))) ?_
     intro a141 hE e33 kp; refine wpList_nil ?_; replace e1 := hE.g e1; replace e3 := hE.g e3; replace k := k.env hE; clear hE; refine Z00 ?_; refine Z0b e33 rfl ?_
     refine wp_exit ?_
     refine Z15 ?_
     refine Z15 ?_
     refine Z1m ?_
     refine Z00 (wp_seq ?_); refine wp_region_lit ?_
     have hE := Env.refl a141 [2]; refine sd 2 hE k (Z01 rfl rfl) ?_; intro a142 hE e2 kp; refine wpList_nil ?_; replace k := k.env hE; clear hE e1 e3 e33; refine Z00 ?_; refine wp_ret ?_
     refine Z0j rfl k e2 ?_
     exact ⟨congrArg (fun b => Ending.returned (.bool b)) ((Z1a lv xs).2 ⟨⟨h0, by omega, by omega⟩, by omega, fun i hi => hok i (by omega)⟩).symm, O.below⟩
   have hjx : j < xs.length := by omega
   obtain ⟨b0, o0, rfl, -, -, -⟩ := hrow.pair_in O.below hjx
   have HK := fun (wx : World) (h : Ext w136 wx) => hrow.key_at (O.below.trans (h.mono O.size)) hjx
   have HV := fun (wx : World) (h : Ext w136 wx) => hrow.val_at (O.below.trans (h.mono O.size)) hjx

   refine wp_seq ?_; refine wp_seq ?_; refine wp_region_lit ?_
   have hE := Env.refl a135 [29, 30, 31, 32, 33]; refine zm 29 hE k e3 ?_; intro a143 hE e29 kp; apply Z04 30 hE k rfl rfl rfl rfl; case h =>
    simp [go_sem, ↓IntWalk.iteOmega, ev (hE.g e1)]
    with_reducible rfl
   intro a144 hE e30 kp; replace e29 := kt kp e29; apply Z04 31 hE k rfl rfl rfl rfl; case h =>
    have q0 : w136.cell? ⟨lb, 1, none⟩ = some (.slice (some ⟨b0, o0, none⟩) len cap) := (OwnT.blk O 0 rfl).cell 1
    simp [go_sem, ↓IntWalk.iteOmega, ev e30, q0]
    with_reducible rfl
   intro a145 hE e31 kp; replace e29 := kt kp e29; refine sd 32 hE k (Z26 Tryz.underlying45 rfl e31) ?_; intro a146 hE e32 kp; replace e29 := kt kp e29; refine sd 33 hE k (Z08 (Z14 rfl e29 e32) (decide_eq_true (by omega))) ?_
   intro a147 hE e33 kp; refine wpList_nil ?_; replace e1 := hE.g e1; replace e3 := hE.g e3; replace k := k.env hE; clear hE; refine Z00 ?_; refine Z0i e33 rfl ?_
   refine wp_skip ?_; refine Z00 (wp_seq ?_); refine wp_block ?_; have HK2 := fun (wx : World) (h : Ext w136 wx) => hrow.key_at (O.below.trans (h.mono O.size)) hjx
   have HV2 := fun (wx : World) (h : Ext w136 wx) => hrow.val_at (O.below.trans (h.mono O.size)) hjx
   clear HK HV; by_cases hj0 : j = 0
   · have hkey : j = 0 ∨ keyAt xs (j - 1) < keyAt xs j := .inl hj0
     by_cases hv1 : valAt xs j < 1
     · have hno : ¬ okAt lv xs j := fun h => by rcases h.2 with e | e; omega; unfold farB at e; simp at e; omega
       refine wp_seq ?_; refine Z0n (R := Ext) (w0 := w136) [[], [0], [0, 1], [0, 1, 2], rg 4, [0, 1, 2], [0, 1, 2, 5], rg 7, rg 8, rg 9, [0, 1, 2], [0, 1, 2, 10], [0, 1, 2], [0, 1, 2, 10, 11, 12], [0, 1, 2, 10, 11, 12, 13], [0, 1, 2, 10, 11, 12, 13, 14], rg 16, rg 17, rg 18, rg 19, rg 20, rg 21, rg 22, rg 23, rg 24, rg 23, rg 26, rg 27, rg 28, rg 29, rg 30, rg 31, rg 32, rg 31, rg 34, rg 35, rg 36, rg 37, rg 38, rg 39, rg 40] [36, 37, 38, 39, 40, 41, 42, 43, 44, 45, 46, 47, 48, 49, 50, 51, 52, 53, 54, 55, 56, 57, 58, 59, 60, 61, 62, 63, 64, 65, 66, 67, 68, 69, 70, 71, 72, 73, 74, 75, 76] Ext.refl (fun _ _ _ => Ext.trans) (Ext.drew _) (by kernel_rfl) ?_
       apply bd 36 k rfl rfl rfl; case h =>
        intro ax wx hE hR hF; exact Z02 rfl (hE.g e3)
       apply bd 37 k rfl rfl rfl; case h =>
        intro ax wx hE hR hF; have e36 := zhF hF 0 36 ml0; exact Z08 (Z19 rfl e36 rfl) (decide_eq_false (by omega))
       apply bd 38 k rfl rfl rfl; case h =>
        intro ax wx hE hR hF; have e37 := zhF hF 1 37 ml0; exact Z02 rfl e37
       refine Build.skip 39 (by rfl) (by rw [k.size]; rfl) rfl rfl ?_ ?_
       · intro ax wx hE hR hF; have e38 := zhF hF 2 38 ml0; exact e38
       refine Build.skip 40 (by rfl) (by rw [k.size]; rfl) rfl rfl ?_ ?_
       · intro ax wx hE hR hF; have e38 := zhF hF 2 38 ml1; exact e38
       refine Build.skip 41 (by rfl) (by rw [k.size]; rfl) rfl rfl ?_ ?_
       · intro ax wx hE hR hF; have e38 := zhF hF 2 38 ml2; exact e38
       refine Build.skip 42 (by rfl) (by rw [k.size]; rfl) rfl rfl ?_ ?_
       · intro ax wx hE hR hF; have e38 := zhF hF 2 38 ml3; exact e38
       refine Build.skip 43 (by rfl) (by rw [k.size]; rfl) rfl rfl ?_ ?_
       · intro ax wx hE hR hF; have e38 := zhF hF 2 38 ml4; exact e38
       refine Build.skip 44 (by rfl) (by rw [k.size]; rfl) rfl rfl ?_ ?_
       · intro ax wx hE hR hF; have e38 := zhF hF 2 38 ml5; exact e38
       refine Build.skip 45 (by rfl) (by rw [k.size]; rfl) rfl rfl ?_ ?_
       · intro ax wx hE hR hF; have e38 := zhF hF 2 38 ml6; exact e38
       refine Build.skip 46 (by rfl) (by rw [k.size]; rfl) rfl rfl ?_ ?_
       · intro ax wx hE hR hF; have e38 := zhF hF 2 38 ml7; exact e38
       refine Build.skip 47 (by rfl) (by rw [k.size]; rfl) rfl rfl ?_ ?_
       · intro ax wx hE hR hF; have e38 := zhF hF 2 38 ml8; exact e38
       refine Build.skip 48 (by rfl) (by rw [k.size]; rfl) rfl rfl ?_ ?_
       · intro ax wx hE hR hF; have e38 := zhF hF 2 38 ml9; exact e38
       refine Build.skip 49 (by rfl) (by rw [k.size]; rfl) rfl rfl ?_ ?_
       · intro ax wx hE hR hF; have e38 := zhF hF 2 38 ml10; exact e38
       refine Build.skip 50 (by rfl) (by rw [k.size]; rfl) rfl rfl ?_ ?_
       · intro ax wx hE hR hF; have e38 := zhF hF 2 38 ml11; exact e38
       refine Build.skip 51 (by rfl) (by rw [k.size]; rfl) rfl rfl ?_ ?_
       · intro ax wx hE hR hF; have e38 := zhF hF 2 38 ml12; exact e38
       refine Build.skip 52 (by rfl) (by rw [k.size]; rfl) rfl rfl ?_ ?_
       · intro ax wx hE hR hF; have e38 := zhF hF 2 38 ml13; exact e38
       apply bd 53 k rfl rfl rfl; case h =>
        intro ax wx hE hR hF; have e38 := zhF hF 2 38 ml14; have e52 := zhF hF 16 52 ml0; exact Z07 rfl e38 rfl
       apply bd 54 k rfl rfl rfl; case h =>
        intro ax wx hE hR hF; have e53 := zhF hF 17 53 ml0; exact Z02 rfl e53
       apply bdg 55 k rfl rfl rfl rfl; case h =>
        intro ax wx hE hR hF; have e54 := zhF hF 18 54 ml0; refine ⟨e54, ?_⟩; simp [go_sem, ↓IntWalk.iteOmega, ev (hE.g e1)]
        with_reducible rfl
       apply bdg 56 k rfl rfl rfl rfl; case h =>
        intro ax wx hE hR hF; have e55 := zhF hF 19 55 ml0; have e54 := zhF hF 18 54 ml1; refine ⟨e54, ?_⟩; have q0 : wx.cell? ⟨lb, 0, none⟩ = some (.int .i64 lv) := (OwnT.blk (OwnT.ext O hR) 0 rfl).cell 0
        simp [go_sem, ↓IntWalk.iteOmega, ev e55, q0]
        with_reducible rfl
       apply bdg 57 k rfl rfl rfl rfl; case h =>
        intro ax wx hE hR hF; have e56 := zhF hF 20 56 ml0; have e54 := zhF hF 18 54 ml2; refine ⟨e54, ?_⟩; exact Z08 (Z19 rfl e56 rfl) (decide_eq_true (by omega))
       apply bdg 58 k rfl rfl rfl rfl; case h =>
        intro ax wx hE hR hF; have e57 := zhF hF 21 57 ml0; have e54 := zhF hF 18 54 ml3; refine ⟨e54, ?_⟩; exact Z02 rfl e57
       apply bdg 59 k rfl rfl rfl rfl; case h =>
        intro ax wx hE hR hF; have e58 := zhF hF 22 58 ml0; refine ⟨e58, ?_⟩; simp [go_sem, ↓IntWalk.iteOmega, ev (hE.g e1)]
        with_reducible rfl
       apply bdg 60 k rfl rfl rfl rfl; case h =>
        intro ax wx hE hR hF; have e59 := zhF hF 23 59 ml0; have e58 := zhF hF 22 58 ml1; refine ⟨e58, ?_⟩; have q0 : wx.cell? ⟨lb, 1, none⟩ = some (.slice (some ⟨b0, o0, none⟩) len cap) := (OwnT.blk (OwnT.ext O hR) 0 rfl).cell 1
        simp [go_sem, ↓IntWalk.iteOmega, ev e59, q0]
        with_reducible rfl
       apply bdg 61 k rfl rfl rfl rfl; case h =>
        intro ax wx hE hR hF; have e58 := zhF hF 22 58 ml2; refine ⟨e58, ?_⟩; exact Z02 rfl (hE.g e3)
       apply bdg 62 k rfl rfl rfl rfl; case h =>
        intro ax wx hE hR hF; have e60 := zhF hF 24 60 ml1; have e61 := zhF hF 25 61 ml0; have e58 := zhF hF 22 58 ml3; refine ⟨e58, ?_⟩; simp [go_sem, ↓IntWalk.iteOmega, ev e60, ev e61]
        with_reducible rfl
       apply bdg 63 k rfl rfl rfl rfl; case h =>
        intro ax wx hE hR hF; have e62 := zhF hF 26 62 ml0; have e58 := zhF hF 22 58 ml4; refine ⟨e58, ?_⟩; simp [go_sem, ↓IntWalk.iteOmega, ev e62]
        with_reducible rfl
       apply bdg 64 k rfl rfl rfl rfl; case h =>
        intro ax wx hE hR hF; have e63 := zhF hF 27 63 ml0; have e58 := zhF hF 22 58 ml5; refine ⟨e58, ?_⟩; have d0 := HV2 wx hR
        simp [go_sem, ↓IntWalk.iteOmega, ev e63, d0]
        with_reducible rfl
       apply bdg 65 k rfl rfl rfl rfl; case h =>
        intro ax wx hE hR hF; have e64 := zhF hF 28 64 ml0; have e58 := zhF hF 22 58 ml6; refine ⟨e58, ?_⟩; exact Z08 (Z14 rfl e64 rfl) (decide_eq_true (by omega))
       apply bdg 66 k rfl rfl rfl rfl; case h =>
        intro ax wx hE hR hF; have e65 := zhF hF 29 65 ml0; have e58 := zhF hF 22 58 ml7; refine ⟨e58, ?_⟩; exact Z02 rfl e65
       refine Build.skip 67 (by rfl) (by rw [k.size]; rfl) rfl rfl ?_ ?_
       · intro ax wx hE hR hF; have e66 := zhF hF 30 66 ml0; exact e66
       refine Build.skip 68 (by rfl) (by rw [k.size]; rfl) rfl rfl ?_ ?_
       · intro ax wx hE hR hF; have e66 := zhF hF 30 66 ml1; exact e66
       refine Build.skip 69 (by rfl) (by rw [k.size]; rfl) rfl rfl ?_ ?_
       · intro ax wx hE hR hF; have e66 := zhF hF 30 66 ml2; exact e66
       refine Build.skip 70 (by rfl) (by rw [k.size]; rfl) rfl rfl ?_ ?_
       · intro ax wx hE hR hF; have e66 := zhF hF 30 66 ml3; exact e66
       refine Build.skip 71 (by rfl) (by rw [k.size]; rfl) rfl rfl ?_ ?_
       · intro ax wx hE hR hF; have e66 := zhF hF 30 66 ml4; exact e66
       refine Build.skip 72 (by rfl) (by rw [k.size]; rfl) rfl rfl ?_ ?_
       · intro ax wx hE hR hF; have e66 := zhF hF 30 66 ml5; exact e66
       refine Build.skip 73 (by rfl) (by rw [k.size]; rfl) rfl rfl ?_ ?_
       · intro ax wx hE hR hF; have e66 := zhF hF 30 66 ml6; exact e66
       apply bdg 74 k rfl rfl rfl rfl; case h =>
        intro ax wx hE hR hF; have e66 := zhF hF 30 66 ml7; have e73 := zhF hF 37 73 ml0; have e58 := zhF hF 22 58 ml15; refine ⟨e58, ?_⟩; exact Z0a rfl e66 rfl
       apply bdg 75 k rfl rfl rfl rfl; case h =>
        intro ax wx hE hR hF; have e58 := zhF hF 22 58 ml16; have e74 := zhF hF 38 74 ml0; have e54 := zhF hF 18 54 ml20; refine ⟨e54, ?_⟩; exact Z0a rfl e58 e74
       apply bd 76 k rfl rfl rfl; case h =>
        intro ax wx hE hR hF; have e54 := zhF hF 18 54 ml21; have e75 := zhF hF 39 75 ml0; exact Z07 rfl e54 e75
       apply Build.stop
       refine ⟨by kernel_rfl, .inl ⟨rfl, ?_⟩⟩
       intro a148 w149 hE R hF; have e76 : a148.eval (.tmp 76) = _ := hF 40 (det 76 _) ml0
       clear hF; replace O := OwnT.ext O R; clear R; replace e1 := hE.g e1; replace e3 := hE.g e3; replace k := k.env hE; clear hE e33; refine Z00 ?_; refine Z0i e76 rfl ?_
       refine wp_seq ?_; refine wp_region_lit ?_
       have hE := Env.refl a148 [2]; refine sd 2 hE k (Z01 rfl rfl) ?_; intro a150 hE e2 kp; refine wpList_nil ?_; replace k := k.env hE; clear hE e1 e3 e76; refine Z00 ?_; refine wp_ret ?_
       refine Z0s ?_
       refine Z0h ?_
       refine Z0h ?_
       refine Z0s ?_
       refine Z0h ?_
       refine Z0j rfl k e2 ?_
       exact ⟨congrArg (fun b => Ending.returned (.bool b)) (Z32 hjx hno).symm, O.below⟩
     by_cases hv2 : 511 < valAt xs j
     · have hno : ¬ okAt lv xs j := fun h => by rcases h.2 with e | e; omega; unfold farB at e; simp at e; omega
       refine wp_seq ?_; refine Z0n (R := Ext) (w0 := w136) [[], [0], [0, 1], [0, 1, 2], rg 4, [0, 1, 2], [0, 1, 2, 5], rg 7, rg 8, rg 9, [0, 1, 2], [0, 1, 2, 10], [0, 1, 2], [0, 1, 2, 10, 11, 12], [0, 1, 2, 10, 11, 12, 13], [0, 1, 2, 10, 11, 12, 13, 14], rg 16, rg 17, rg 18, rg 19, rg 20, rg 21, rg 22, rg 23, rg 24, rg 23, rg 26, rg 27, rg 28, rg 29, rg 30, rg 31, rg 32, rg 31, rg 34, rg 35, rg 36, rg 37, rg 38, rg 39, rg 40] [36, 37, 38, 39, 40, 41, 42, 43, 44, 45, 46, 47, 48, 49, 50, 51, 52, 53, 54, 55, 56, 57, 58, 59, 60, 61, 62, 63, 64, 65, 66, 67, 68, 69, 70, 71, 72, 73, 74, 75, 76] Ext.refl (fun _ _ _ => Ext.trans) (Ext.drew _) (by kernel_rfl) ?_
       apply bd 36 k rfl rfl rfl; case h =>
        intro ax wx hE hR hF; exact Z02 rfl (hE.g e3)
       apply bd 37 k rfl rfl rfl; case h =>
        intro ax wx hE hR hF; have e36 := zhF hF 0 36 ml0; exact Z08 (Z19 rfl e36 rfl) (decide_eq_false (by omega))
       apply bd 38 k rfl rfl rfl; case h =>
        intro ax wx hE hR hF; have e37 := zhF hF 1 37 ml0; exact Z02 rfl e37
       refine Build.skip 39 (by rfl) (by rw [k.size]; rfl) rfl rfl ?_ ?_
       · intro ax wx hE hR hF; have e38 := zhF hF 2 38 ml0; exact e38
       refine Build.skip 40 (by rfl) (by rw [k.size]; rfl) rfl rfl ?_ ?_
       · intro ax wx hE hR hF; have e38 := zhF hF 2 38 ml1; exact e38
       refine Build.skip 41 (by rfl) (by rw [k.size]; rfl) rfl rfl ?_ ?_
       · intro ax wx hE hR hF; have e38 := zhF hF 2 38 ml2; exact e38
       refine Build.skip 42 (by rfl) (by rw [k.size]; rfl) rfl rfl ?_ ?_
       · intro ax wx hE hR hF; have e38 := zhF hF 2 38 ml3; exact e38
       refine Build.skip 43 (by rfl) (by rw [k.size]; rfl) rfl rfl ?_ ?_
       · intro ax wx hE hR hF; have e38 := zhF hF 2 38 ml4; exact e38
       refine Build.skip 44 (by rfl) (by rw [k.size]; rfl) rfl rfl ?_ ?_
       · intro ax wx hE hR hF; have e38 := zhF hF 2 38 ml5; exact e38
       refine Build.skip 45 (by rfl) (by rw [k.size]; rfl) rfl rfl ?_ ?_
       · intro ax wx hE hR hF; have e38 := zhF hF 2 38 ml6; exact e38
       refine Build.skip 46 (by rfl) (by rw [k.size]; rfl) rfl rfl ?_ ?_
       · intro ax wx hE hR hF; have e38 := zhF hF 2 38 ml7; exact e38
       refine Build.skip 47 (by rfl) (by rw [k.size]; rfl) rfl rfl ?_ ?_
       · intro ax wx hE hR hF; have e38 := zhF hF 2 38 ml8; exact e38
       refine Build.skip 48 (by rfl) (by rw [k.size]; rfl) rfl rfl ?_ ?_
       · intro ax wx hE hR hF; have e38 := zhF hF 2 38 ml9; exact e38
       refine Build.skip 49 (by rfl) (by rw [k.size]; rfl) rfl rfl ?_ ?_
       · intro ax wx hE hR hF; have e38 := zhF hF 2 38 ml10; exact e38
       refine Build.skip 50 (by rfl) (by rw [k.size]; rfl) rfl rfl ?_ ?_
       · intro ax wx hE hR hF; have e38 := zhF hF 2 38 ml11; exact e38
       refine Build.skip 51 (by rfl) (by rw [k.size]; rfl) rfl rfl ?_ ?_
       · intro ax wx hE hR hF; have e38 := zhF hF 2 38 ml12; exact e38
       refine Build.skip 52 (by rfl) (by rw [k.size]; rfl) rfl rfl ?_ ?_
       · intro ax wx hE hR hF; have e38 := zhF hF 2 38 ml13; exact e38
       apply bd 53 k rfl rfl rfl; case h =>
        intro ax wx hE hR hF; have e38 := zhF hF 2 38 ml14; have e52 := zhF hF 16 52 ml0; exact Z07 rfl e38 rfl
       apply bd 54 k rfl rfl rfl; case h =>
        intro ax wx hE hR hF; have e53 := zhF hF 17 53 ml0; exact Z02 rfl e53
       apply bdg 55 k rfl rfl rfl rfl; case h =>
        intro ax wx hE hR hF; have e54 := zhF hF 18 54 ml0; refine ⟨e54, ?_⟩; simp [go_sem, ↓IntWalk.iteOmega, ev (hE.g e1)]
        with_reducible rfl
       apply bdg 56 k rfl rfl rfl rfl; case h =>
        intro ax wx hE hR hF; have e55 := zhF hF 19 55 ml0; have e54 := zhF hF 18 54 ml1; refine ⟨e54, ?_⟩; have q0 : wx.cell? ⟨lb, 0, none⟩ = some (.int .i64 lv) := (OwnT.blk (OwnT.ext O hR) 0 rfl).cell 0
        simp [go_sem, ↓IntWalk.iteOmega, ev e55, q0]
        with_reducible rfl
       apply bdg 57 k rfl rfl rfl rfl; case h =>
        intro ax wx hE hR hF; have e56 := zhF hF 20 56 ml0; have e54 := zhF hF 18 54 ml2; refine ⟨e54, ?_⟩; exact Z08 (Z19 rfl e56 rfl) (decide_eq_true (by omega))
       apply bdg 58 k rfl rfl rfl rfl; case h =>
        intro ax wx hE hR hF; have e57 := zhF hF 21 57 ml0; have e54 := zhF hF 18 54 ml3; refine ⟨e54, ?_⟩; exact Z02 rfl e57
       apply bdg 59 k rfl rfl rfl rfl; case h =>
        intro ax wx hE hR hF; have e58 := zhF hF 22 58 ml0; refine ⟨e58, ?_⟩; simp [go_sem, ↓IntWalk.iteOmega, ev (hE.g e1)]
        with_reducible rfl
       apply bdg 60 k rfl rfl rfl rfl; case h =>
        intro ax wx hE hR hF; have e59 := zhF hF 23 59 ml0; have e58 := zhF hF 22 58 ml1; refine ⟨e58, ?_⟩; have q0 : wx.cell? ⟨lb, 1, none⟩ = some (.slice (some ⟨b0, o0, none⟩) len cap) := (OwnT.blk (OwnT.ext O hR) 0 rfl).cell 1
        simp [go_sem, ↓IntWalk.iteOmega, ev e59, q0]
        with_reducible rfl
       apply bdg 61 k rfl rfl rfl rfl; case h =>
        intro ax wx hE hR hF; have e58 := zhF hF 22 58 ml2; refine ⟨e58, ?_⟩; exact Z02 rfl (hE.g e3)
       apply bdg 62 k rfl rfl rfl rfl; case h =>
        intro ax wx hE hR hF; have e60 := zhF hF 24 60 ml1; have e61 := zhF hF 25 61 ml0; have e58 := zhF hF 22 58 ml3; refine ⟨e58, ?_⟩; simp [go_sem, ↓IntWalk.iteOmega, ev e60, ev e61]
        with_reducible rfl
       apply bdg 63 k rfl rfl rfl rfl; case h =>
        intro ax wx hE hR hF; have e62 := zhF hF 26 62 ml0; have e58 := zhF hF 22 58 ml4; refine ⟨e58, ?_⟩; simp [go_sem, ↓IntWalk.iteOmega, ev e62]
        with_reducible rfl
       apply bdg 64 k rfl rfl rfl rfl; case h =>
        intro ax wx hE hR hF; have e63 := zhF hF 27 63 ml0; have e58 := zhF hF 22 58 ml5; refine ⟨e58, ?_⟩; have d0 := HV2 wx hR
        simp [go_sem, ↓IntWalk.iteOmega, ev e63, d0]
        with_reducible rfl
       apply bdg 65 k rfl rfl rfl rfl; case h =>
        intro ax wx hE hR hF; have e64 := zhF hF 28 64 ml0; have e58 := zhF hF 22 58 ml6; refine ⟨e58, ?_⟩; exact Z08 (Z14 rfl e64 rfl) (decide_eq_false (by omega))
       apply bdg 66 k rfl rfl rfl rfl; case h =>
        intro ax wx hE hR hF; have e65 := zhF hF 29 65 ml0; have e58 := zhF hF 22 58 ml7; refine ⟨e58, ?_⟩; exact Z02 rfl e65
       apply bdg 67 k rfl rfl rfl rfl; case h =>
        intro ax wx hE hR hF; have e66 := zhF hF 30 66 ml0; refine ⟨e66, ?_⟩; simp [go_sem, ↓IntWalk.iteOmega, ev (hE.g e1)]
        with_reducible rfl
       apply bdg 68 k rfl rfl rfl rfl; case h =>
        intro ax wx hE hR hF; have e67 := zhF hF 31 67 ml0; have e66 := zhF hF 30 66 ml1; refine ⟨e66, ?_⟩; have q0 : wx.cell? ⟨lb, 1, none⟩ = some (.slice (some ⟨b0, o0, none⟩) len cap) := (OwnT.blk (OwnT.ext O hR) 0 rfl).cell 1
        simp [go_sem, ↓IntWalk.iteOmega, ev e67, q0]
        with_reducible rfl
       apply bdg 69 k rfl rfl rfl rfl; case h =>
        intro ax wx hE hR hF; have e66 := zhF hF 30 66 ml2; refine ⟨e66, ?_⟩; exact Z02 rfl (hE.g e3)
       apply bdg 70 k rfl rfl rfl rfl; case h =>
        intro ax wx hE hR hF; have e68 := zhF hF 32 68 ml1; have e69 := zhF hF 33 69 ml0; have e66 := zhF hF 30 66 ml3; refine ⟨e66, ?_⟩; simp [go_sem, ↓IntWalk.iteOmega, ev e68, ev e69]
        with_reducible rfl
       apply bdg 71 k rfl rfl rfl rfl; case h =>
        intro ax wx hE hR hF; have e70 := zhF hF 34 70 ml0; have e66 := zhF hF 30 66 ml4; refine ⟨e66, ?_⟩; simp [go_sem, ↓IntWalk.iteOmega, ev e70]
        with_reducible rfl
       apply bdg 72 k rfl rfl rfl rfl; case h =>
        intro ax wx hE hR hF; have e71 := zhF hF 35 71 ml0; have e66 := zhF hF 30 66 ml5; refine ⟨e66, ?_⟩; have d0 := HV2 wx hR
        simp [go_sem, ↓IntWalk.iteOmega, ev e71, d0]
        with_reducible rfl
       apply bdg 73 k rfl rfl rfl rfl; case h =>
        intro ax wx hE hR hF; have e72 := zhF hF 36 72 ml0; have e66 := zhF hF 30 66 ml6; refine ⟨e66, ?_⟩; exact Z08 (Z19 rfl e72 rfl) (decide_eq_true (by omega))
       apply bdg 74 k rfl rfl rfl rfl; case h =>
        intro ax wx hE hR hF; have e66 := zhF hF 30 66 ml7; have e73 := zhF hF 37 73 ml0; have e58 := zhF hF 22 58 ml15; refine ⟨e58, ?_⟩; exact Z07 rfl e66 e73
       apply bdg 75 k rfl rfl rfl rfl; case h =>
        intro ax wx hE hR hF; have e58 := zhF hF 22 58 ml16; have e74 := zhF hF 38 74 ml0; have e54 := zhF hF 18 54 ml20; refine ⟨e54, ?_⟩; exact Z0a rfl e58 e74
       apply bd 76 k rfl rfl rfl; case h =>
        intro ax wx hE hR hF; have e54 := zhF hF 18 54 ml21; have e75 := zhF hF 39 75 ml0; exact Z07 rfl e54 e75
       apply Build.stop
       refine ⟨by kernel_rfl, .inl ⟨rfl, ?_⟩⟩
       intro a151 w152 hE R hF; have e76 : a151.eval (.tmp 76) = _ := hF 40 (det 76 _) ml0
       clear hF; replace O := OwnT.ext O R; clear R; replace e1 := hE.g e1; replace e3 := hE.g e3; replace k := k.env hE; clear hE e33; refine Z00 ?_; refine Z0i e76 rfl ?_
       refine wp_seq ?_; refine wp_region_lit ?_
       have hE := Env.refl a151 [2]; refine sd 2 hE k (Z01 rfl rfl) ?_; intro a153 hE e2 kp; refine wpList_nil ?_; replace k := k.env hE; clear hE e1 e3 e76; refine Z00 ?_; refine wp_ret ?_
       refine Z0s ?_
       refine Z0h ?_
       refine Z0h ?_
       refine Z0s ?_
       refine Z0h ?_
       refine Z0j rfl k e2 ?_
       exact ⟨congrArg (fun b => Ending.returned (.bool b)) (Z32 hjx hno).symm, O.below⟩
     have hoj : okAt lv xs j := ⟨hkey, .inr (by unfold farB; simp; omega)⟩
     refine wp_seq ?_; refine Z0n (R := Ext) (w0 := w136) [[], [0], [0, 1], [0, 1, 2], rg 4, [0, 1, 2], [0, 1, 2, 5], rg 7, rg 8, rg 9, [0, 1, 2], [0, 1, 2, 10], [0, 1, 2], [0, 1, 2, 10, 11, 12], [0, 1, 2, 10, 11, 12, 13], [0, 1, 2, 10, 11, 12, 13, 14], rg 16, rg 17, rg 18, rg 19, rg 20, rg 21, rg 22, rg 23, rg 24, rg 23, rg 26, rg 27, rg 28, rg 29, rg 30, rg 31, rg 32, rg 31, rg 34, rg 35, rg 36, rg 37, rg 38, rg 39, rg 40] [36, 37, 38, 39, 40, 41, 42, 43, 44, 45, 46, 47, 48, 49, 50, 51, 52, 53, 54, 55, 56, 57, 58, 59, 60, 61, 62, 63, 64, 65, 66, 67, 68, 69, 70, 71, 72, 73, 74, 75, 76] Ext.refl (fun _ _ _ => Ext.trans) (Ext.drew _) (by kernel_rfl) ?_
     apply bd 36 k rfl rfl rfl; case h =>
      intro ax wx hE hR hF; exact Z02 rfl (hE.g e3)
     apply bd 37 k rfl rfl rfl; case h =>
      intro ax wx hE hR hF; have e36 := zhF hF 0 36 ml0; exact Z08 (Z19 rfl e36 rfl) (decide_eq_false (by omega))
     apply bd 38 k rfl rfl rfl; case h =>
      intro ax wx hE hR hF; have e37 := zhF hF 1 37 ml0; exact Z02 rfl e37
     refine Build.skip 39 (by rfl) (by rw [k.size]; rfl) rfl rfl ?_ ?_
     · intro ax wx hE hR hF; have e38 := zhF hF 2 38 ml0; exact e38
     refine Build.skip 40 (by rfl) (by rw [k.size]; rfl) rfl rfl ?_ ?_
     · intro ax wx hE hR hF; have e38 := zhF hF 2 38 ml1; exact e38
     refine Build.skip 41 (by rfl) (by rw [k.size]; rfl) rfl rfl ?_ ?_
     · intro ax wx hE hR hF; have e38 := zhF hF 2 38 ml2; exact e38
     refine Build.skip 42 (by rfl) (by rw [k.size]; rfl) rfl rfl ?_ ?_
     · intro ax wx hE hR hF; have e38 := zhF hF 2 38 ml3; exact e38
     refine Build.skip 43 (by rfl) (by rw [k.size]; rfl) rfl rfl ?_ ?_
     · intro ax wx hE hR hF; have e38 := zhF hF 2 38 ml4; exact e38
     refine Build.skip 44 (by rfl) (by rw [k.size]; rfl) rfl rfl ?_ ?_
     · intro ax wx hE hR hF; have e38 := zhF hF 2 38 ml5; exact e38
     refine Build.skip 45 (by rfl) (by rw [k.size]; rfl) rfl rfl ?_ ?_
     · intro ax wx hE hR hF; have e38 := zhF hF 2 38 ml6; exact e38
     refine Build.skip 46 (by rfl) (by rw [k.size]; rfl) rfl rfl ?_ ?_
     · intro ax wx hE hR hF; have e38 := zhF hF 2 38 ml7; exact e38
     refine Build.skip 47 (by rfl) (by rw [k.size]; rfl) rfl rfl ?_ ?_
     · intro ax wx hE hR hF; have e38 := zhF hF 2 38 ml8; exact e38
     refine Build.skip 48 (by rfl) (by rw [k.size]; rfl) rfl rfl ?_ ?_
     · intro ax wx hE hR hF; have e38 := zhF hF 2 38 ml9; exact e38
     refine Build.skip 49 (by rfl) (by rw [k.size]; rfl) rfl rfl ?_ ?_
     · intro ax wx hE hR hF; have e38 := zhF hF 2 38 ml10; exact e38
     refine Build.skip 50 (by rfl) (by rw [k.size]; rfl) rfl rfl ?_ ?_
     · intro ax wx hE hR hF; have e38 := zhF hF 2 38 ml11; exact e38
     refine Build.skip 51 (by rfl) (by rw [k.size]; rfl) rfl rfl ?_ ?_
     · intro ax wx hE hR hF; have e38 := zhF hF 2 38 ml12; exact e38
     refine Build.skip 52 (by rfl) (by rw [k.size]; rfl) rfl rfl ?_ ?_
     · intro ax wx hE hR hF; have e38 := zhF hF 2 38 ml13; exact e38
     apply bd 53 k rfl rfl rfl; case h =>
      intro ax wx hE hR hF; have e38 := zhF hF 2 38 ml14; have e52 := zhF hF 16 52 ml0; exact Z07 rfl e38 rfl
     apply bd 54 k rfl rfl rfl; case h =>
      intro ax wx hE hR hF; have e53 := zhF hF 17 53 ml0; exact Z02 rfl e53
     apply bdg 55 k rfl rfl rfl rfl; case h =>
      intro ax wx hE hR hF; have e54 := zhF hF 18 54 ml0; refine ⟨e54, ?_⟩; simp [go_sem, ↓IntWalk.iteOmega, ev (hE.g e1)]
      with_reducible rfl
     apply bdg 56 k rfl rfl rfl rfl; case h =>
      intro ax wx hE hR hF; have e55 := zhF hF 19 55 ml0; have e54 := zhF hF 18 54 ml1; refine ⟨e54, ?_⟩; have q0 : wx.cell? ⟨lb, 0, none⟩ = some (.int .i64 lv) := (OwnT.blk (OwnT.ext O hR) 0 rfl).cell 0
      simp [go_sem, ↓IntWalk.iteOmega, ev e55, q0]
      with_reducible rfl
     apply bdg 57 k rfl rfl rfl rfl; case h =>
      intro ax wx hE hR hF; have e56 := zhF hF 20 56 ml0; have e54 := zhF hF 18 54 ml2; refine ⟨e54, ?_⟩; exact Z08 (Z19 rfl e56 rfl) (decide_eq_true (by omega))
     apply bdg 58 k rfl rfl rfl rfl; case h =>
      intro ax wx hE hR hF; have e57 := zhF hF 21 57 ml0; have e54 := zhF hF 18 54 ml3; refine ⟨e54, ?_⟩; exact Z02 rfl e57
     apply bdg 59 k rfl rfl rfl rfl; case h =>
      intro ax wx hE hR hF; have e58 := zhF hF 22 58 ml0; refine ⟨e58, ?_⟩; simp [go_sem, ↓IntWalk.iteOmega, ev (hE.g e1)]
      with_reducible rfl
     apply bdg 60 k rfl rfl rfl rfl; case h =>
      intro ax wx hE hR hF; have e59 := zhF hF 23 59 ml0; have e58 := zhF hF 22 58 ml1; refine ⟨e58, ?_⟩; have q0 : wx.cell? ⟨lb, 1, none⟩ = some (.slice (some ⟨b0, o0, none⟩) len cap) := (OwnT.blk (OwnT.ext O hR) 0 rfl).cell 1
      simp [go_sem, ↓IntWalk.iteOmega, ev e59, q0]
      with_reducible rfl
     apply bdg 61 k rfl rfl rfl rfl; case h =>
      intro ax wx hE hR hF; have e58 := zhF hF 22 58 ml2; refine ⟨e58, ?_⟩; exact Z02 rfl (hE.g e3)
     apply bdg 62 k rfl rfl rfl rfl; case h =>
      intro ax wx hE hR hF; have e60 := zhF hF 24 60 ml1; have e61 := zhF hF 25 61 ml0; have e58 := zhF hF 22 58 ml3; refine ⟨e58, ?_⟩; simp [go_sem, ↓IntWalk.iteOmega, ev e60, ev e61]
      with_reducible rfl
     apply bdg 63 k rfl rfl rfl rfl; case h =>
      intro ax wx hE hR hF; have e62 := zhF hF 26 62 ml0; have e58 := zhF hF 22 58 ml4; refine ⟨e58, ?_⟩; simp [go_sem, ↓IntWalk.iteOmega, ev e62]
      with_reducible rfl
     apply bdg 64 k rfl rfl rfl rfl; case h =>
      intro ax wx hE hR hF; have e63 := zhF hF 27 63 ml0; have e58 := zhF hF 22 58 ml5; refine ⟨e58, ?_⟩; have d0 := HV2 wx hR
      simp [go_sem, ↓IntWalk.iteOmega, ev e63, d0]
      with_reducible rfl
     apply bdg 65 k rfl rfl rfl rfl; case h =>
      intro ax wx hE hR hF; have e64 := zhF hF 28 64 ml0; have e58 := zhF hF 22 58 ml6; refine ⟨e58, ?_⟩; exact Z08 (Z14 rfl e64 rfl) (decide_eq_false (by omega))
     apply bdg 66 k rfl rfl rfl rfl; case h =>
      intro ax wx hE hR hF; have e65 := zhF hF 29 65 ml0; have e58 := zhF hF 22 58 ml7; refine ⟨e58, ?_⟩; exact Z02 rfl e65
     apply bdg 67 k rfl rfl rfl rfl; case h =>
      intro ax wx hE hR hF; have e66 := zhF hF 30 66 ml0; refine ⟨e66, ?_⟩; simp [go_sem, ↓IntWalk.iteOmega, ev (hE.g e1)]
      with_reducible rfl
     apply bdg 68 k rfl rfl rfl rfl; case h =>
      intro ax wx hE hR hF; have e67 := zhF hF 31 67 ml0; have e66 := zhF hF 30 66 ml1; refine ⟨e66, ?_⟩; have q0 : wx.cell? ⟨lb, 1, none⟩ = some (.slice (some ⟨b0, o0, none⟩) len cap) := (OwnT.blk (OwnT.ext O hR) 0 rfl).cell 1
      simp [go_sem, ↓IntWalk.iteOmega, ev e67, q0]
      with_reducible rfl
     apply bdg 69 k rfl rfl rfl rfl; case h =>
      intro ax wx hE hR hF; have e66 := zhF hF 30 66 ml2; refine ⟨e66, ?_⟩; exact Z02 rfl (hE.g e3)
     apply bdg 70 k rfl rfl rfl rfl; case h =>
      intro ax wx hE hR hF; have e68 := zhF hF 32 68 ml1; have e69 := zhF hF 33 69 ml0; have e66 := zhF hF 30 66 ml3; refine ⟨e66, ?_⟩; simp [go_sem, ↓IntWalk.iteOmega, ev e68, ev e69]
      with_reducible rfl
     apply bdg 71 k rfl rfl rfl rfl; case h =>
      intro ax wx hE hR hF; have e70 := zhF hF 34 70 ml0; have e66 := zhF hF 30 66 ml4; refine ⟨e66, ?_⟩; simp [go_sem, ↓IntWalk.iteOmega, ev e70]
      with_reducible rfl
     apply bdg 72 k rfl rfl rfl rfl; case h =>
      intro ax wx hE hR hF; have e71 := zhF hF 35 71 ml0; have e66 := zhF hF 30 66 ml5; refine ⟨e66, ?_⟩; have d0 := HV2 wx hR
      simp [go_sem, ↓IntWalk.iteOmega, ev e71, d0]
      with_reducible rfl
     apply bdg 73 k rfl rfl rfl rfl; case h =>
      intro ax wx hE hR hF; have e72 := zhF hF 36 72 ml0; have e66 := zhF hF 30 66 ml6; refine ⟨e66, ?_⟩; exact Z08 (Z19 rfl e72 rfl) (decide_eq_false (by omega))
     apply bdg 74 k rfl rfl rfl rfl; case h =>
      intro ax wx hE hR hF; have e66 := zhF hF 30 66 ml7; have e73 := zhF hF 37 73 ml0; have e58 := zhF hF 22 58 ml15; refine ⟨e58, ?_⟩; exact Z07 rfl e66 e73
     apply bdg 75 k rfl rfl rfl rfl; case h =>
      intro ax wx hE hR hF; have e58 := zhF hF 22 58 ml16; have e74 := zhF hF 38 74 ml0; have e54 := zhF hF 18 54 ml20; refine ⟨e54, ?_⟩; exact Z0a rfl e58 e74
     apply bd 76 k rfl rfl rfl; case h =>
      intro ax wx hE hR hF; have e54 := zhF hF 18 54 ml21; have e75 := zhF hF 39 75 ml0; exact Z07 rfl e54 e75
     apply Build.stop
     refine ⟨by kernel_rfl, .inl ⟨rfl, ?_⟩⟩
     intro a154 w155 hE R hF; have e76 : a154.eval (.tmp 76) = _ := hF 40 (det 76 _) ml0
     clear hF; replace O := OwnT.ext O R; clear R; replace e1 := hE.g e1; replace e3 := hE.g e3; replace k := k.env hE; clear hE e33; refine Z00 ?_; refine Z0b e76 rfl ?_
     refine wp_skip ?_; refine Z0y ?_; refine Z00 ?_; refine wp_region_lit ?_
     have hE := Env.refl a154 [34, 35, 3]; refine sd 34 hE k (Z02 rfl e3) ?_; intro a156 hE e34 kp; replace e3 := kt kp e3; refine sd 35 hE k (Z38 rfl e34 rfl (by omega)) ?_; intro a157 hE e35 kp; replace e3 := kt kp e3; replace e35 := e35.trans (Z12 (show (j : Int) + 1 = ((j + 1 : Nat) : Int) by omega))
     refine sd 3 hE k (Z01 rfl e35) ?_; intro a158 hE e3 kp; refine wpList_nil ?_; replace e1 := hE.g e1; replace k := k.env hE; clear hE e76; refine Z00 ?_; refine ⟨⟨k, e1, j + 1, e3, by omega, fun i hi => ?_, O⟩, ?_⟩
     · by_cases e : i = j
       · subst e; exact hoj
       · exact hok i (by omega)
     · rw [e3, mj]; simp only [intOf]; omega
   · skip
     have HK0 := fun (wx : World) (h : Ext w136 wx) => hrow.key_at (O.below.trans (h.mono O.size)) (show j - 1 < xs.length by omega)
     by_cases hkey : j = 0 ∨ keyAt xs (j - 1) < keyAt xs j
     rotate_left
     · have hno : ¬ okAt lv xs j := fun h => hkey h.1
       refine wp_seq ?_; refine Z0n (R := Ext) (w0 := w136) [[], [0], [0, 1], [0, 1, 2], rg 4, [0, 1, 2], [0, 1, 2, 5], rg 7, rg 8, rg 9, [0, 1, 2], [0, 1, 2, 10], [0, 1, 2], [0, 1, 2, 10, 11, 12], [0, 1, 2, 10, 11, 12, 13], [0, 1, 2, 10, 11, 12, 13, 14], rg 16, rg 17, rg 18, rg 19, rg 20, rg 21, rg 22, rg 23, rg 24, rg 23, rg 26, rg 27, rg 28, rg 29, rg 30, rg 31, rg 32, rg 31, rg 34, rg 35, rg 36, rg 37, rg 38, rg 39, rg 40] [36, 37, 38, 39, 40, 41, 42, 43, 44, 45, 46, 47, 48, 49, 50, 51, 52, 53, 54, 55, 56, 57, 58, 59, 60, 61, 62, 63, 64, 65, 66, 67, 68, 69, 70, 71, 72, 73, 74, 75, 76] Ext.refl (fun _ _ _ => Ext.trans) (Ext.drew _) (by kernel_rfl) ?_
       apply bd 36 k rfl rfl rfl; case h =>
        intro ax wx hE hR hF; exact Z02 rfl (hE.g e3)
       apply bd 37 k rfl rfl rfl; case h =>
        intro ax wx hE hR hF; have e36 := zhF hF 0 36 ml0; exact Z08 (Z19 rfl e36 rfl) (decide_eq_true (by omega))
       apply bd 38 k rfl rfl rfl; case h =>
        intro ax wx hE hR hF; have e37 := zhF hF 1 37 ml0; exact Z02 rfl e37
       apply bdg 39 k rfl rfl rfl rfl; case h =>
        intro ax wx hE hR hF; have e38 := zhF hF 2 38 ml0; refine ⟨e38, ?_⟩; simp [go_sem, ↓IntWalk.iteOmega, ev (hE.g e1)]
        with_reducible rfl
       apply bdg 40 k rfl rfl rfl rfl; case h =>
        intro ax wx hE hR hF; have e39 := zhF hF 3 39 ml0; have e38 := zhF hF 2 38 ml1; refine ⟨e38, ?_⟩; have q0 : wx.cell? ⟨lb, 1, none⟩ = some (.slice (some ⟨b0, o0, none⟩) len cap) := (OwnT.blk (OwnT.ext O hR) 0 rfl).cell 1
        simp [go_sem, ↓IntWalk.iteOmega, ev e39, q0]
        with_reducible rfl
       apply bdg 41 k rfl rfl rfl rfl; case h =>
        intro ax wx hE hR hF; have e38 := zhF hF 2 38 ml2; refine ⟨e38, ?_⟩; exact Z02 rfl (hE.g e3)
       apply bdg 42 k rfl rfl rfl rfl; case h =>
        intro ax wx hE hR hF; have e41 := zhF hF 5 41 ml0; have e38 := zhF hF 2 38 ml3; refine ⟨e38, ?_⟩; exact Z2f (v := .int .i64 ↑(j - 1)) (Z3d rfl e41 rfl (by omega)) (Z12 (by omega))
       apply bdg 43 k rfl rfl rfl rfl; case h =>
        intro ax wx hE hR hF; have e40 := zhF hF 4 40 ml2; have e42 := zhF hF 6 42 ml0; have e38 := zhF hF 2 38 ml4; refine ⟨e38, ?_⟩; simp [go_sem, ↓IntWalk.iteOmega, ev e40, ev e42]
        with_reducible rfl
       apply bdg 44 k rfl rfl rfl rfl; case h =>
        intro ax wx hE hR hF; have e43 := zhF hF 7 43 ml0; have e38 := zhF hF 2 38 ml5; refine ⟨e38, ?_⟩; simp [go_sem, ↓IntWalk.iteOmega, ev e43]
        with_reducible rfl
       apply bdg 45 k rfl rfl rfl rfl; case h =>
        intro ax wx hE hR hF; have e44 := zhF hF 8 44 ml0; have e38 := zhF hF 2 38 ml6; refine ⟨e38, ?_⟩; have d0 := HK0 wx hR
        simp [go_sem, ↓IntWalk.iteOmega, ev e44, d0]
        with_reducible rfl
       apply bdg 46 k rfl rfl rfl rfl; case h =>
        intro ax wx hE hR hF; have e38 := zhF hF 2 38 ml7; refine ⟨e38, ?_⟩; simp [go_sem, ↓IntWalk.iteOmega, ev (hE.g e1)]
        with_reducible rfl
       apply bdg 47 k rfl rfl rfl rfl; case h =>
        intro ax wx hE hR hF; have e46 := zhF hF 10 46 ml0; have e38 := zhF hF 2 38 ml8; refine ⟨e38, ?_⟩; have q0 : wx.cell? ⟨lb, 1, none⟩ = some (.slice (some ⟨b0, o0, none⟩) len cap) := (OwnT.blk (OwnT.ext O hR) 0 rfl).cell 1
        simp [go_sem, ↓IntWalk.iteOmega, ev e46, q0]
        with_reducible rfl
       apply bdg 48 k rfl rfl rfl rfl; case h =>
        intro ax wx hE hR hF; have e38 := zhF hF 2 38 ml9; refine ⟨e38, ?_⟩; exact Z02 rfl (hE.g e3)
       apply bdg 49 k rfl rfl rfl rfl; case h =>
        intro ax wx hE hR hF; have e47 := zhF hF 11 47 ml1; have e48 := zhF hF 12 48 ml0; have e38 := zhF hF 2 38 ml10; refine ⟨e38, ?_⟩; simp [go_sem, ↓IntWalk.iteOmega, ev e47, ev e48]
        with_reducible rfl
       apply bdg 50 k rfl rfl rfl rfl; case h =>
        intro ax wx hE hR hF; have e49 := zhF hF 13 49 ml0; have e38 := zhF hF 2 38 ml11; refine ⟨e38, ?_⟩; simp [go_sem, ↓IntWalk.iteOmega, ev e49]
        with_reducible rfl
       apply bdg 51 k rfl rfl rfl rfl; case h =>
        intro ax wx hE hR hF; have e50 := zhF hF 14 50 ml0; have e38 := zhF hF 2 38 ml12; refine ⟨e38, ?_⟩; have d0 := HK2 wx hR
        simp [go_sem, ↓IntWalk.iteOmega, ev e50, d0]
        with_reducible rfl
       apply bdg 52 k rfl rfl rfl rfl; case h =>
        intro ax wx hE hR hF; have e45 := zhF hF 9 45 ml6; have e51 := zhF hF 15 51 ml0; have e38 := zhF hF 2 38 ml13; refine ⟨e38, ?_⟩; exact Z08 (Z1q rfl e45 e51) (decide_eq_true (by omega))
       apply bd 53 k rfl rfl rfl; case h =>
        intro ax wx hE hR hF; have e38 := zhF hF 2 38 ml14; have e52 := zhF hF 16 52 ml0; exact Z0a rfl e38 e52
       apply bd 54 k rfl rfl rfl; case h =>
        intro ax wx hE hR hF; have e53 := zhF hF 17 53 ml0; exact Z02 rfl e53
       refine Build.skip 55 (by rfl) (by rw [k.size]; rfl) rfl rfl ?_ ?_
       · intro ax wx hE hR hF; have e54 := zhF hF 18 54 ml0; exact e54
       refine Build.skip 56 (by rfl) (by rw [k.size]; rfl) rfl rfl ?_ ?_
       · intro ax wx hE hR hF; have e54 := zhF hF 18 54 ml1; exact e54
       refine Build.skip 57 (by rfl) (by rw [k.size]; rfl) rfl rfl ?_ ?_
       · intro ax wx hE hR hF; have e54 := zhF hF 18 54 ml2; exact e54
       refine Build.skip 58 (by rfl) (by rw [k.size]; rfl) rfl rfl ?_ ?_
       · intro ax wx hE hR hF; have e54 := zhF hF 18 54 ml3; exact e54
       refine Build.skipu 59 (by rfl) (by rw [k.size]; rfl) rfl rfl ?_ ?_
       · intro ax wx hE hR hF; have e58 := zhF hF 22 58 ml0; exact e58
       refine Build.skipu 60 (by rfl) (by rw [k.size]; rfl) rfl rfl ?_ ?_
       · intro ax wx hE hR hF; have e58 := zhF hF 22 58 ml1; exact e58
       refine Build.skipu 61 (by rfl) (by rw [k.size]; rfl) rfl rfl ?_ ?_
       · intro ax wx hE hR hF; have e58 := zhF hF 22 58 ml2; exact e58
       refine Build.skipu 62 (by rfl) (by rw [k.size]; rfl) rfl rfl ?_ ?_
       · intro ax wx hE hR hF; have e58 := zhF hF 22 58 ml3; exact e58
       refine Build.skipu 63 (by rfl) (by rw [k.size]; rfl) rfl rfl ?_ ?_
       · intro ax wx hE hR hF; have e58 := zhF hF 22 58 ml4; exact e58
       refine Build.skipu 64 (by rfl) (by rw [k.size]; rfl) rfl rfl ?_ ?_
       · intro ax wx hE hR hF; have e58 := zhF hF 22 58 ml5; exact e58
       refine Build.skipu 65 (by rfl) (by rw [k.size]; rfl) rfl rfl ?_ ?_
       · intro ax wx hE hR hF; have e58 := zhF hF 22 58 ml6; exact e58
       refine Build.skipu 66 (by rfl) (by rw [k.size]; rfl) rfl rfl ?_ ?_
       · intro ax wx hE hR hF; have e58 := zhF hF 22 58 ml7; exact e58
       refine Build.skipu 67 (by rfl) (by rw [k.size]; rfl) rfl rfl ?_ ?_
       · intro ax wx hE hR hF; have e66 := zhF hF 30 66 ml0; exact e66
       refine Build.skipu 68 (by rfl) (by rw [k.size]; rfl) rfl rfl ?_ ?_
       · intro ax wx hE hR hF; have e66 := zhF hF 30 66 ml1; exact e66
       refine Build.skipu 69 (by rfl) (by rw [k.size]; rfl) rfl rfl ?_ ?_
       · intro ax wx hE hR hF; have e66 := zhF hF 30 66 ml2; exact e66
       refine Build.skipu 70 (by rfl) (by rw [k.size]; rfl) rfl rfl ?_ ?_
       · intro ax wx hE hR hF; have e66 := zhF hF 30 66 ml3; exact e66
       refine Build.skipu 71 (by rfl) (by rw [k.size]; rfl) rfl rfl ?_ ?_
       · intro ax wx hE hR hF; have e66 := zhF hF 30 66 ml4; exact e66
       refine Build.skipu 72 (by rfl) (by rw [k.size]; rfl) rfl rfl ?_ ?_
       · intro ax wx hE hR hF; have e66 := zhF hF 30 66 ml5; exact e66
       refine Build.skipu 73 (by rfl) (by rw [k.size]; rfl) rfl rfl ?_ ?_
       · intro ax wx hE hR hF; have e66 := zhF hF 30 66 ml6; exact e66
       refine Build.skipu 74 (by rfl) (by rw [k.size]; rfl) rfl rfl ?_ ?_
       · intro ax wx hE hR hF; have e58 := zhF hF 22 58 ml15; exact e58
       refine Build.skip 75 (by rfl) (by rw [k.size]; rfl) rfl rfl ?_ ?_
       · intro ax wx hE hR hF; have e54 := zhF hF 18 54 ml20; exact e54
       apply bd 76 k rfl rfl rfl; case h =>
        intro ax wx hE hR hF; have e54 := zhF hF 18 54 ml21; have e75 := zhF hF 39 75 ml0; exact Z0a rfl e54 rfl
       apply Build.stop
       refine ⟨by kernel_rfl, .inl ⟨rfl, ?_⟩⟩
       intro a159 w160 hE R hF; have e76 : a159.eval (.tmp 76) = _ := hF 40 (det 76 _) ml0
       clear hF; replace O := OwnT.ext O R; clear R; replace e1 := hE.g e1; replace e3 := hE.g e3; replace k := k.env hE; clear hE e33; refine Z00 ?_; refine Z0i e76 rfl ?_
       refine wp_seq ?_; refine wp_region_lit ?_
       have hE := Env.refl a159 [2]; refine sd 2 hE k (Z01 rfl rfl) ?_; intro a161 hE e2 kp; refine wpList_nil ?_; replace k := k.env hE; clear hE e1 e3 e76; refine Z00 ?_; refine wp_ret ?_
       refine Z0s ?_
       refine Z0h ?_
       refine Z0h ?_
       refine Z0s ?_
       refine Z0h ?_
       refine Z0j rfl k e2 ?_
       exact ⟨congrArg (fun b => Ending.returned (.bool b)) (Z32 hjx hno).symm, O.below⟩
     by_cases hv1 : valAt xs j < 1
     · have hno : ¬ okAt lv xs j := fun h => by rcases h.2 with e | e; omega; unfold farB at e; simp at e; omega
       refine wp_seq ?_; refine Z0n (R := Ext) (w0 := w136) [[], [0], [0, 1], [0, 1, 2], rg 4, [0, 1, 2], [0, 1, 2, 5], rg 7, rg 8, rg 9, [0, 1, 2], [0, 1, 2, 10], [0, 1, 2], [0, 1, 2, 10, 11, 12], [0, 1, 2, 10, 11, 12, 13], [0, 1, 2, 10, 11, 12, 13, 14], rg 16, rg 17, rg 18, rg 19, rg 20, rg 21, rg 22, rg 23, rg 24, rg 23, rg 26, rg 27, rg 28, rg 29, rg 30, rg 31, rg 32, rg 31, rg 34, rg 35, rg 36, rg 37, rg 38, rg 39, rg 40] [36, 37, 38, 39, 40, 41, 42, 43, 44, 45, 46, 47, 48, 49, 50, 51, 52, 53, 54, 55, 56, 57, 58, 59, 60, 61, 62, 63, 64, 65, 66, 67, 68, 69, 70, 71, 72, 73, 74, 75, 76] Ext.refl (fun _ _ _ => Ext.trans) (Ext.drew _) (by kernel_rfl) ?_
       apply bd 36 k rfl rfl rfl; case h =>
        intro ax wx hE hR hF; exact Z02 rfl (hE.g e3)
       apply bd 37 k rfl rfl rfl; case h =>
        intro ax wx hE hR hF; have e36 := zhF hF 0 36 ml0; exact Z08 (Z19 rfl e36 rfl) (decide_eq_true (by omega))
       apply bd 38 k rfl rfl rfl; case h =>
        intro ax wx hE hR hF; have e37 := zhF hF 1 37 ml0; exact Z02 rfl e37
       apply bdg 39 k rfl rfl rfl rfl; case h =>
        intro ax wx hE hR hF; have e38 := zhF hF 2 38 ml0; refine ⟨e38, ?_⟩; simp [go_sem, ↓IntWalk.iteOmega, ev (hE.g e1)]
        with_reducible rfl
       apply bdg 40 k rfl rfl rfl rfl; case h =>
        intro ax wx hE hR hF; have e39 := zhF hF 3 39 ml0; have e38 := zhF hF 2 38 ml1; refine ⟨e38, ?_⟩; have q0 : wx.cell? ⟨lb, 1, none⟩ = some (.slice (some ⟨b0, o0, none⟩) len cap) := (OwnT.blk (OwnT.ext O hR) 0 rfl).cell 1
        simp [go_sem, ↓IntWalk.iteOmega, ev e39, q0]
        with_reducible rfl
       apply bdg 41 k rfl rfl rfl rfl; case h =>
        intro ax wx hE hR hF; have e38 := zhF hF 2 38 ml2; refine ⟨e38, ?_⟩; exact Z02 rfl (hE.g e3)
       apply bdg 42 k rfl rfl rfl rfl; case h =>
        intro ax wx hE hR hF; have e41 := zhF hF 5 41 ml0; have e38 := zhF hF 2 38 ml3; refine ⟨e38, ?_⟩; exact Z2f (v := .int .i64 ↑(j - 1)) (Z3d rfl e41 rfl (by omega)) (Z12 (by omega))
       apply bdg 43 k rfl rfl rfl rfl; case h =>
        intro ax wx hE hR hF; have e40 := zhF hF 4 40 ml2; have e42 := zhF hF 6 42 ml0; have e38 := zhF hF 2 38 ml4; refine ⟨e38, ?_⟩; simp [go_sem, ↓IntWalk.iteOmega, ev e40, ev e42]
        with_reducible rfl
       apply bdg 44 k rfl rfl rfl rfl; case h =>
        intro ax wx hE hR hF; have e43 := zhF hF 7 43 ml0; have e38 := zhF hF 2 38 ml5; refine ⟨e38, ?_⟩; simp [go_sem, ↓IntWalk.iteOmega, ev e43]
        with_reducible rfl
       apply bdg 45 k rfl rfl rfl rfl; case h =>
        intro ax wx hE hR hF; have e44 := zhF hF 8 44 ml0; have e38 := zhF hF 2 38 ml6; refine ⟨e38, ?_⟩; have d0 := HK0 wx hR
        simp [go_sem, ↓IntWalk.iteOmega, ev e44, d0]
        with_reducible rfl
       apply bdg 46 k rfl rfl rfl rfl; case h =>
        intro ax wx hE hR hF; have e38 := zhF hF 2 38 ml7; refine ⟨e38, ?_⟩; simp [go_sem, ↓IntWalk.iteOmega, ev (hE.g e1)]
        with_reducible rfl
       apply bdg 47 k rfl rfl rfl rfl; case h =>
        intro ax wx hE hR hF; have e46 := zhF hF 10 46 ml0; have e38 := zhF hF 2 38 ml8; refine ⟨e38, ?_⟩; have q0 : wx.cell? ⟨lb, 1, none⟩ = some (.slice (some ⟨b0, o0, none⟩) len cap) := (OwnT.blk (OwnT.ext O hR) 0 rfl).cell 1
        simp [go_sem, ↓IntWalk.iteOmega, ev e46, q0]
        with_reducible rfl
       apply bdg 48 k rfl rfl rfl rfl; case h =>
        intro ax wx hE hR hF; have e38 := zhF hF 2 38 ml9; refine ⟨e38, ?_⟩; exact Z02 rfl (hE.g e3)
       apply bdg 49 k rfl rfl rfl rfl; case h =>
        intro ax wx hE hR hF; have e47 := zhF hF 11 47 ml1; have e48 := zhF hF 12 48 ml0; have e38 := zhF hF 2 38 ml10; refine ⟨e38, ?_⟩; simp [go_sem, ↓IntWalk.iteOmega, ev e47, ev e48]
        with_reducible rfl
       apply bdg 50 k rfl rfl rfl rfl; case h =>
        intro ax wx hE hR hF; have e49 := zhF hF 13 49 ml0; have e38 := zhF hF 2 38 ml11; refine ⟨e38, ?_⟩; simp [go_sem, ↓IntWalk.iteOmega, ev e49]
        with_reducible rfl
       apply bdg 51 k rfl rfl rfl rfl; case h =>
        intro ax wx hE hR hF; have e50 := zhF hF 14 50 ml0; have e38 := zhF hF 2 38 ml12; refine ⟨e38, ?_⟩; have d0 := HK2 wx hR
        simp [go_sem, ↓IntWalk.iteOmega, ev e50, d0]
        with_reducible rfl
       apply bdg 52 k rfl rfl rfl rfl; case h =>
        intro ax wx hE hR hF; have e45 := zhF hF 9 45 ml6; have e51 := zhF hF 15 51 ml0; have e38 := zhF hF 2 38 ml13; refine ⟨e38, ?_⟩; exact Z08 (Z1q rfl e45 e51) (decide_eq_false (by omega))
       apply bd 53 k rfl rfl rfl; case h =>
        intro ax wx hE hR hF; have e38 := zhF hF 2 38 ml14; have e52 := zhF hF 16 52 ml0; exact Z0a rfl e38 e52
       apply bd 54 k rfl rfl rfl; case h =>
        intro ax wx hE hR hF; have e53 := zhF hF 17 53 ml0; exact Z02 rfl e53
       apply bdg 55 k rfl rfl rfl rfl; case h =>
        intro ax wx hE hR hF; have e54 := zhF hF 18 54 ml0; refine ⟨e54, ?_⟩; simp [go_sem, ↓IntWalk.iteOmega, ev (hE.g e1)]
        with_reducible rfl
       apply bdg 56 k rfl rfl rfl rfl; case h =>
        intro ax wx hE hR hF; have e55 := zhF hF 19 55 ml0; have e54 := zhF hF 18 54 ml1; refine ⟨e54, ?_⟩; have q0 : wx.cell? ⟨lb, 0, none⟩ = some (.int .i64 lv) := (OwnT.blk (OwnT.ext O hR) 0 rfl).cell 0
        simp [go_sem, ↓IntWalk.iteOmega, ev e55, q0]
        with_reducible rfl
       apply bdg 57 k rfl rfl rfl rfl; case h =>
        intro ax wx hE hR hF; have e56 := zhF hF 20 56 ml0; have e54 := zhF hF 18 54 ml2; refine ⟨e54, ?_⟩; exact Z08 (Z19 rfl e56 rfl) (decide_eq_true (by omega))
       apply bdg 58 k rfl rfl rfl rfl; case h =>
        intro ax wx hE hR hF; have e57 := zhF hF 21 57 ml0; have e54 := zhF hF 18 54 ml3; refine ⟨e54, ?_⟩; exact Z02 rfl e57
       apply bdg 59 k rfl rfl rfl rfl; case h =>
        intro ax wx hE hR hF; have e58 := zhF hF 22 58 ml0; refine ⟨e58, ?_⟩; simp [go_sem, ↓IntWalk.iteOmega, ev (hE.g e1)]
        with_reducible rfl
       apply bdg 60 k rfl rfl rfl rfl; case h =>
        intro ax wx hE hR hF; have e59 := zhF hF 23 59 ml0; have e58 := zhF hF 22 58 ml1; refine ⟨e58, ?_⟩; have q0 : wx.cell? ⟨lb, 1, none⟩ = some (.slice (some ⟨b0, o0, none⟩) len cap) := (OwnT.blk (OwnT.ext O hR) 0 rfl).cell 1
        simp [go_sem, ↓IntWalk.iteOmega, ev e59, q0]
        with_reducible rfl
       apply bdg 61 k rfl rfl rfl rfl; case h =>
        intro ax wx hE hR hF; have e58 := zhF hF 22 58 ml2; refine ⟨e58, ?_⟩; exact Z02 rfl (hE.g e3)
       apply bdg 62 k rfl rfl rfl rfl; case h =>
        intro ax wx hE hR hF; have e60 := zhF hF 24 60 ml1; have e61 := zhF hF 25 61 ml0; have e58 := zhF hF 22 58 ml3; refine ⟨e58, ?_⟩; simp [go_sem, ↓IntWalk.iteOmega, ev e60, ev e61]
        with_reducible rfl
       apply bdg 63 k rfl rfl rfl rfl; case h =>
        intro ax wx hE hR hF; have e62 := zhF hF 26 62 ml0; have e58 := zhF hF 22 58 ml4; refine ⟨e58, ?_⟩; simp [go_sem, ↓IntWalk.iteOmega, ev e62]
        with_reducible rfl
       apply bdg 64 k rfl rfl rfl rfl; case h =>
        intro ax wx hE hR hF; have e63 := zhF hF 27 63 ml0; have e58 := zhF hF 22 58 ml5; refine ⟨e58, ?_⟩; have d0 := HV2 wx hR
        simp [go_sem, ↓IntWalk.iteOmega, ev e63, d0]
        with_reducible rfl
       apply bdg 65 k rfl rfl rfl rfl; case h =>
        intro ax wx hE hR hF; have e64 := zhF hF 28 64 ml0; have e58 := zhF hF 22 58 ml6; refine ⟨e58, ?_⟩; exact Z08 (Z14 rfl e64 rfl) (decide_eq_true (by omega))
       apply bdg 66 k rfl rfl rfl rfl; case h =>
        intro ax wx hE hR hF; have e65 := zhF hF 29 65 ml0; have e58 := zhF hF 22 58 ml7; refine ⟨e58, ?_⟩; exact Z02 rfl e65
       refine Build.skip 67 (by rfl) (by rw [k.size]; rfl) rfl rfl ?_ ?_
       · intro ax wx hE hR hF; have e66 := zhF hF 30 66 ml0; exact e66
       refine Build.skip 68 (by rfl) (by rw [k.size]; rfl) rfl rfl ?_ ?_
       · intro ax wx hE hR hF; have e66 := zhF hF 30 66 ml1; exact e66
       refine Build.skip 69 (by rfl) (by rw [k.size]; rfl) rfl rfl ?_ ?_
       · intro ax wx hE hR hF; have e66 := zhF hF 30 66 ml2; exact e66
       refine Build.skip 70 (by rfl) (by rw [k.size]; rfl) rfl rfl ?_ ?_
       · intro ax wx hE hR hF; have e66 := zhF hF 30 66 ml3; exact e66
       refine Build.skip 71 (by rfl) (by rw [k.size]; rfl) rfl rfl ?_ ?_
       · intro ax wx hE hR hF; have e66 := zhF hF 30 66 ml4; exact e66
       refine Build.skip 72 (by rfl) (by rw [k.size]; rfl) rfl rfl ?_ ?_
       · intro ax wx hE hR hF; have e66 := zhF hF 30 66 ml5; exact e66
       refine Build.skip 73 (by rfl) (by rw [k.size]; rfl) rfl rfl ?_ ?_
       · intro ax wx hE hR hF; have e66 := zhF hF 30 66 ml6; exact e66
       apply bdg 74 k rfl rfl rfl rfl; case h =>
        intro ax wx hE hR hF; have e66 := zhF hF 30 66 ml7; have e73 := zhF hF 37 73 ml0; have e58 := zhF hF 22 58 ml15; refine ⟨e58, ?_⟩; exact Z0a rfl e66 rfl
       apply bdg 75 k rfl rfl rfl rfl; case h =>
        intro ax wx hE hR hF; have e58 := zhF hF 22 58 ml16; have e74 := zhF hF 38 74 ml0; have e54 := zhF hF 18 54 ml20; refine ⟨e54, ?_⟩; exact Z0a rfl e58 e74
       apply bd 76 k rfl rfl rfl; case h =>
        intro ax wx hE hR hF; have e54 := zhF hF 18 54 ml21; have e75 := zhF hF 39 75 ml0; exact Z07 rfl e54 e75
       apply Build.stop
       refine ⟨by kernel_rfl, .inl ⟨rfl, ?_⟩⟩
       intro a162 w163 hE R hF; have e76 : a162.eval (.tmp 76) = _ := hF 40 (det 76 _) ml0
       clear hF; replace O := OwnT.ext O R; clear R; replace e1 := hE.g e1; replace e3 := hE.g e3; replace k := k.env hE; clear hE e33; refine Z00 ?_; refine Z0i e76 rfl ?_
       refine wp_seq ?_; refine wp_region_lit ?_
       have hE := Env.refl a162 [2]; refine sd 2 hE k (Z01 rfl rfl) ?_; intro a164 hE e2 kp; refine wpList_nil ?_; replace k := k.env hE; clear hE e1 e3 e76; refine Z00 ?_; refine wp_ret ?_
       refine Z0s ?_
       refine Z0h ?_
       refine Z0h ?_
       refine Z0s ?_
       refine Z0h ?_
       refine Z0j rfl k e2 ?_
       exact ⟨congrArg (fun b => Ending.returned (.bool b)) (Z32 hjx hno).symm, O.below⟩
     by_cases hv2 : 511 < valAt xs j
     · have hno : ¬ okAt lv xs j := fun h => by rcases h.2 with e | e; omega; unfold farB at e; simp at e; omega
       refine wp_seq ?_; refine Z0n (R := Ext) (w0 := w136) [[], [0], [0, 1], [0, 1, 2], rg 4, [0, 1, 2], [0, 1, 2, 5], rg 7, rg 8, rg 9, [0, 1, 2], [0, 1, 2, 10], [0, 1, 2], [0, 1, 2, 10, 11, 12], [0, 1, 2, 10, 11, 12, 13], [0, 1, 2, 10, 11, 12, 13, 14], rg 16, rg 17, rg 18, rg 19, rg 20, rg 21, rg 22, rg 23, rg 24, rg 23, rg 26, rg 27, rg 28, rg 29, rg 30, rg 31, rg 32, rg 31, rg 34, rg 35, rg 36, rg 37, rg 38, rg 39, rg 40] [36, 37, 38, 39, 40, 41, 42, 43, 44, 45, 46, 47, 48, 49, 50, 51, 52, 53, 54, 55, 56, 57, 58, 59, 60, 61, 62, 63, 64, 65, 66, 67, 68, 69, 70, 71, 72, 73, 74, 75, 76] Ext.refl (fun _ _ _ => Ext.trans) (Ext.drew _) (by kernel_rfl) ?_
       apply bd 36 k rfl rfl rfl; case h =>
        intro ax wx hE hR hF; exact Z02 rfl (hE.g e3)
       apply bd 37 k rfl rfl rfl; case h =>
        intro ax wx hE hR hF; have e36 := zhF hF 0 36 ml0; exact Z08 (Z19 rfl e36 rfl) (decide_eq_true (by omega))
       apply bd 38 k rfl rfl rfl; case h =>
        intro ax wx hE hR hF; have e37 := zhF hF 1 37 ml0; exact Z02 rfl e37
       apply bdg 39 k rfl rfl rfl rfl; case h =>
        intro ax wx hE hR hF; have e38 := zhF hF 2 38 ml0; refine ⟨e38, ?_⟩; simp [go_sem, ↓IntWalk.iteOmega, ev (hE.g e1)]
        with_reducible rfl
       apply bdg 40 k rfl rfl rfl rfl; case h =>
        intro ax wx hE hR hF; have e39 := zhF hF 3 39 ml0; have e38 := zhF hF 2 38 ml1; refine ⟨e38, ?_⟩; have q0 : wx.cell? ⟨lb, 1, none⟩ = some (.slice (some ⟨b0, o0, none⟩) len cap) := (OwnT.blk (OwnT.ext O hR) 0 rfl).cell 1
        simp [go_sem, ↓IntWalk.iteOmega, ev e39, q0]
        with_reducible rfl
       apply bdg 41 k rfl rfl rfl rfl; case h =>
        intro ax wx hE hR hF; have e38 := zhF hF 2 38 ml2; refine ⟨e38, ?_⟩; exact Z02 rfl (hE.g e3)
       apply bdg 42 k rfl rfl rfl rfl; case h =>
        intro ax wx hE hR hF; have e41 := zhF hF 5 41 ml0; have e38 := zhF hF 2 38 ml3; refine ⟨e38, ?_⟩; exact Z2f (v := .int .i64 ↑(j - 1)) (Z3d rfl e41 rfl (by omega)) (Z12 (by omega))
       apply bdg 43 k rfl rfl rfl rfl; case h =>
        intro ax wx hE hR hF; have e40 := zhF hF 4 40 ml2; have e42 := zhF hF 6 42 ml0; have e38 := zhF hF 2 38 ml4; refine ⟨e38, ?_⟩; simp [go_sem, ↓IntWalk.iteOmega, ev e40, ev e42]
        with_reducible rfl
       apply bdg 44 k rfl rfl rfl rfl; case h =>
        intro ax wx hE hR hF; have e43 := zhF hF 7 43 ml0; have e38 := zhF hF 2 38 ml5; refine ⟨e38, ?_⟩; simp [go_sem, ↓IntWalk.iteOmega, ev e43]
        with_reducible rfl
       apply bdg 45 k rfl rfl rfl rfl; case h =>
        intro ax wx hE hR hF; have e44 := zhF hF 8 44 ml0; have e38 := zhF hF 2 38 ml6; refine ⟨e38, ?_⟩; have d0 := HK0 wx hR
        simp [go_sem, ↓IntWalk.iteOmega, ev e44, d0]
        with_reducible rfl
       apply bdg 46 k rfl rfl rfl rfl; case h =>
        intro ax wx hE hR hF; have e38 := zhF hF 2 38 ml7; refine ⟨e38, ?_⟩; simp [go_sem, ↓IntWalk.iteOmega, ev (hE.g e1)]
        with_reducible rfl
       apply bdg 47 k rfl rfl rfl rfl; case h =>
        intro ax wx hE hR hF; have e46 := zhF hF 10 46 ml0; have e38 := zhF hF 2 38 ml8; refine ⟨e38, ?_⟩; have q0 : wx.cell? ⟨lb, 1, none⟩ = some (.slice (some ⟨b0, o0, none⟩) len cap) := (OwnT.blk (OwnT.ext O hR) 0 rfl).cell 1
        simp [go_sem, ↓IntWalk.iteOmega, ev e46, q0]
        with_reducible rfl
       apply bdg 48 k rfl rfl rfl rfl; case h =>
        intro ax wx hE hR hF; have e38 := zhF hF 2 38 ml9; refine ⟨e38, ?_⟩; exact Z02 rfl (hE.g e3)
       apply bdg 49 k rfl rfl rfl rfl; case h =>
        intro ax wx hE hR hF; have e47 := zhF hF 11 47 ml1; have e48 := zhF hF 12 48 ml0; have e38 := zhF hF 2 38 ml10; refine ⟨e38, ?_⟩; simp [go_sem, ↓IntWalk.iteOmega, ev e47, ev e48]
        with_reducible rfl
       apply bdg 50 k rfl rfl rfl rfl; case h =>
        intro ax wx hE hR hF; have e49 := zhF hF 13 49 ml0; have e38 := zhF hF 2 38 ml11; refine ⟨e38, ?_⟩; simp [go_sem, ↓IntWalk.iteOmega, ev e49]
        with_reducible rfl
       apply bdg 51 k rfl rfl rfl rfl; case h =>
        intro ax wx hE hR hF; have e50 := zhF hF 14 50 ml0; have e38 := zhF hF 2 38 ml12; refine ⟨e38, ?_⟩; have d0 := HK2 wx hR
        simp [go_sem, ↓IntWalk.iteOmega, ev e50, d0]
        with_reducible rfl
       apply bdg 52 k rfl rfl rfl rfl; case h =>
        intro ax wx hE hR hF; have e45 := zhF hF 9 45 ml6; have e51 := zhF hF 15 51 ml0; have e38 := zhF hF 2 38 ml13; refine ⟨e38, ?_⟩; exact Z08 (Z1q rfl e45 e51) (decide_eq_false (by omega))
       apply bd 53 k rfl rfl rfl; case h =>
        intro ax wx hE hR hF; have e38 := zhF hF 2 38 ml14; have e52 := zhF hF 16 52 ml0; exact Z0a rfl e38 e52
       apply bd 54 k rfl rfl rfl; case h =>
        intro ax wx hE hR hF; have e53 := zhF hF 17 53 ml0; exact Z02 rfl e53
       apply bdg 55 k rfl rfl rfl rfl; case h =>
        intro ax wx hE hR hF; have e54 := zhF hF 18 54 ml0; refine ⟨e54, ?_⟩; simp [go_sem, ↓IntWalk.iteOmega, ev (hE.g e1)]
        with_reducible rfl
       apply bdg 56 k rfl rfl rfl rfl; case h =>
        intro ax wx hE hR hF; have e55 := zhF hF 19 55 ml0; have e54 := zhF hF 18 54 ml1; refine ⟨e54, ?_⟩; have q0 : wx.cell? ⟨lb, 0, none⟩ = some (.int .i64 lv) := (OwnT.blk (OwnT.ext O hR) 0 rfl).cell 0
        simp [go_sem, ↓IntWalk.iteOmega, ev e55, q0]
        with_reducible rfl
       apply bdg 57 k rfl rfl rfl rfl; case h =>
        intro ax wx hE hR hF; have e56 := zhF hF 20 56 ml0; have e54 := zhF hF 18 54 ml2; refine ⟨e54, ?_⟩; exact Z08 (Z19 rfl e56 rfl) (decide_eq_true (by omega))
       apply bdg 58 k rfl rfl rfl rfl; case h =>
        intro ax wx hE hR hF; have e57 := zhF hF 21 57 ml0; have e54 := zhF hF 18 54 ml3; refine ⟨e54, ?_⟩; exact Z02 rfl e57
       apply bdg 59 k rfl rfl rfl rfl; case h =>
        intro ax wx hE hR hF; have e58 := zhF hF 22 58 ml0; refine ⟨e58, ?_⟩; simp [go_sem, ↓IntWalk.iteOmega, ev (hE.g e1)]
        with_reducible rfl
       apply bdg 60 k rfl rfl rfl rfl; case h =>
        intro ax wx hE hR hF; have e59 := zhF hF 23 59 ml0; have e58 := zhF hF 22 58 ml1; refine ⟨e58, ?_⟩; have q0 : wx.cell? ⟨lb, 1, none⟩ = some (.slice (some ⟨b0, o0, none⟩) len cap) := (OwnT.blk (OwnT.ext O hR) 0 rfl).cell 1
        simp [go_sem, ↓IntWalk.iteOmega, ev e59, q0]
        with_reducible rfl
       apply bdg 61 k rfl rfl rfl rfl; case h =>
        intro ax wx hE hR hF; have e58 := zhF hF 22 58 ml2; refine ⟨e58, ?_⟩; exact Z02 rfl (hE.g e3)
       apply bdg 62 k rfl rfl rfl rfl; case h =>
        intro ax wx hE hR hF; have e60 := zhF hF 24 60 ml1; have e61 := zhF hF 25 61 ml0; have e58 := zhF hF 22 58 ml3; refine ⟨e58, ?_⟩; simp [go_sem, ↓IntWalk.iteOmega, ev e60, ev e61]
        with_reducible rfl
       apply bdg 63 k rfl rfl rfl rfl; case h =>
        intro ax wx hE hR hF; have e62 := zhF hF 26 62 ml0; have e58 := zhF hF 22 58 ml4; refine ⟨e58, ?_⟩; simp [go_sem, ↓IntWalk.iteOmega, ev e62]
        with_reducible rfl
       apply bdg 64 k rfl rfl rfl rfl; case h =>
        intro ax wx hE hR hF; have e63 := zhF hF 27 63 ml0; have e58 := zhF hF 22 58 ml5; refine ⟨e58, ?_⟩; have d0 := HV2 wx hR
        simp [go_sem, ↓IntWalk.iteOmega, ev e63, d0]
        with_reducible rfl
       apply bdg 65 k rfl rfl rfl rfl; case h =>
        intro ax wx hE hR hF; have e64 := zhF hF 28 64 ml0; have e58 := zhF hF 22 58 ml6; refine ⟨e58, ?_⟩; exact Z08 (Z14 rfl e64 rfl) (decide_eq_false (by omega))
       apply bdg 66 k rfl rfl rfl rfl; case h =>
        intro ax wx hE hR hF; have e65 := zhF hF 29 65 ml0; have e58 := zhF hF 22 58 ml7; refine ⟨e58, ?_⟩; exact Z02 rfl e65
       apply bdg 67 k rfl rfl rfl rfl; case h =>
        intro ax wx hE hR hF; have e66 := zhF hF 30 66 ml0; refine ⟨e66, ?_⟩; simp [go_sem, ↓IntWalk.iteOmega, ev (hE.g e1)]
        with_reducible rfl
       apply bdg 68 k rfl rfl rfl rfl; case h =>
        intro ax wx hE hR hF; have e67 := zhF hF 31 67 ml0; have e66 := zhF hF 30 66 ml1; refine ⟨e66, ?_⟩; have q0 : wx.cell? ⟨lb, 1, none⟩ = some (.slice (some ⟨b0, o0, none⟩) len cap) := (OwnT.blk (OwnT.ext O hR) 0 rfl).cell 1
        simp [go_sem, ↓IntWalk.iteOmega, ev e67, q0]
        with_reducible rfl
       apply bdg 69 k rfl rfl rfl rfl; case h =>
        intro ax wx hE hR hF; have e66 := zhF hF 30 66 ml2; refine ⟨e66, ?_⟩; exact Z02 rfl (hE.g e3)
       apply bdg 70 k rfl rfl rfl rfl; case h =>
        intro ax wx hE hR hF; have e68 := zhF hF 32 68 ml1; have e69 := zhF hF 33 69 ml0; have e66 := zhF hF 30 66 ml3; refine ⟨e66, ?_⟩; simp [go_sem, ↓IntWalk.iteOmega, ev e68, ev e69]
        with_reducible rfl
       apply bdg 71 k rfl rfl rfl rfl; case h =>
        intro ax wx hE hR hF; have e70 := zhF hF 34 70 ml0; have e66 := zhF hF 30 66 ml4; refine ⟨e66, ?_⟩; simp [go_sem, ↓IntWalk.iteOmega, ev e70]
        with_reducible rfl
       apply bdg 72 k rfl rfl rfl rfl; case h =>
        intro ax wx hE hR hF; have e71 := zhF hF 35 71 ml0; have e66 := zhF hF 30 66 ml5; refine ⟨e66, ?_⟩; have d0 := HV2 wx hR
        simp [go_sem, ↓IntWalk.iteOmega, ev e71, d0]
        with_reducible rfl
       apply bdg 73 k rfl rfl rfl rfl; case h =>
        intro ax wx hE hR hF; have e72 := zhF hF 36 72 ml0; have e66 := zhF hF 30 66 ml6; refine ⟨e66, ?_⟩; exact Z08 (Z19 rfl e72 rfl) (decide_eq_true (by omega))
       apply bdg 74 k rfl rfl rfl rfl; case h =>
        intro ax wx hE hR hF; have e66 := zhF hF 30 66 ml7; have e73 := zhF hF 37 73 ml0; have e58 := zhF hF 22 58 ml15; refine ⟨e58, ?_⟩; exact Z07 rfl e66 e73
       apply bdg 75 k rfl rfl rfl rfl; case h =>
        intro ax wx hE hR hF; have e58 := zhF hF 22 58 ml16; have e74 := zhF hF 38 74 ml0; have e54 := zhF hF 18 54 ml20; refine ⟨e54, ?_⟩; exact Z0a rfl e58 e74
       apply bd 76 k rfl rfl rfl; case h =>
        intro ax wx hE hR hF; have e54 := zhF hF 18 54 ml21; have e75 := zhF hF 39 75 ml0; exact Z07 rfl e54 e75
       apply Build.stop
       refine ⟨by kernel_rfl, .inl ⟨rfl, ?_⟩⟩
       intro a165 w166 hE R hF; have e76 : a165.eval (.tmp 76) = _ := hF 40 (det 76 _) ml0
       clear hF; replace O := OwnT.ext O R; clear R; replace e1 := hE.g e1; replace e3 := hE.g e3; replace k := k.env hE; clear hE e33; refine Z00 ?_; refine Z0i e76 rfl ?_
       refine wp_seq ?_; refine wp_region_lit ?_
       have hE := Env.refl a165 [2]; refine sd 2 hE k (Z01 rfl rfl) ?_; intro a167 hE e2 kp; refine wpList_nil ?_; replace k := k.env hE; clear hE e1 e3 e76; refine Z00 ?_; refine wp_ret ?_
       refine Z0s ?_
       refine Z0h ?_
       refine Z0h ?_
       refine Z0s ?_
       refine Z0h ?_
       refine Z0j rfl k e2 ?_
       exact ⟨congrArg (fun b => Ending.returned (.bool b)) (Z32 hjx hno).symm, O.below⟩
     have hoj : okAt lv xs j := ⟨hkey, .inr (by unfold farB; simp; omega)⟩
     refine wp_seq ?_; refine Z0n (R := Ext) (w0 := w136) [[], [0], [0, 1], [0, 1, 2], rg 4, [0, 1, 2], [0, 1, 2, 5], rg 7, rg 8, rg 9, [0, 1, 2], [0, 1, 2, 10], [0, 1, 2], [0, 1, 2, 10, 11, 12], [0, 1, 2, 10, 11, 12, 13], [0, 1, 2, 10, 11, 12, 13, 14], rg 16, rg 17, rg 18, rg 19, rg 20, rg 21, rg 22, rg 23, rg 24, rg 23, rg 26, rg 27, rg 28, rg 29, rg 30, rg 31, rg 32, rg 31, rg 34, rg 35, rg 36, rg 37, rg 38, rg 39, rg 40] [36, 37, 38, 39, 40, 41, 42, 43, 44, 45, 46, 47, 48, 49, 50, 51, 52, 53, 54, 55, 56, 57, 58, 59, 60, 61, 62, 63, 64, 65, 66, 67, 68, 69, 70, 71, 72, 73, 74, 75, 76] Ext.refl (fun _ _ _ => Ext.trans) (Ext.drew _) (by kernel_rfl) ?_
     apply bd 36 k rfl rfl rfl; case h =>
      intro ax wx hE hR hF; exact Z02 rfl (hE.g e3)
     apply bd 37 k rfl rfl rfl; case h =>
      intro ax wx hE hR hF; have e36 := zhF hF 0 36 ml0; exact Z08 (Z19 rfl e36 rfl) (decide_eq_true (by omega))
     apply bd 38 k rfl rfl rfl; case h =>
      intro ax wx hE hR hF; have e37 := zhF hF 1 37 ml0; exact Z02 rfl e37
     apply bdg 39 k rfl rfl rfl rfl; case h =>
      intro ax wx hE hR hF; have e38 := zhF hF 2 38 ml0; refine ⟨e38, ?_⟩; simp [go_sem, ↓IntWalk.iteOmega, ev (hE.g e1)]
      with_reducible rfl
     apply bdg 40 k rfl rfl rfl rfl; case h =>
      intro ax wx hE hR hF; have e39 := zhF hF 3 39 ml0; have e38 := zhF hF 2 38 ml1; refine ⟨e38, ?_⟩; have q0 : wx.cell? ⟨lb, 1, none⟩ = some (.slice (some ⟨b0, o0, none⟩) len cap) := (OwnT.blk (OwnT.ext O hR) 0 rfl).cell 1
      simp [go_sem, ↓IntWalk.iteOmega, ev e39, q0]
      with_reducible rfl
     apply bdg 41 k rfl rfl rfl rfl; case h =>
      intro ax wx hE hR hF; have e38 := zhF hF 2 38 ml2; refine ⟨e38, ?_⟩; exact Z02 rfl (hE.g e3)
     apply bdg 42 k rfl rfl rfl rfl; case h =>
      intro ax wx hE hR hF; have e41 := zhF hF 5 41 ml0; have e38 := zhF hF 2 38 ml3; refine ⟨e38, ?_⟩; exact Z2f (v := .int .i64 ↑(j - 1)) (Z3d rfl e41 rfl (by omega)) (Z12 (by omega))
     apply bdg 43 k rfl rfl rfl rfl; case h =>
      intro ax wx hE hR hF; have e40 := zhF hF 4 40 ml2; have e42 := zhF hF 6 42 ml0; have e38 := zhF hF 2 38 ml4; refine ⟨e38, ?_⟩; simp [go_sem, ↓IntWalk.iteOmega, ev e40, ev e42]
      with_reducible rfl
     apply bdg 44 k rfl rfl rfl rfl; case h =>
      intro ax wx hE hR hF; have e43 := zhF hF 7 43 ml0; have e38 := zhF hF 2 38 ml5; refine ⟨e38, ?_⟩; simp [go_sem, ↓IntWalk.iteOmega, ev e43]
      with_reducible rfl
     apply bdg 45 k rfl rfl rfl rfl; case h =>
      intro ax wx hE hR hF; have e44 := zhF hF 8 44 ml0; have e38 := zhF hF 2 38 ml6; refine ⟨e38, ?_⟩; have d0 := HK0 wx hR
      simp [go_sem, ↓IntWalk.iteOmega, ev e44, d0]
      with_reducible rfl
     apply bdg 46 k rfl rfl rfl rfl; case h =>
      intro ax wx hE hR hF; have e38 := zhF hF 2 38 ml7; refine ⟨e38, ?_⟩; simp [go_sem, ↓IntWalk.iteOmega, ev (hE.g e1)]
      with_reducible rfl
     apply bdg 47 k rfl rfl rfl rfl; case h =>
      intro ax wx hE hR hF; have e46 := zhF hF 10 46 ml0; have e38 := zhF hF 2 38 ml8; refine ⟨e38, ?_⟩; have q0 : wx.cell? ⟨lb, 1, none⟩ = some (.slice (some ⟨b0, o0, none⟩) len cap) := (OwnT.blk (OwnT.ext O hR) 0 rfl).cell 1
      simp [go_sem, ↓IntWalk.iteOmega, ev e46, q0]
      with_reducible rfl
     apply bdg 48 k rfl rfl rfl rfl; case h =>
      intro ax wx hE hR hF; have e38 := zhF hF 2 38 ml9; refine ⟨e38, ?_⟩; exact Z02 rfl (hE.g e3)
     apply bdg 49 k rfl rfl rfl rfl; case h =>
      intro ax wx hE hR hF; have e47 := zhF hF 11 47 ml1; have e48 := zhF hF 12 48 ml0; have e38 := zhF hF 2 38 ml10; refine ⟨e38, ?_⟩; simp [go_sem, ↓IntWalk.iteOmega, ev e47, ev e48]
      with_reducible rfl
     apply bdg 50 k rfl rfl rfl rfl; case h =>
      intro ax wx hE hR hF; have e49 := zhF hF 13 49 ml0; have e38 := zhF hF 2 38 ml11; refine ⟨e38, ?_⟩; simp [go_sem, ↓IntWalk.iteOmega, ev e49]
      with_reducible rfl
     apply bdg 51 k rfl rfl rfl rfl; case h =>
      intro ax wx hE hR hF; have e50 := zhF hF 14 50 ml0; have e38 := zhF hF 2 38 ml12; refine ⟨e38, ?_⟩; have d0 := HK2 wx hR
      simp [go_sem, ↓IntWalk.iteOmega, ev e50, d0]
      with_reducible rfl
     apply bdg 52 k rfl rfl rfl rfl; case h =>
      intro ax wx hE hR hF; have e45 := zhF hF 9 45 ml6; have e51 := zhF hF 15 51 ml0; have e38 := zhF hF 2 38 ml13; refine ⟨e38, ?_⟩; exact Z08 (Z1q rfl e45 e51) (decide_eq_false (by omega))
     apply bd 53 k rfl rfl rfl; case h =>
      intro ax wx hE hR hF; have e38 := zhF hF 2 38 ml14; have e52 := zhF hF 16 52 ml0; exact Z0a rfl e38 e52
     apply bd 54 k rfl rfl rfl; case h =>
      intro ax wx hE hR hF; have e53 := zhF hF 17 53 ml0; exact Z02 rfl e53
     apply bdg 55 k rfl rfl rfl rfl; case h =>
      intro ax wx hE hR hF; have e54 := zhF hF 18 54 ml0; refine ⟨e54, ?_⟩; simp [go_sem, ↓IntWalk.iteOmega, ev (hE.g e1)]
      with_reducible rfl
     apply bdg 56 k rfl rfl rfl rfl; case h =>
      intro ax wx hE hR hF; have e55 := zhF hF 19 55 ml0; have e54 := zhF hF 18 54 ml1; refine ⟨e54, ?_⟩; have q0 : wx.cell? ⟨lb, 0, none⟩ = some (.int .i64 lv) := (OwnT.blk (OwnT.ext O hR) 0 rfl).cell 0
      simp [go_sem, ↓IntWalk.iteOmega, ev e55, q0]
      with_reducible rfl
     apply bdg 57 k rfl rfl rfl rfl; case h =>
      intro ax wx hE hR hF; have e56 := zhF hF 20 56 ml0; have e54 := zhF hF 18 54 ml2; refine ⟨e54, ?_⟩; exact Z08 (Z19 rfl e56 rfl) (decide_eq_true (by omega))
     apply bdg 58 k rfl rfl rfl rfl; case h =>
      intro ax wx hE hR hF; have e57 := zhF hF 21 57 ml0; have e54 := zhF hF 18 54 ml3; refine ⟨e54, ?_⟩; exact Z02 rfl e57
     apply bdg 59 k rfl rfl rfl rfl; case h =>
      intro ax wx hE hR hF; have e58 := zhF hF 22 58 ml0; refine ⟨e58, ?_⟩; simp [go_sem, ↓IntWalk.iteOmega, ev (hE.g e1)]
      with_reducible rfl
     apply bdg 60 k rfl rfl rfl rfl; case h =>
      intro ax wx hE hR hF; have e59 := zhF hF 23 59 ml0; have e58 := zhF hF 22 58 ml1; refine ⟨e58, ?_⟩; have q0 : wx.cell? ⟨lb, 1, none⟩ = some (.slice (some ⟨b0, o0, none⟩) len cap) := (OwnT.blk (OwnT.ext O hR) 0 rfl).cell 1
      simp [go_sem, ↓IntWalk.iteOmega, ev e59, q0]
      with_reducible rfl
     apply bdg 61 k rfl rfl rfl rfl; case h =>
      intro ax wx hE hR hF; have e58 := zhF hF 22 58 ml2; refine ⟨e58, ?_⟩; exact Z02 rfl (hE.g e3)
     apply bdg 62 k rfl rfl rfl rfl; case h =>
      intro ax wx hE hR hF; have e60 := zhF hF 24 60 ml1; have e61 := zhF hF 25 61 ml0; have e58 := zhF hF 22 58 ml3; refine ⟨e58, ?_⟩; simp [go_sem, ↓IntWalk.iteOmega, ev e60, ev e61]
      with_reducible rfl
     apply bdg 63 k rfl rfl rfl rfl; case h =>
      intro ax wx hE hR hF; have e62 := zhF hF 26 62 ml0; have e58 := zhF hF 22 58 ml4; refine ⟨e58, ?_⟩; simp [go_sem, ↓IntWalk.iteOmega, ev e62]
      with_reducible rfl
     apply bdg 64 k rfl rfl rfl rfl; case h =>
      intro ax wx hE hR hF; have e63 := zhF hF 27 63 ml0; have e58 := zhF hF 22 58 ml5; refine ⟨e58, ?_⟩; have d0 := HV2 wx hR
      simp [go_sem, ↓IntWalk.iteOmega, ev e63, d0]
      with_reducible rfl
     apply bdg 65 k rfl rfl rfl rfl; case h =>
      intro ax wx hE hR hF; have e64 := zhF hF 28 64 ml0; have e58 := zhF hF 22 58 ml6; refine ⟨e58, ?_⟩; exact Z08 (Z14 rfl e64 rfl) (decide_eq_false (by omega))
     apply bdg 66 k rfl rfl rfl rfl; case h =>
      intro ax wx hE hR hF; have e65 := zhF hF 29 65 ml0; have e58 := zhF hF 22 58 ml7; refine ⟨e58, ?_⟩; exact Z02 rfl e65
     apply bdg 67 k rfl rfl rfl rfl; case h =>
      intro ax wx hE hR hF; have e66 := zhF hF 30 66 ml0; refine ⟨e66, ?_⟩; simp [go_sem, ↓IntWalk.iteOmega, ev (hE.g e1)]
      with_reducible rfl
     apply bdg 68 k rfl rfl rfl rfl; case h =>
      intro ax wx hE hR hF; have e67 := zhF hF 31 67 ml0; have e66 := zhF hF 30 66 ml1; refine ⟨e66, ?_⟩; have q0 : wx.cell? ⟨lb, 1, none⟩ = some (.slice (some ⟨b0, o0, none⟩) len cap) := (OwnT.blk (OwnT.ext O hR) 0 rfl).cell 1
      simp [go_sem, ↓IntWalk.iteOmega, ev e67, q0]
      with_reducible rfl
     apply bdg 69 k rfl rfl rfl rfl; case h =>
      intro ax wx hE hR hF; have e66 := zhF hF 30 66 ml2; refine ⟨e66, ?_⟩; exact Z02 rfl (hE.g e3)
     apply bdg 70 k rfl rfl rfl rfl; case h =>
      intro ax wx hE hR hF; have e68 := zhF hF 32 68 ml1; have e69 := zhF hF 33 69 ml0; have e66 := zhF hF 30 66 ml3; refine ⟨e66, ?_⟩; simp [go_sem, ↓IntWalk.iteOmega, ev e68, ev e69]
      with_reducible rfl
     apply bdg 71 k rfl rfl rfl rfl; case h =>
      intro ax wx hE hR hF; have e70 := zhF hF 34 70 ml0; have e66 := zhF hF 30 66 ml4; refine ⟨e66, ?_⟩; simp [go_sem, ↓IntWalk.iteOmega, ev e70]
      with_reducible rfl
     apply bdg 72 k rfl rfl rfl rfl; case h =>
      intro ax wx hE hR hF; have e71 := zhF hF 35 71 ml0; have e66 := zhF hF 30 66 ml5; refine ⟨e66, ?_⟩; have d0 := HV2 wx hR
      simp [go_sem, ↓IntWalk.iteOmega, ev e71, d0]
      with_reducible rfl
     apply bdg 73 k rfl rfl rfl rfl; case h =>
      intro ax wx hE hR hF; have e72 := zhF hF 36 72 ml0; have e66 := zhF hF 30 66 ml6; refine ⟨e66, ?_⟩; exact Z08 (Z19 rfl e72 rfl) (decide_eq_false (by omega))
     apply bdg 74 k rfl rfl rfl rfl; case h =>
      intro ax wx hE hR hF; have e66 := zhF hF 30 66 ml7; have e73 := zhF hF 37 73 ml0; have e58 := zhF hF 22 58 ml15; refine ⟨e58, ?_⟩; exact Z07 rfl e66 e73
     apply bdg 75 k rfl rfl rfl rfl; case h =>
      intro ax wx hE hR hF; have e58 := zhF hF 22 58 ml16; have e74 := zhF hF 38 74 ml0; have e54 := zhF hF 18 54 ml20; refine ⟨e54, ?_⟩; exact Z0a rfl e58 e74
     apply bd 76 k rfl rfl rfl; case h =>
      intro ax wx hE hR hF; have e54 := zhF hF 18 54 ml21; have e75 := zhF hF 39 75 ml0; exact Z07 rfl e54 e75
     apply Build.stop
     refine ⟨by kernel_rfl, .inl ⟨rfl, ?_⟩⟩
     intro a168 w169 hE R hF; have e76 : a168.eval (.tmp 76) = _ := hF 40 (det 76 _) ml0
     clear hF; replace O := OwnT.ext O R; clear R; replace e1 := hE.g e1; replace e3 := hE.g e3; replace k := k.env hE; clear hE e33; refine Z00 ?_; refine Z0b e76 rfl ?_
     refine wp_skip ?_; refine Z0y ?_; refine Z00 ?_; refine wp_region_lit ?_
     have hE := Env.refl a168 [34, 35, 3]; refine sd 34 hE k (Z02 rfl e3) ?_; intro a170 hE e34 kp; replace e3 := kt kp e3; refine sd 35 hE k (Z38 rfl e34 rfl (by omega)) ?_; intro a171 hE e35 kp; replace e3 := kt kp e3; replace e35 := e35.trans (Z12 (show (j : Int) + 1 = ((j + 1 : Nat) : Int) by omega))
     refine sd 3 hE k (Z01 rfl e35) ?_; intro a172 hE e3 kp; refine wpList_nil ?_; replace e1 := hE.g e1; replace k := k.env hE; clear hE e76; refine Z00 ?_; refine ⟨⟨k, e1, j + 1, e3, by omega, fun i hi => ?_, O⟩, ?_⟩
     · by_cases e : i = j
       · subst e; exact hoj
       · exact hok i (by omega)
     · rw [e3, mj]; simp only [intOf]; omega
 · skip
   refine wp_seq ?_; refine wp_seq ?_; refine wp_region_lit ?_
   have hE := Env.refl a4 [4, 5, 6, 7, 8, 9, 10, 11, 12, 13, 14, 15, 16, 17, 18, 19, 20, 21, 22, 23, 24, 25, 26, 27, 28]; apply Z04 4 hE k rfl rfl rfl rfl; case h =>
    simp [go_sem, ↓IntWalk.iteOmega, ev (hE.g e1)]
    with_reducible rfl
   intro a173 hE e4 kp; apply Z04 5 hE k rfl rfl rfl rfl; case h =>
    have q0 : w3.cell? ⟨lb, 0, none⟩ = some (.int .i64 lv) := (OwnT.blk O 0 rfl).cell 0
    simp [go_sem, ↓IntWalk.iteOmega, ev e4, q0]
    with_reducible rfl
   intro a174 hE e5 kp; refine sd 6 hE k (Z08 (Z14 rfl e5 rfl) (decide_eq_false (by omega))) ?_
   intro a175 hE e6 kp; refine sd 7 hE k (Z02 rfl e6) ?_; intro a176 hE e7 kp; apply Z03 8 hE k rfl rfl rfl rfl rfl e7
   case h =>
    simp [go_sem, ↓IntWalk.iteOmega, ev (hE.g e1)]
    with_reducible rfl
   intro a177 hE e8 kp; replace e7 := kt kp e7; apply Z03 9 hE k rfl rfl rfl rfl rfl e7
   case h =>
    have q0 : w3.cell? ⟨lb, 0, none⟩ = some (.int .i64 lv) := (OwnT.blk O 0 rfl).cell 0
    simp [go_sem, ↓IntWalk.iteOmega, ev e8, q0]
    with_reducible rfl
   intro a178 hE e9 kp; replace e7 := kt kp e7; apply Z03 10 hE k rfl rfl rfl rfl rfl e7
   case h =>
    exact Z08 (Z19 rfl e9 rfl) (decide_eq_false (by omega))
   intro a179 hE e10 kp; replace e7 := kt kp e7; refine sd 11 hE k (Z07 rfl e7 e10) ?_; intro a180 hE e11 kp; refine sd 12 hE k (Z02 rfl e11) ?_; intro a181 hE e12 kp; apply Z03 13 hE k rfl rfl rfl rfl rfl e12
   case h =>
    simp [go_sem, ↓IntWalk.iteOmega, ev (hE.g e1)]
    with_reducible rfl
   intro a182 hE e13 kp; replace e12 := kt kp e12; apply Z03 14 hE k rfl rfl rfl rfl rfl e12
   case h =>
    have q0 : w3.cell? ⟨lb, 1, none⟩ = some (.slice A len cap) := (OwnT.blk O 0 rfl).cell 1
    simp [go_sem, ↓IntWalk.iteOmega, ev e13, q0]
    with_reducible rfl
   intro a183 hE e14 kp; replace e12 := kt kp e12; apply Z03 15 hE k rfl rfl rfl rfl rfl e12
   case h =>
    exact Z26 Tryz.underlying45 rfl e14
   intro a184 hE e15 kp; replace e12 := kt kp e12; apply Z03 16 hE k rfl rfl rfl rfl rfl e12
   case h =>
    exact Z08 (Z19 rfl e15 rfl) (decide_eq_false (by omega))
   intro a185 hE e16 kp; replace e12 := kt kp e12; refine sd 17 hE k (Z07 rfl e12 e16) ?_; intro a186 hE e17 kp; refine sd 18 hE k (Z02 rfl e17) ?_; intro a187 hE e18 kp; apply Z03 19 hE k rfl rfl rfl rfl rfl e18
   case h =>
    simp [go_sem, ↓IntWalk.iteOmega, ev (hE.g e1)]
    with_reducible rfl
   intro a188 hE e19 kp; replace e18 := kt kp e18; apply Z03 20 hE k rfl rfl rfl rfl rfl e18
   case h =>
    have q0 : w3.cell? ⟨lb, 0, none⟩ = some (.int .i64 lv) := (OwnT.blk O 0 rfl).cell 0
    simp [go_sem, ↓IntWalk.iteOmega, ev e19, q0]
    with_reducible rfl
   intro a189 hE e20 kp; replace e18 := kt kp e18; apply Z03 21 hE k rfl rfl rfl rfl rfl e18
   case h =>
    exact Z08 (Z19 rfl e20 rfl) (decide_eq_false (by omega))
   intro a190 hE e21 kp; replace e18 := kt kp e18; apply Z03 22 hE k rfl rfl rfl rfl rfl e18
   case h =>
    exact Z02 rfl e21
   intro a191 hE e22 kp; replace e18 := kt kp e18; refine Z05 23 hE k rfl (by rfl) (by rfl) rfl rfl (.inl e22) ?_
   intro a192 hE e23 kp; replace e18 := kt kp e18; replace e22 := kt kp e22; refine Z05 24 hE k rfl (by rfl) (by rfl) rfl rfl (.inl e22) ?_
   intro a193 hE e24 kp; replace e18 := kt kp e18; replace e22 := kt kp e22; refine Z05 25 hE k rfl (by rfl) (by rfl) rfl rfl (.inl e22) ?_
   intro a194 hE e25 kp; replace e18 := kt kp e18; replace e22 := kt kp e22; refine Z05 26 hE k rfl (by rfl) (by rfl) rfl rfl (.inl e22) ?_
   intro a195 hE e26 kp; replace e18 := kt kp e18; replace e22 := kt kp e22; apply Z03 27 hE k rfl rfl rfl rfl rfl e18
   case h =>
    exact Z07 rfl e22 rfl
   intro a196 hE e27 kp; replace e18 := kt kp e18; refine sd 28 hE k (Z07 rfl e18 e27) ?_; intro a197 hE e28 kp; refine wpList_nil ?_; replace e1 := hE.g e1; replace k := k.env hE; clear hE; refine Z00 ?_; refine Z0b e28 rfl ?_
   refine wp_skip ?_; refine Z00 (wp_seq ?_); refine wp_seq ?_; refine wp_region_lit ?_
   have hE := Env.refl a197 [3]; refine sd 3 hE k (Z01 rfl rfl) ?_; intro a198 hE e3 kp; refine wpList_nil ?_; replace e1 := hE.g e1; replace k := k.env hE; clear hE e28; refine Z00 ?_; refine wp_block ?_; refine wp_loop (fun a w => Fr 77 a ∧ a.eval (.tmp 1) = .pointer (some ⟨lb, 0, none⟩) ∧ ∃ (j : Nat), a.eval (.tmp 3) = .int .i64 ↑j ∧ j ≤ len ∧ (∀ i, i < j → okAt lv xs i) ∧ OwnT W0.heap.size W0 ([tBlk lb 47 #[.int .i64 lv, .slice A len cap]]) w) (fun a w => len - (intOf (a.eval (.tmp 3))).toNat) ?_ ?_
   · exact ⟨k, e1, 0, e3, Nat.zero_le _, fun i hi => absurd hi (by omega), O⟩
   intro a199 w200 hI; clear k e1; obtain ⟨k, e1, h_⟩ := hI
   clear O e3; obtain ⟨j, e3, hj, hok, O⟩ := h_
   have mj := e3
   by_cases hlt : j < len
   rotate_left
   · clear mj; refine wp_seq ?_; refine wp_seq ?_; refine wp_region_lit ?_
     have hE := Env.refl a199 [29, 30, 31, 32, 33]; refine zm 29 hE k e3 ?_; intro a201 hE e29 kp; apply Z04 30 hE k rfl rfl rfl rfl; case h =>
      simp [go_sem, ↓IntWalk.iteOmega, ev (hE.g e1)]
      with_reducible rfl
     intro a202 hE e30 kp; replace e29 := kt kp e29; apply Z04 31 hE k rfl rfl rfl rfl; case h =>
      have q0 : w200.cell? ⟨lb, 1, none⟩ = some (.slice A len cap) := (OwnT.blk O 0 rfl).cell 1
      simp [go_sem, ↓IntWalk.iteOmega, ev e30, q0]
      with_reducible rfl
     intro a203 hE e31 kp; replace e29 := kt kp e29; refine sd 32 hE k (Z26 Tryz.underlying45 rfl e31) ?_; intro a204 hE e32 kp; replace e29 := kt kp e29; refine sd 33 hE k (Z08 (Z14 rfl e29 e32) (decide_eq_false (by omega))) ?_
     intro a205 hE e33 kp; refine wpList_nil ?_; replace e1 := hE.g e1; replace e3 := hE.g e3; replace k := k.env hE; clear hE; refine Z00 ?_; refine Z0b e33 rfl ?_
     refine wp_exit ?_
     refine Z15 ?_
     refine Z15 ?_
     refine Z1m ?_
     refine Z00 (wp_seq ?_); refine wp_region_lit ?_
     have hE := Env.refl a205 [2]; refine sd 2 hE k (Z01 rfl rfl) ?_; intro a206 hE e2 kp; refine wpList_nil ?_; replace k := k.env hE; clear hE e1 e3 e33; refine Z00 ?_; refine wp_ret ?_
     refine Z0j rfl k e2 ?_
     exact ⟨congrArg (fun b => Ending.returned (.bool b)) ((Z1a lv xs).2 ⟨⟨h0, by omega, by omega⟩, by omega, fun i hi => hok i (by omega)⟩).symm, O.below⟩
   have hjx : j < xs.length := by omega
   obtain ⟨b0, o0, rfl, -, -, -⟩ := hrow.pair_in O.below hjx
   have HK := fun (wx : World) (h : Ext w200 wx) => hrow.key_at (O.below.trans (h.mono O.size)) hjx
   have HV := fun (wx : World) (h : Ext w200 wx) => hrow.val_at (O.below.trans (h.mono O.size)) hjx

   refine wp_seq ?_; refine wp_seq ?_; refine wp_region_lit ?_
   have hE := Env.refl a199 [29, 30, 31, 32, 33]; refine zm 29 hE k e3 ?_; intro a207 hE e29 kp; apply Z04 30 hE k rfl rfl rfl rfl; case h =>
    simp [go_sem, ↓IntWalk.iteOmega, ev (hE.g e1)]
    with_reducible rfl
   intro a208 hE e30 kp; replace e29 := kt kp e29; apply Z04 31 hE k rfl rfl rfl rfl; case h =>
    have q0 : w200.cell? ⟨lb, 1, none⟩ = some (.slice (some ⟨b0, o0, none⟩) len cap) := (OwnT.blk O 0 rfl).cell 1
    simp [go_sem, ↓IntWalk.iteOmega, ev e30, q0]
    with_reducible rfl
   intro a209 hE e31 kp; replace e29 := kt kp e29; refine sd 32 hE k (Z26 Tryz.underlying45 rfl e31) ?_; intro a210 hE e32 kp; replace e29 := kt kp e29; refine sd 33 hE k (Z08 (Z14 rfl e29 e32) (decide_eq_true (by omega))) ?_
   intro a211 hE e33 kp; refine wpList_nil ?_; replace e1 := hE.g e1; replace e3 := hE.g e3; replace k := k.env hE; clear hE; refine Z00 ?_; refine Z0i e33 rfl ?_
   refine wp_skip ?_; refine Z00 (wp_seq ?_); refine wp_block ?_; have HK2 := fun (wx : World) (h : Ext w200 wx) => hrow.key_at (O.below.trans (h.mono O.size)) hjx
   have HV2 := fun (wx : World) (h : Ext w200 wx) => hrow.val_at (O.below.trans (h.mono O.size)) hjx
   clear HK HV; by_cases hj0 : j = 0
   · have hkey : j = 0 ∨ keyAt xs (j - 1) < keyAt xs j := .inl hj0
     have hoj : okAt lv xs j := ⟨hkey, .inl (by omega)⟩
     refine wp_seq ?_; refine Z0n (R := Ext) (w0 := w200) [[], [0], [0, 1], [0, 1, 2], rg 4, [0, 1, 2], [0, 1, 2, 5], rg 7, rg 8, rg 9, [0, 1, 2], [0, 1, 2, 10], [0, 1, 2], [0, 1, 2, 10, 11, 12], [0, 1, 2, 10, 11, 12, 13], [0, 1, 2, 10, 11, 12, 13, 14], rg 16, rg 17, rg 18, rg 19, rg 20, rg 21, rg 22, rg 23, rg 24, rg 23, rg 26, rg 27, rg 28, rg 29, rg 30, rg 31, rg 32, rg 31, rg 34, rg 35, rg 36, rg 37, rg 38, rg 39, rg 40] [36, 37, 38, 39, 40, 41, 42, 43, 44, 45, 46, 47, 48, 49, 50, 51, 52, 53, 54, 55, 56, 57, 58, 59, 60, 61, 62, 63, 64, 65, 66, 67, 68, 69, 70, 71, 72, 73, 74, 75, 76] Ext.refl (fun _ _ _ => Ext.trans) (Ext.drew _) (by kernel_rfl) ?_
     apply bd 36 k rfl rfl rfl; case h =>
      intro ax wx hE hR hF; exact Z02 rfl (hE.g e3)
     apply bd 37 k rfl rfl rfl; case h =>
      intro ax wx hE hR hF; have e36 := zhF hF 0 36 ml0; exact Z08 (Z19 rfl e36 rfl) (decide_eq_false (by omega))
     apply bd 38 k rfl rfl rfl; case h =>
      intro ax wx hE hR hF; have e37 := zhF hF 1 37 ml0; exact Z02 rfl e37
     refine Build.skip 39 (by rfl) (by rw [k.size]; rfl) rfl rfl ?_ ?_
     · intro ax wx hE hR hF; have e38 := zhF hF 2 38 ml0; exact e38
     refine Build.skip 40 (by rfl) (by rw [k.size]; rfl) rfl rfl ?_ ?_
     · intro ax wx hE hR hF; have e38 := zhF hF 2 38 ml1; exact e38
     refine Build.skip 41 (by rfl) (by rw [k.size]; rfl) rfl rfl ?_ ?_
     · intro ax wx hE hR hF; have e38 := zhF hF 2 38 ml2; exact e38
     refine Build.skip 42 (by rfl) (by rw [k.size]; rfl) rfl rfl ?_ ?_
     · intro ax wx hE hR hF; have e38 := zhF hF 2 38 ml3; exact e38
     refine Build.skip 43 (by rfl) (by rw [k.size]; rfl) rfl rfl ?_ ?_
     · intro ax wx hE hR hF; have e38 := zhF hF 2 38 ml4; exact e38
     refine Build.skip 44 (by rfl) (by rw [k.size]; rfl) rfl rfl ?_ ?_
     · intro ax wx hE hR hF; have e38 := zhF hF 2 38 ml5; exact e38
     refine Build.skip 45 (by rfl) (by rw [k.size]; rfl) rfl rfl ?_ ?_
     · intro ax wx hE hR hF; have e38 := zhF hF 2 38 ml6; exact e38
     refine Build.skip 46 (by rfl) (by rw [k.size]; rfl) rfl rfl ?_ ?_
     · intro ax wx hE hR hF; have e38 := zhF hF 2 38 ml7; exact e38
     refine Build.skip 47 (by rfl) (by rw [k.size]; rfl) rfl rfl ?_ ?_
     · intro ax wx hE hR hF; have e38 := zhF hF 2 38 ml8; exact e38
     refine Build.skip 48 (by rfl) (by rw [k.size]; rfl) rfl rfl ?_ ?_
     · intro ax wx hE hR hF; have e38 := zhF hF 2 38 ml9; exact e38
     refine Build.skip 49 (by rfl) (by rw [k.size]; rfl) rfl rfl ?_ ?_
     · intro ax wx hE hR hF; have e38 := zhF hF 2 38 ml10; exact e38
     refine Build.skip 50 (by rfl) (by rw [k.size]; rfl) rfl rfl ?_ ?_
     · intro ax wx hE hR hF; have e38 := zhF hF 2 38 ml11; exact e38
     refine Build.skip 51 (by rfl) (by rw [k.size]; rfl) rfl rfl ?_ ?_
     · intro ax wx hE hR hF; have e38 := zhF hF 2 38 ml12; exact e38
     refine Build.skip 52 (by rfl) (by rw [k.size]; rfl) rfl rfl ?_ ?_
     · intro ax wx hE hR hF; have e38 := zhF hF 2 38 ml13; exact e38
     apply bd 53 k rfl rfl rfl; case h =>
      intro ax wx hE hR hF; have e38 := zhF hF 2 38 ml14; have e52 := zhF hF 16 52 ml0; exact Z07 rfl e38 rfl
     apply bd 54 k rfl rfl rfl; case h =>
      intro ax wx hE hR hF; have e53 := zhF hF 17 53 ml0; exact Z02 rfl e53
     apply bdg 55 k rfl rfl rfl rfl; case h =>
      intro ax wx hE hR hF; have e54 := zhF hF 18 54 ml0; refine ⟨e54, ?_⟩; simp [go_sem, ↓IntWalk.iteOmega, ev (hE.g e1)]
      with_reducible rfl
     apply bdg 56 k rfl rfl rfl rfl; case h =>
      intro ax wx hE hR hF; have e55 := zhF hF 19 55 ml0; have e54 := zhF hF 18 54 ml1; refine ⟨e54, ?_⟩; have q0 : wx.cell? ⟨lb, 0, none⟩ = some (.int .i64 lv) := (OwnT.blk (OwnT.ext O hR) 0 rfl).cell 0
      simp [go_sem, ↓IntWalk.iteOmega, ev e55, q0]
      with_reducible rfl
     apply bdg 57 k rfl rfl rfl rfl; case h =>
      intro ax wx hE hR hF; have e56 := zhF hF 20 56 ml0; have e54 := zhF hF 18 54 ml2; refine ⟨e54, ?_⟩; exact Z08 (Z19 rfl e56 rfl) (decide_eq_false (by omega))
     apply bdg 58 k rfl rfl rfl rfl; case h =>
      intro ax wx hE hR hF; have e57 := zhF hF 21 57 ml0; have e54 := zhF hF 18 54 ml3; refine ⟨e54, ?_⟩; exact Z02 rfl e57
     refine Build.skip 59 (by rfl) (by rw [k.size]; rfl) rfl rfl ?_ ?_
     · intro ax wx hE hR hF; have e58 := zhF hF 22 58 ml0; exact e58
     refine Build.skip 60 (by rfl) (by rw [k.size]; rfl) rfl rfl ?_ ?_
     · intro ax wx hE hR hF; have e58 := zhF hF 22 58 ml1; exact e58
     refine Build.skip 61 (by rfl) (by rw [k.size]; rfl) rfl rfl ?_ ?_
     · intro ax wx hE hR hF; have e58 := zhF hF 22 58 ml2; exact e58
     refine Build.skip 62 (by rfl) (by rw [k.size]; rfl) rfl rfl ?_ ?_
     · intro ax wx hE hR hF; have e58 := zhF hF 22 58 ml3; exact e58
     refine Build.skip 63 (by rfl) (by rw [k.size]; rfl) rfl rfl ?_ ?_
     · intro ax wx hE hR hF; have e58 := zhF hF 22 58 ml4; exact e58
     refine Build.skip 64 (by rfl) (by rw [k.size]; rfl) rfl rfl ?_ ?_
     · intro ax wx hE hR hF; have e58 := zhF hF 22 58 ml5; exact e58
     refine Build.skip 65 (by rfl) (by rw [k.size]; rfl) rfl rfl ?_ ?_
     · intro ax wx hE hR hF; have e58 := zhF hF 22 58 ml6; exact e58
     refine Build.skip 66 (by rfl) (by rw [k.size]; rfl) rfl rfl ?_ ?_
     · intro ax wx hE hR hF; have e58 := zhF hF 22 58 ml7; exact e58
     refine Build.skipu 67 (by rfl) (by rw [k.size]; rfl) rfl rfl ?_ ?_
     · intro ax wx hE hR hF; have e66 := zhF hF 30 66 ml0; exact e66
     refine Build.skipu 68 (by rfl) (by rw [k.size]; rfl) rfl rfl ?_ ?_
     · intro ax wx hE hR hF; have e66 := zhF hF 30 66 ml1; exact e66
     refine Build.skipu 69 (by rfl) (by rw [k.size]; rfl) rfl rfl ?_ ?_
     · intro ax wx hE hR hF; have e66 := zhF hF 30 66 ml2; exact e66
     refine Build.skipu 70 (by rfl) (by rw [k.size]; rfl) rfl rfl ?_ ?_
     · intro ax wx hE hR hF; have e66 := zhF hF 30 66 ml3; exact e66
     refine Build.skipu 71 (by rfl) (by rw [k.size]; rfl) rfl rfl ?_ ?_
     · intro ax wx hE hR hF; have e66 := zhF hF 30 66 ml4; exact e66
     refine Build.skipu 72 (by rfl) (by rw [k.size]; rfl) rfl rfl ?_ ?_
     · intro ax wx hE hR hF; have e66 := zhF hF 30 66 ml5; exact e66
     refine Build.skipu 73 (by rfl) (by rw [k.size]; rfl) rfl rfl ?_ ?_
     · intro ax wx hE hR hF; have e66 := zhF hF 30 66 ml6; exact e66
     refine Build.skip 74 (by rfl) (by rw [k.size]; rfl) rfl rfl ?_ ?_
     · intro ax wx hE hR hF; have e58 := zhF hF 22 58 ml15; exact e58
     apply bdg 75 k rfl rfl rfl rfl; case h =>
      intro ax wx hE hR hF; have e58 := zhF hF 22 58 ml16; have e74 := zhF hF 38 74 ml0; have e54 := zhF hF 18 54 ml20; refine ⟨e54, ?_⟩; exact Z07 rfl e58 rfl
     apply bd 76 k rfl rfl rfl; case h =>
      intro ax wx hE hR hF; have e54 := zhF hF 18 54 ml21; have e75 := zhF hF 39 75 ml0; exact Z07 rfl e54 e75
     apply Build.stop
     refine ⟨by kernel_rfl, .inl ⟨rfl, ?_⟩⟩
     intro a212 w213 hE R hF; have e76 : a212.eval (.tmp 76) = _ := hF 40 (det 76 _) ml0
     clear hF; replace O := OwnT.ext O R; clear R; replace e1 := hE.g e1; replace e3 := hE.g e3; replace k := k.env hE; clear hE e33; refine Z00 ?_; refine Z0b e76 rfl ?_
     refine wp_skip ?_; refine Z0y ?_; refine Z00 ?_; refine wp_region_lit ?_
     have hE := Env.refl a212 [34, 35, 3]; refine sd 34 hE k (Z02 rfl e3) ?_; intro a214 hE e34 kp; replace e3 := kt kp e3; refine sd 35 hE k (Z38 rfl e34 rfl (by omega)) ?_; intro a215 hE e35 kp; replace e3 := kt kp e3; replace e35 := e35.trans (Z12 (show (j : Int) + 1 = ((j + 1 : Nat) : Int) by omega))
     refine sd 3 hE k (Z01 rfl e35) ?_; intro a216 hE e3 kp; refine wpList_nil ?_; replace e1 := hE.g e1; replace k := k.env hE; clear hE e76; refine Z00 ?_; refine ⟨⟨k, e1, j + 1, e3, by omega, fun i hi => ?_, O⟩, ?_⟩
     · by_cases e : i = j
       · subst e; exact hoj
       · exact hok i (by omega)
     · rw [e3, mj]; simp only [intOf]; omega
   · skip
     have HK0 := fun (wx : World) (h : Ext w200 wx) => hrow.key_at (O.below.trans (h.mono O.size)) (show j - 1 < xs.length by omega)
     by_cases hkey : j = 0 ∨ keyAt xs (j - 1) < keyAt xs j
     rotate_left
     · have hno : ¬ okAt lv xs j := fun h => hkey h.1
       refine wp_seq ?_; refine Z0n (R := Ext) (w0 := w200) [[], [0], [0, 1], [0, 1, 2], rg 4, [0, 1, 2], [0, 1, 2, 5], rg 7, rg 8, rg 9, [0, 1, 2], [0, 1, 2, 10], [0, 1, 2], [0, 1, 2, 10, 11, 12], [0, 1, 2, 10, 11, 12, 13], [0, 1, 2, 10, 11, 12, 13, 14], rg 16, rg 17, rg 18, rg 19, rg 20, rg 21, rg 22, rg 23, rg 24, rg 23, rg 26, rg 27, rg 28, rg 29, rg 30, rg 31, rg 32, rg 31, rg 34, rg 35, rg 36, rg 37, rg 38, rg 39, rg 40] [36, 37, 38, 39, 40, 41, 42, 43, 44, 45, 46, 47, 48, 49, 50, 51, 52, 53, 54, 55, 56, 57, 58, 59, 60, 61, 62, 63, 64, 65, 66, 67, 68, 69, 70, 71, 72, 73, 74, 75, 76] Ext.refl (fun _ _ _ => Ext.trans) (Ext.drew _) (by kernel_rfl) ?_
       apply bd 36 k rfl rfl rfl; case h =>
        intro ax wx hE hR hF; exact Z02 rfl (hE.g e3)
       apply bd 37 k rfl rfl rfl; case h =>
        intro ax wx hE hR hF; have e36 := zhF hF 0 36 ml0; exact Z08 (Z19 rfl e36 rfl) (decide_eq_true (by omega))
       apply bd 38 k rfl rfl rfl; case h =>
        intro ax wx hE hR hF; have e37 := zhF hF 1 37 ml0; exact Z02 rfl e37
       apply bdg 39 k rfl rfl rfl rfl; case h =>
        intro ax wx hE hR hF; have e38 := zhF hF 2 38 ml0; refine ⟨e38, ?_⟩; simp [go_sem, ↓IntWalk.iteOmega, ev (hE.g e1)]
        with_reducible rfl
       apply bdg 40 k rfl rfl rfl rfl; case h =>
        intro ax wx hE hR hF; have e39 := zhF hF 3 39 ml0; have e38 := zhF hF 2 38 ml1; refine ⟨e38, ?_⟩; have q0 : wx.cell? ⟨lb, 1, none⟩ = some (.slice (some ⟨b0, o0, none⟩) len cap) := (OwnT.blk (OwnT.ext O hR) 0 rfl).cell 1
        simp [go_sem, ↓IntWalk.iteOmega, ev e39, q0]
        with_reducible rfl
       apply bdg 41 k rfl rfl rfl rfl; case h =>
        intro ax wx hE hR hF; have e38 := zhF hF 2 38 ml2; refine ⟨e38, ?_⟩; exact Z02 rfl (hE.g e3)
       apply bdg 42 k rfl rfl rfl rfl; case h =>
        intro ax wx hE hR hF; have e41 := zhF hF 5 41 ml0; have e38 := zhF hF 2 38 ml3; refine ⟨e38, ?_⟩; exact Z2f (v := .int .i64 ↑(j - 1)) (Z3d rfl e41 rfl (by omega)) (Z12 (by omega))
       apply bdg 43 k rfl rfl rfl rfl; case h =>
        intro ax wx hE hR hF; have e40 := zhF hF 4 40 ml2; have e42 := zhF hF 6 42 ml0; have e38 := zhF hF 2 38 ml4; refine ⟨e38, ?_⟩; simp [go_sem, ↓IntWalk.iteOmega, ev e40, ev e42]
        with_reducible rfl
       apply bdg 44 k rfl rfl rfl rfl; case h =>
        intro ax wx hE hR hF; have e43 := zhF hF 7 43 ml0; have e38 := zhF hF 2 38 ml5; refine ⟨e38, ?_⟩; simp [go_sem, ↓IntWalk.iteOmega, ev e43]
        with_reducible rfl
       apply bdg 45 k rfl rfl rfl rfl; case h =>
        intro ax wx hE hR hF; have e44 := zhF hF 8 44 ml0; have e38 := zhF hF 2 38 ml6; refine ⟨e38, ?_⟩; have d0 := HK0 wx hR
        simp [go_sem, ↓IntWalk.iteOmega, ev e44, d0]
        with_reducible rfl
       apply bdg 46 k rfl rfl rfl rfl; case h =>
        intro ax wx hE hR hF; have e38 := zhF hF 2 38 ml7; refine ⟨e38, ?_⟩; simp [go_sem, ↓IntWalk.iteOmega, ev (hE.g e1)]
        with_reducible rfl
       apply bdg 47 k rfl rfl rfl rfl; case h =>
        intro ax wx hE hR hF; have e46 := zhF hF 10 46 ml0; have e38 := zhF hF 2 38 ml8; refine ⟨e38, ?_⟩; have q0 : wx.cell? ⟨lb, 1, none⟩ = some (.slice (some ⟨b0, o0, none⟩) len cap) := (OwnT.blk (OwnT.ext O hR) 0 rfl).cell 1
        simp [go_sem, ↓IntWalk.iteOmega, ev e46, q0]
        with_reducible rfl
       apply bdg 48 k rfl rfl rfl rfl; case h =>
        intro ax wx hE hR hF; have e38 := zhF hF 2 38 ml9; refine ⟨e38, ?_⟩; exact Z02 rfl (hE.g e3)
       apply bdg 49 k rfl rfl rfl rfl; case h =>
        intro ax wx hE hR hF; have e47 := zhF hF 11 47 ml1; have e48 := zhF hF 12 48 ml0; have e38 := zhF hF 2 38 ml10; refine ⟨e38, ?_⟩; simp [go_sem, ↓IntWalk.iteOmega, ev e47, ev e48]
        with_reducible rfl
       apply bdg 50 k rfl rfl rfl rfl; case h =>
        intro ax wx hE hR hF; have e49 := zhF hF 13 49 ml0; have e38 := zhF hF 2 38 ml11; refine ⟨e38, ?_⟩; simp [go_sem, ↓IntWalk.iteOmega, ev e49]
        with_reducible rfl
       apply bdg 51 k rfl rfl rfl rfl; case h =>
        intro ax wx hE hR hF; have e50 := zhF hF 14 50 ml0; have e38 := zhF hF 2 38 ml12; refine ⟨e38, ?_⟩; have d0 := HK2 wx hR
        simp [go_sem, ↓IntWalk.iteOmega, ev e50, d0]
        with_reducible rfl
       apply bdg 52 k rfl rfl rfl rfl; case h =>
        intro ax wx hE hR hF; have e45 := zhF hF 9 45 ml6; have e51 := zhF hF 15 51 ml0; have e38 := zhF hF 2 38 ml13; refine ⟨e38, ?_⟩; exact Z08 (Z1q rfl e45 e51) (decide_eq_true (by omega))
       apply bd 53 k rfl rfl rfl; case h =>
        intro ax wx hE hR hF; have e38 := zhF hF 2 38 ml14; have e52 := zhF hF 16 52 ml0; exact Z0a rfl e38 e52
       apply bd 54 k rfl rfl rfl; case h =>
        intro ax wx hE hR hF; have e53 := zhF hF 17 53 ml0; exact Z02 rfl e53
       refine Build.skip 55 (by rfl) (by rw [k.size]; rfl) rfl rfl ?_ ?_
       · intro ax wx hE hR hF; have e54 := zhF hF 18 54 ml0; exact e54
       refine Build.skip 56 (by rfl) (by rw [k.size]; rfl) rfl rfl ?_ ?_
       · intro ax wx hE hR hF; have e54 := zhF hF 18 54 ml1; exact e54
       refine Build.skip 57 (by rfl) (by rw [k.size]; rfl) rfl rfl ?_ ?_
       · intro ax wx hE hR hF; have e54 := zhF hF 18 54 ml2; exact e54
       refine Build.skip 58 (by rfl) (by rw [k.size]; rfl) rfl rfl ?_ ?_
       · intro ax wx hE hR hF; have e54 := zhF hF 18 54 ml3; exact e54
       refine Build.skipu 59 (by rfl) (by rw [k.size]; rfl) rfl rfl ?_ ?_
       · intro ax wx hE hR hF; have e58 := zhF hF 22 58 ml0; exact e58
       refine Build.skipu 60 (by rfl) (by rw [k.size]; rfl) rfl rfl ?_ ?_
       · intro ax wx hE hR hF; have e58 := zhF hF 22 58 ml1; exact e58
       refine Build.skipu 61 (by rfl) (by rw [k.size]; rfl) rfl rfl ?_ ?_
       · intro ax wx hE hR hF; have e58 := zhF hF 22 58 ml2; exact e58
       refine Build.skipu 62 (by rfl) (by rw [k.size]; rfl) rfl rfl ?_ ?_
       · intro ax wx hE hR hF; have e58 := zhF hF 22 58 ml3; exact e58
       refine Build.skipu 63 (by rfl) (by rw [k.size]; rfl) rfl rfl ?_ ?_
       · intro ax wx hE hR hF; have e58 := zhF hF 22 58 ml4; exact e58
       refine Build.skipu 64 (by rfl) (by rw [k.size]; rfl) rfl rfl ?_ ?_
       · intro ax wx hE hR hF; have e58 := zhF hF 22 58 ml5; exact e58
       refine Build.skipu 65 (by rfl) (by rw [k.size]; rfl) rfl rfl ?_ ?_
       · intro ax wx hE hR hF; have e58 := zhF hF 22 58 ml6; exact e58
       refine Build.skipu 66 (by rfl) (by rw [k.size]; rfl) rfl rfl ?_ ?_
       · intro ax wx hE hR hF; have e58 := zhF hF 22 58 ml7; exact e58
       refine Build.skipu 67 (by rfl) (by rw [k.size]; rfl) rfl rfl ?_ ?_
       · intro ax wx hE hR hF; have e66 := zhF hF 30 66 ml0; exact e66
       refine Build.skipu 68 (by rfl) (by rw [k.size]; rfl) rfl rfl ?_ ?_
       · intro ax wx hE hR hF; have e66 := zhF hF 30 66 ml1; exact e66
       refine Build.skipu 69 (by rfl) (by rw [k.size]; rfl) rfl rfl ?_ ?_
       · intro ax wx hE hR hF; have e66 := zhF hF 30 66 ml2; exact e66
       refine Build.skipu 70 (by rfl) (by rw [k.size]; rfl) rfl rfl ?_ ?_
       · intro ax wx hE hR hF; have e66 := zhF hF 30 66 ml3; exact e66
       refine Build.skipu 71 (by rfl) (by rw [k.size]; rfl) rfl rfl ?_ ?_
       · intro ax wx hE hR hF; have e66 := zhF hF 30 66 ml4; exact e66
       refine Build.skipu 72 (by rfl) (by rw [k.size]; rfl) rfl rfl ?_ ?_
       · intro ax wx hE hR hF; have e66 := zhF hF 30 66 ml5; exact e66
       refine Build.skipu 73 (by rfl) (by rw [k.size]; rfl) rfl rfl ?_ ?_
       · intro ax wx hE hR hF; have e66 := zhF hF 30 66 ml6; exact e66
       refine Build.skipu 74 (by rfl) (by rw [k.size]; rfl) rfl rfl ?_ ?_
       · intro ax wx hE hR hF; have e58 := zhF hF 22 58 ml15; exact e58
       refine Build.skip 75 (by rfl) (by rw [k.size]; rfl) rfl rfl ?_ ?_
       · intro ax wx hE hR hF; have e54 := zhF hF 18 54 ml20; exact e54
       apply bd 76 k rfl rfl rfl; case h =>
        intro ax wx hE hR hF; have e54 := zhF hF 18 54 ml21; have e75 := zhF hF 39 75 ml0; exact Z0a rfl e54 rfl
       apply Build.stop
       refine ⟨by kernel_rfl, .inl ⟨rfl, ?_⟩⟩
       intro a217 w218 hE R hF; have e76 : a217.eval (.tmp 76) = _ := hF 40 (det 76 _) ml0
       clear hF; replace O := OwnT.ext O R; clear R; replace e1 := hE.g e1; replace e3 := hE.g e3; replace k := k.env hE; clear hE e33; refine Z00 ?_; refine Z0i e76 rfl ?_
       refine wp_seq ?_; refine wp_region_lit ?_
       have hE := Env.refl a217 [2]; refine sd 2 hE k (Z01 rfl rfl) ?_; intro a219 hE e2 kp; refine wpList_nil ?_; replace k := k.env hE; clear hE e1 e3 e76; refine Z00 ?_; refine wp_ret ?_
       refine Z0s ?_
       refine Z0h ?_
       refine Z0h ?_
       refine Z0s ?_
       refine Z0h ?_
       refine Z0j rfl k e2 ?_
       exact ⟨congrArg (fun b => Ending.returned (.bool b)) (Z32 hjx hno).symm, O.below⟩
     have hoj : okAt lv xs j := ⟨hkey, .inl (by omega)⟩
     refine wp_seq ?_; refine Z0n (R := Ext) (w0 := w200) [[], [0], [0, 1], [0, 1, 2], rg 4, [0, 1, 2], [0, 1, 2, 5], rg 7, rg 8, rg 9, [0, 1, 2], [0, 1, 2, 10], [0, 1, 2], [0, 1, 2, 10, 11, 12], [0, 1, 2, 10, 11, 12, 13], [0, 1, 2, 10, 11, 12, 13, 14], rg 16, rg 17, rg 18, rg 19, rg 20, rg 21, rg 22, rg 23, rg 24, rg 23, rg 26, rg 27, rg 28, rg 29, rg 30, rg 31, rg 32, rg 31, rg 34, rg 35, rg 36, rg 37, rg 38, rg 39, rg 40] [36, 37, 38, 39, 40, 41, 42, 43, 44, 45, 46, 47, 48, 49, 50, 51, 52, 53, 54, 55, 56, 57, 58, 59, 60, 61, 62, 63, 64, 65, 66, 67, 68, 69, 70, 71, 72, 73, 74, 75, 76] Ext.refl (fun _ _ _ => Ext.trans) (Ext.drew _) (by kernel_rfl) ?_
     apply bd 36 k rfl rfl rfl; case h =>
      intro ax wx hE hR hF; exact Z02 rfl (hE.g e3)
     apply bd 37 k rfl rfl rfl; case h =>
      intro ax wx hE hR hF; have e36 := zhF hF 0 36 ml0; exact Z08 (Z19 rfl e36 rfl) (decide_eq_true (by omega))
     apply bd 38 k rfl rfl rfl; case h =>
      intro ax wx hE hR hF; have e37 := zhF hF 1 37 ml0; exact Z02 rfl e37
     apply bdg 39 k rfl rfl rfl rfl; case h =>
      intro ax wx hE hR hF; have e38 := zhF hF 2 38 ml0; refine ⟨e38, ?_⟩; simp [go_sem, ↓IntWalk.iteOmega, ev (hE.g e1)]
      with_reducible rfl
     apply bdg 40 k rfl rfl rfl rfl; case h =>
      intro ax wx hE hR hF; have e39 := zhF hF 3 39 ml0; have e38 := zhF hF 2 38 ml1; refine ⟨e38, ?_⟩; have q0 : wx.cell? ⟨lb, 1, none⟩ = some (.slice (some ⟨b0, o0, none⟩) len cap) := (OwnT.blk (OwnT.ext O hR) 0 rfl).cell 1
      simp [go_sem, ↓IntWalk.iteOmega, ev e39, q0]
      with_reducible rfl
     apply bdg 41 k rfl rfl rfl rfl; case h =>
      intro ax wx hE hR hF; have e38 := zhF hF 2 38 ml2; refine ⟨e38, ?_⟩; exact Z02 rfl (hE.g e3)
     apply bdg 42 k rfl rfl rfl rfl; case h =>
      intro ax wx hE hR hF; have e41 := zhF hF 5 41 ml0; have e38 := zhF hF 2 38 ml3; refine ⟨e38, ?_⟩; exact Z2f (v := .int .i64 ↑(j - 1)) (Z3d rfl e41 rfl (by omega)) (Z12 (by omega))
     apply bdg 43 k rfl rfl rfl rfl; case h =>
      intro ax wx hE hR hF; have e40 := zhF hF 4 40 ml2; have e42 := zhF hF 6 42 ml0; have e38 := zhF hF 2 38 ml4; refine ⟨e38, ?_⟩; simp [go_sem, ↓IntWalk.iteOmega, ev e40, ev e42]
      with_reducible rfl
     apply bdg 44 k rfl rfl rfl rfl; case h =>
      intro ax wx hE hR hF; have e43 := zhF hF 7 43 ml0; have e38 := zhF hF 2 38 ml5; refine ⟨e38, ?_⟩; simp [go_sem, ↓IntWalk.iteOmega, ev e43]
      with_reducible rfl
     apply bdg 45 k rfl rfl rfl rfl; case h =>
      intro ax wx hE hR hF; have e44 := zhF hF 8 44 ml0; have e38 := zhF hF 2 38 ml6; refine ⟨e38, ?_⟩; have d0 := HK0 wx hR
      simp [go_sem, ↓IntWalk.iteOmega, ev e44, d0]
      with_reducible rfl
     apply bdg 46 k rfl rfl rfl rfl; case h =>
      intro ax wx hE hR hF; have e38 := zhF hF 2 38 ml7; refine ⟨e38, ?_⟩; simp [go_sem, ↓IntWalk.iteOmega, ev (hE.g e1)]
      with_reducible rfl
     apply bdg 47 k rfl rfl rfl rfl; case h =>
      intro ax wx hE hR hF; have e46 := zhF hF 10 46 ml0; have e38 := zhF hF 2 38 ml8; refine ⟨e38, ?_⟩; have q0 : wx.cell? ⟨lb, 1, none⟩ = some (.slice (some ⟨b0, o0, none⟩) len cap) := (OwnT.blk (OwnT.ext O hR) 0 rfl).cell 1
      simp [go_sem, ↓IntWalk.iteOmega, ev e46, q0]
      with_reducible rfl
     apply bdg 48 k rfl rfl rfl rfl; case h =>
      intro ax wx hE hR hF; have e38 := zhF hF 2 38 ml9; refine ⟨e38, ?_⟩; exact Z02 rfl (hE.g e3)
     apply bdg 49 k rfl rfl rfl rfl; case h =>
      intro ax wx hE hR hF; have e47 := zhF hF 11 47 ml1; have e48 := zhF hF 12 48 ml0; have e38 := zhF hF 2 38 ml10; refine ⟨e38, ?_⟩; simp [go_sem, ↓IntWalk.iteOmega, ev e47, ev e48]
      with_reducible rfl
     apply bdg 50 k rfl rfl rfl rfl; case h =>
      intro ax wx hE hR hF; have e49 := zhF hF 13 49 ml0; have e38 := zhF hF 2 38 ml11; refine ⟨e38, ?_⟩; simp [go_sem, ↓IntWalk.iteOmega, ev e49]
      with_reducible rfl
     apply bdg 51 k rfl rfl rfl rfl; case h =>
      intro ax wx hE hR hF; have e50 := zhF hF 14 50 ml0; have e38 := zhF hF 2 38 ml12; refine ⟨e38, ?_⟩; have d0 := HK2 wx hR
      simp [go_sem, ↓IntWalk.iteOmega, ev e50, d0]
      with_reducible rfl
     apply bdg 52 k rfl rfl rfl rfl; case h =>
      intro ax wx hE hR hF; have e45 := zhF hF 9 45 ml6; have e51 := zhF hF 15 51 ml0; have e38 := zhF hF 2 38 ml13; refine ⟨e38, ?_⟩; exact Z08 (Z1q rfl e45 e51) (decide_eq_false (by omega))
     apply bd 53 k rfl rfl rfl; case h =>
      intro ax wx hE hR hF; have e38 := zhF hF 2 38 ml14; have e52 := zhF hF 16 52 ml0; exact Z0a rfl e38 e52
     apply bd 54 k rfl rfl rfl; case h =>
      intro ax wx hE hR hF; have e53 := zhF hF 17 53 ml0; exact Z02 rfl e53
     apply bdg 55 k rfl rfl rfl rfl; case h =>
      intro ax wx hE hR hF; have e54 := zhF hF 18 54 ml0; refine ⟨e54, ?_⟩; simp [go_sem, ↓IntWalk.iteOmega, ev (hE.g e1)]
      with_reducible rfl
     apply bdg 56 k rfl rfl rfl rfl; case h =>
      intro ax wx hE hR hF; have e55 := zhF hF 19 55 ml0; have e54 := zhF hF 18 54 ml1; refine ⟨e54, ?_⟩; have q0 : wx.cell? ⟨lb, 0, none⟩ = some (.int .i64 lv) := (OwnT.blk (OwnT.ext O hR) 0 rfl).cell 0
      simp [go_sem, ↓IntWalk.iteOmega, ev e55, q0]
      with_reducible rfl
     apply bdg 57 k rfl rfl rfl rfl; case h =>
      intro ax wx hE hR hF; have e56 := zhF hF 20 56 ml0; have e54 := zhF hF 18 54 ml2; refine ⟨e54, ?_⟩; exact Z08 (Z19 rfl e56 rfl) (decide_eq_false (by omega))
     apply bdg 58 k rfl rfl rfl rfl; case h =>
      intro ax wx hE hR hF; have e57 := zhF hF 21 57 ml0; have e54 := zhF hF 18 54 ml3; refine ⟨e54, ?_⟩; exact Z02 rfl e57
     refine Build.skip 59 (by rfl) (by rw [k.size]; rfl) rfl rfl ?_ ?_
     · intro ax wx hE hR hF; have e58 := zhF hF 22 58 ml0; exact e58
     refine Build.skip 60 (by rfl) (by rw [k.size]; rfl) rfl rfl ?_ ?_
     · intro ax wx hE hR hF; have e58 := zhF hF 22 58 ml1; exact e58
     refine Build.skip 61 (by rfl) (by rw [k.size]; rfl) rfl rfl ?_ ?_
     · intro ax wx hE hR hF; have e58 := zhF hF 22 58 ml2; exact e58
     refine Build.skip 62 (by rfl) (by rw [k.size]; rfl) rfl rfl ?_ ?_
     · intro ax wx hE hR hF; have e58 := zhF hF 22 58 ml3; exact e58
     refine Build.skip 63 (by rfl) (by rw [k.size]; rfl) rfl rfl ?_ ?_
     · intro ax wx hE hR hF; have e58 := zhF hF 22 58 ml4; exact e58
     refine Build.skip 64 (by rfl) (by rw [k.size]; rfl) rfl rfl ?_ ?_
     · intro ax wx hE hR hF; have e58 := zhF hF 22 58 ml5; exact e58
     refine Build.skip 65 (by rfl) (by rw [k.size]; rfl) rfl rfl ?_ ?_
     · intro ax wx hE hR hF; have e58 := zhF hF 22 58 ml6; exact e58
     refine Build.skip 66 (by rfl) (by rw [k.size]; rfl) rfl rfl ?_ ?_
     · intro ax wx hE hR hF; have e58 := zhF hF 22 58 ml7; exact e58
     refine Build.skipu 67 (by rfl) (by rw [k.size]; rfl) rfl rfl ?_ ?_
     · intro ax wx hE hR hF; have e66 := zhF hF 30 66 ml0; exact e66
     refine Build.skipu 68 (by rfl) (by rw [k.size]; rfl) rfl rfl ?_ ?_
     · intro ax wx hE hR hF; have e66 := zhF hF 30 66 ml1; exact e66
     refine Build.skipu 69 (by rfl) (by rw [k.size]; rfl) rfl rfl ?_ ?_
     · intro ax wx hE hR hF; have e66 := zhF hF 30 66 ml2; exact e66
     refine Build.skipu 70 (by rfl) (by rw [k.size]; rfl) rfl rfl ?_ ?_
     · intro ax wx hE hR hF; have e66 := zhF hF 30 66 ml3; exact e66
     refine Build.skipu 71 (by rfl) (by rw [k.size]; rfl) rfl rfl ?_ ?_
     · intro ax wx hE hR hF; have e66 := zhF hF 30 66 ml4; exact e66
     refine Build.skipu 72 (by rfl) (by rw [k.size]; rfl) rfl rfl ?_ ?_
     · intro ax wx hE hR hF; have e66 := zhF hF 30 66 ml5; exact e66
     refine Build.skipu 73 (by rfl) (by rw [k.size]; rfl) rfl rfl ?_ ?_
     · intro ax wx hE hR hF; have e66 := zhF hF 30 66 ml6; exact e66
     refine Build.skip 74 (by rfl) (by rw [k.size]; rfl) rfl rfl ?_ ?_
     · intro ax wx hE hR hF; have e58 := zhF hF 22 58 ml15; exact e58
     apply bdg 75 k rfl rfl rfl rfl; case h =>
      intro ax wx hE hR hF; have e58 := zhF hF 22 58 ml16; have e74 := zhF hF 38 74 ml0; have e54 := zhF hF 18 54 ml20; refine ⟨e54, ?_⟩; exact Z07 rfl e58 rfl
     apply bd 76 k rfl rfl rfl; case h =>
      intro ax wx hE hR hF; have e54 := zhF hF 18 54 ml21; have e75 := zhF hF 39 75 ml0; exact Z07 rfl e54 e75
     apply Build.stop
     refine ⟨by kernel_rfl, .inl ⟨rfl, ?_⟩⟩
     intro a220 w221 hE R hF; have e76 : a220.eval (.tmp 76) = _ := hF 40 (det 76 _) ml0
     clear hF; replace O := OwnT.ext O R; clear R; replace e1 := hE.g e1; replace e3 := hE.g e3; replace k := k.env hE; clear hE e33; refine Z00 ?_; refine Z0b e76 rfl ?_
     refine wp_skip ?_; refine Z0y ?_; refine Z00 ?_; refine wp_region_lit ?_
     have hE := Env.refl a220 [34, 35, 3]; refine sd 34 hE k (Z02 rfl e3) ?_; intro a222 hE e34 kp; replace e3 := kt kp e3; refine sd 35 hE k (Z38 rfl e34 rfl (by omega)) ?_; intro a223 hE e35 kp; replace e3 := kt kp e3; replace e35 := e35.trans (Z12 (show (j : Int) + 1 = ((j + 1 : Nat) : Int) by omega))
     refine sd 3 hE k (Z01 rfl e35) ?_; intro a224 hE e3 kp; refine wpList_nil ?_; replace e1 := hE.g e1; replace k := k.env hE; clear hE e76; refine Z00 ?_; refine ⟨⟨k, e1, j + 1, e3, by omega, fun i hi => ?_, O⟩, ?_⟩
     · by_cases e : i = j
       · subst e; exact hoj
       · exact hok i (by omega)
     · rw [e3, mj]; simp only [intOf]; omega
end Go.Proofs.YtakkhglbdljfiaaGreatDoor
