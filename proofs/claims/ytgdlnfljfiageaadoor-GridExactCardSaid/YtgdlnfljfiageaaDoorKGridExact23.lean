/- grids' law: GridExact (printed by XGrJ.gen.py). -/
import Derived.Test.YtgdlnfljfiageaaDoorKGridExact22
import Derived.Test.YtgdlnfljfiageaaDoorKGridExact18
import Derived.Test.YtgdlnfljfiageaaDoorKGridExact19
namespace Go.Proofs.YtgdlnfljfiageaaDoor
attribute [local simp] BigFrame.eval_const BigFrame.eval_global BigFrame.eval_func
set_option linter.unusedVariables false
set_option linter.unusedSimpArgs false
open Go.RowKit

theorem Z7i {X : List (List Tx)} (h : greatB X = false) : X.length ≤ 20 ∧ ∀ T ∈ X, T.length ≤ 10 ∧ ∀ s ∈ T, s.length ≤ 40 := by
 unfold greatB at h
 rw [Bool.or_eq_false_iff, decide_eq_false_iff_not, List.any_eq_false] at h
 refine ⟨by omega, fun T hT => ?_⟩
 have h2 := h.2 T hT
 rw [Bool.not_eq_true] at h2
 unfold bigB at h2
 rw [Bool.or_eq_false_iff, decide_eq_false_iff_not, List.any_eq_false] at h2
 refine ⟨by omega, fun s hs => ?_⟩
 have h3 := h2.2 s hs
 rw [decide_eq_true_eq] at h3
 omega

set_option maxRecDepth 100000 in
set_option maxHeartbeats 4000000 in
theorem Z2z {A : Option Addr} {ca : Nat} {X : List (List Tx)} (l : Tx) (x : Int) (W0 : World) (h : TxsR W0 A X) (hv : VarW W0) : Calls Tryd.prog 3 #[.string (sB l), .int .i64 x, .slice A X.length ca] W0 fun e w' => e = .returned (.bool true) ∧ Below W0.heap.size W0 w' := by
 have O := OwnT.start W0
 refine Z0k Tryd.func3 rfl 62 rfl (by rfl) ?_
 intro a1 k hargs
 have e0 : a1.eval (.tmp 0) = .string (sB l) := hargs 0 _ rfl
 have e1 : a1.eval (.tmp 1) = .int .i64 x := hargs 1 _ rfl
 have e2 : a1.eval (.tmp 2) = .slice A X.length ca := hargs 2 _ rfl
 clear hargs
 refine wp_seq ?_
 refine wp_region_lit ?_
 have hE := Env.refl a1 [6]
 refine sd 6 hE k (Z03 rfl rfl) ?_
 intro a2 hE e6 kp
 refine wpList_nil ?_
 replace e0 := hE.g e0; replace e1 := hE.g e1; replace e2 := hE.g e2
 replace k := k.env hE
 clear hE e6
 refine Z01 (wp_seq ?_)
 refine wp_seq ?_
 refine wp_region_lit ?_
 have hE := Env.refl a2 [11, 12]
 apply Z0c 11 hE k rfl (by rfl) (by rfl) rfl
 case h =>
  simp [go_sem, ↓IntWalk.iteOmega]
  with_reducible exact ⟨rfl, rfl⟩
 case hc => exact awake37 _ hv
 rintro e w4 ⟨rfl, RE⟩
 replace O := OwnT.ext O RE
 refine ⟨_, rfl, ?_⟩
 intro a3 hE e11 kp
 refine sd 12 hE k (Z2x rfl e11) ?_
 intro a5 hE e12 kp
 refine wpList_nil ?_
 replace e0 := hE.g e0; replace e1 := hE.g e1; replace e2 := hE.g e2
 replace k := k.env hE
 clear hE
 refine Z01 ?_
 refine Z0b e12 rfl ?_
 refine wp_skip ?_
 refine Z01 ?_
 by_cases hl : l.length ≤ 200
 rotate_left
 · skip
   refine wp_seq ?_
   refine wp_seq ?_
   refine wp_region_lit ?_
   have hE := Env.refl a5 [13, 14, 15, 16, 17, 18, 19]
   refine zm 13 hE k e0 ?_
   intro a6 hE e13 kp
   refine sd 14 hE k (Z0s Tryd.underlying9 rfl e13) ?_
   intro a7 hE e14 kp
   refine sd 15 hE k (Z05 (Z0t rfl e14 rfl) (decide_eq_true (by omega))) ?_
   intro a8 hE e15 kp
   refine sd 16 hE k (Z02 rfl e15) ?_
   intro a9 hE e16 kp
   refine Z04 17 hE k rfl (by rfl) (by rfl) rfl rfl (.inl e16) ?_
   intro a10 hE e17 kp
   replace e16 := kt kp e16
   refine Z04 18 hE k rfl (by rfl) (by rfl) rfl rfl (.inl e16) ?_
   intro a11 hE e18 kp
   replace e16 := kt kp e16
   refine sd 19 hE k (Z07 rfl e16 rfl) ?_
   intro a12 hE e19 kp
   refine wpList_nil ?_
   replace e0 := hE.g e0; replace e1 := hE.g e1; replace e2 := hE.g e2
   replace k := k.env hE
   clear hE e12
   refine Z01 ?_
   refine Z0a e19 rfl ?_
   refine wp_seq ?_
   refine wp_region_lit ?_
   have hE := Env.refl a12 [6]
   refine sd 6 hE k (Z03 rfl rfl) ?_
   intro a13 hE e6 kp
   refine wpList_nil ?_
   replace k := k.env hE
   clear hE e0 e1 e2 e19
   refine Z01 ?_
   refine wp_ret ?_
   refine Z09 ?_
   refine Z0d rfl k e6 ?_
   exact ⟨rfl, O.below⟩
 cases hg : greatB X with
 | true =>
  refine wp_seq ?_
  refine wp_seq ?_
  refine wp_region_lit ?_
  have hE := Env.refl a5 [13, 14, 15, 16, 17, 18, 19]
  refine zm 13 hE k e0 ?_
  intro a14 hE e13 kp
  refine sd 14 hE k (Z0s Tryd.underlying9 rfl e13) ?_
  intro a15 hE e14 kp
  refine sd 15 hE k (Z05 (Z0t rfl e14 rfl) (decide_eq_false (by omega))) ?_
  intro a16 hE e15 kp
  refine sd 16 hE k (Z02 rfl e15) ?_
  intro a17 hE e16 kp
  apply Z00 17 hE k rfl rfl rfl rfl rfl e16
  case h =>
   exact Z02 rfl (hE.g e2)
  intro a18 hE e17 kp
  replace e16 := kt kp e16
  apply Z0z 18 hE k rfl (by rfl) (by rfl) rfl rfl e16
  case h =>
   simp [go_sem, ↓IntWalk.iteOmega, ev e17]
   with_reducible exact ⟨rfl, rfl⟩
  case hc => exact Z42 _ (h.below O.below)
  rintro e w20 ⟨he, RE⟩
  replace O := OwnT.ext O RE
  refine ⟨_, he.trans (congrArg (fun b => Ending.returned (.bool b)) hg), ?_⟩
  intro a19 hE e18 kp
  replace e16 := kt kp e16
  refine sd 19 hE k (Z06 rfl e16 e18) ?_
  intro a21 hE e19 kp
  refine wpList_nil ?_
  replace e0 := hE.g e0; replace e1 := hE.g e1; replace e2 := hE.g e2
  replace k := k.env hE
  clear hE e12
  refine Z01 ?_
  refine Z0a e19 rfl ?_
  refine wp_seq ?_
  refine wp_region_lit ?_
  have hE := Env.refl a21 [6]
  refine sd 6 hE k (Z03 rfl rfl) ?_
  intro a22 hE e6 kp
  refine wpList_nil ?_
  replace k := k.env hE
  clear hE e0 e1 e2 e19
  refine Z01 ?_
  refine wp_ret ?_
  refine Z09 ?_
  refine Z0d rfl k e6 ?_
  exact ⟨rfl, O.below⟩
 | false =>
  obtain ⟨hX1, hX2⟩ := Z7i hg
  have hs : ∀ T ∈ X, T.length ≤ 1000000000 ∧ ∀ s ∈ T, s.length ≤ 1000 := fun T hT => ⟨by have := (hX2 T hT).1; omega, fun s h => by have := (hX2 T hT).2 s h; omega⟩
  obtain ⟨q, hq⟩ : ∃ q : Nat, min (max x 0) 1000 = (q : Int) := ⟨(min (max x 0) 1000).toNat, by omega⟩

  refine wp_seq ?_
  refine wp_seq ?_
  refine wp_region_lit ?_
  have hE := Env.refl a5 [13, 14, 15, 16, 17, 18, 19]
  refine zm 13 hE k e0 ?_
  intro a23 hE e13 kp
  refine sd 14 hE k (Z0s Tryd.underlying9 rfl e13) ?_
  intro a24 hE e14 kp
  refine sd 15 hE k (Z05 (Z0t rfl e14 rfl) (decide_eq_false (by omega))) ?_
  intro a25 hE e15 kp
  refine sd 16 hE k (Z02 rfl e15) ?_
  intro a26 hE e16 kp
  apply Z00 17 hE k rfl rfl rfl rfl rfl e16
  case h =>
   exact Z02 rfl (hE.g e2)
  intro a27 hE e17 kp
  replace e16 := kt kp e16
  apply Z0z 18 hE k rfl (by rfl) (by rfl) rfl rfl e16
  case h =>
   simp [go_sem, ↓IntWalk.iteOmega, ev e17]
   with_reducible exact ⟨rfl, rfl⟩
  case hc => exact Z42 _ (h.below O.below)
  rintro e w29 ⟨he, RE⟩
  replace O := OwnT.ext O RE
  refine ⟨_, he.trans (congrArg (fun b => Ending.returned (.bool b)) hg), ?_⟩
  intro a28 hE e18 kp
  replace e16 := kt kp e16
  refine sd 19 hE k (Z06 rfl e16 e18) ?_
  intro a30 hE e19 kp
  refine wpList_nil ?_
  replace e0 := hE.g e0; replace e1 := hE.g e1; replace e2 := hE.g e2
  replace k := k.env hE
  clear hE e12
  refine Z01 ?_
  refine Z0b e19 rfl ?_
  refine wp_skip ?_
  refine Z01 ?_
  cases ht : tableB X with
  | true =>
   refine wp_seq ?_
   refine wp_region_lit ?_
   have hE := Env.refl a30 [21, 22, 20, 23, 24, 7, 8]
   refine zm 21 hE k e2 ?_
   intro a31 hE e21 kp
   apply Z0c 22 hE k rfl (by rfl) (by rfl) rfl
   case h =>
    simp [go_sem, ↓IntWalk.iteOmega, ev e21]
    with_reducible exact ⟨rfl, rfl⟩
   case hc => exact Z1m _ (h.below O.below) (by omega) hs (hv.below O.below)
   rintro e w33 ⟨he, RE⟩
   replace O := OwnT.ext O RE
   refine ⟨_, he.trans (by rw [ht]; first | done | rfl), ?_⟩
   intro a32 hE e22 kp
   refine sd 20 hE k (Z02 rfl e22) ?_
   intro a34 hE e20 kp
   apply Z08 23 hE k rfl rfl rfl rfl
   case h =>
    simp [go_sem, ↓IntWalk.iteOmega, ev e20]
    with_reducible rfl
   intro a35 hE e23 kp
   replace e20 := kt kp e20
   apply Z08 24 hE k rfl rfl rfl rfl
   case h =>
    simp [go_sem, ↓IntWalk.iteOmega, ev e20]
    with_reducible rfl
   intro a36 hE e24 kp
   replace e23 := kt kp e23
   refine sd 7 hE k (Z03 rfl e23) ?_
   intro a37 hE e7 kp
   replace e24 := kt kp e24
   refine sd 8 hE k (Z03 rfl e24) ?_
   intro a38 hE e8 kp
   replace e7 := kt kp e7
   refine wpList_nil ?_
   replace e0 := hE.g e0; replace e1 := hE.g e1; replace e2 := hE.g e2
   replace k := k.env hE
   clear hE e19
   refine Z01 (wp_seq ?_)
   refine wp_region_lit ?_
   have hE := Env.refl a38 [26, 27, 25, 28, 29, 9, 10]
   refine zm 26 hE k e2 ?_
   intro a39 hE e26 kp
   apply Z0c 27 hE k rfl (by rfl) (by rfl) rfl
   case h =>
    simp [go_sem, ↓IntWalk.iteOmega, ev e26]
    with_reducible exact ⟨rfl, rfl⟩
   case hc => exact Z3w _ (h.below O.below) (by omega) hs
   rintro e w41 ⟨he, RE⟩
   replace O := OwnT.ext O RE
   refine ⟨_, he.trans (by unfold rtxt; rw [ht]; first | done | rfl), ?_⟩
   intro a40 hE e27 kp
   refine sd 25 hE k (Z02 rfl e27) ?_
   intro a42 hE e25 kp
   apply Z08 28 hE k rfl rfl rfl rfl
   case h =>
    simp [go_sem, ↓IntWalk.iteOmega, ev e25]
    with_reducible rfl
   intro a43 hE e28 kp
   replace e25 := kt kp e25
   apply Z08 29 hE k rfl rfl rfl rfl
   case h =>
    simp [go_sem, ↓IntWalk.iteOmega, ev e25]
    with_reducible rfl
   intro a44 hE e29 kp
   replace e28 := kt kp e28
   refine sd 9 hE k (Z03 rfl e28) ?_
   intro a45 hE e9 kp
   replace e29 := kt kp e29
   refine sd 10 hE k (Z03 rfl e29) ?_
   intro a46 hE e10 kp
   replace e9 := kt kp e9
   refine wpList_nil ?_
   replace e0 := hE.g e0; replace e1 := hE.g e1; replace e7 := hE.g e7; replace e8 := hE.g e8
   replace k := k.env hE
   clear hE e2
   refine Z01 (wp_seq ?_)
   refine wp_region_lit ?_
   have hE := Env.refl a46 [30, 31, 32, 33, 34, 35, 36, 37, 38, 39, 40, 41, 42, 43, 44, 45, 46, 47, 48, 49, 50, 51, 52, 53, 54, 55, 56, 57, 58, 59, 60, 61, 6]
   refine zm 30 hE k e0 ?_
   intro a47 hE e30 kp
   apply Z0c 31 hE k rfl (by rfl) (by rfl) rfl
   case h =>
    simp [go_sem, ↓IntWalk.iteOmega, ev e30]
    with_reducible exact ⟨rfl, rfl⟩
   case hc => exact Z1h l _ (by omega)
   rintro e w49 ⟨rfl, RE⟩
   replace O := OwnT.ext O RE
   refine ⟨_, rfl, ?_⟩
   intro a48 hE e31 kp
   refine zm 32 hE k e0 ?_
   intro a50 hE e32 kp
   replace e31 := kt kp e31
   apply Z0c 33 hE k rfl (by rfl) (by rfl) rfl
   case h =>
    simp [go_sem, ↓IntWalk.iteOmega, ev e32]
    with_reducible exact ⟨rfl, rfl⟩
   case hc => exact Z1o l _ (by omega)
   rintro e w52 ⟨rfl, RE⟩
   replace O := OwnT.ext O RE
   refine ⟨_, rfl, ?_⟩
   intro a51 hE e33 kp
   replace e31 := kt kp e31
   refine sd 34 hE k (Z05 (Z0l rfl e31 e33) (decide_eq_true (by omega))) ?_
   intro a53 hE e34 kp
   refine sd 35 hE k (Z02 rfl e34) ?_
   intro a54 hE e35 kp
   apply Z00 36 hE k rfl rfl rfl rfl rfl e35
   case h =>
    exact Z02 rfl (hE.g e0)
   intro a55 hE e36 kp
   replace e35 := kt kp e35
   apply Z00 37 hE k rfl rfl rfl rfl rfl e35
   case h =>
    exact Z02 rfl (hE.g e1)
   intro a56 hE e37 kp
   replace e35 := kt kp e35; replace e36 := kt kp e36
   apply Z0z 38 hE k rfl (by rfl) (by rfl) rfl rfl e35
   case h =>
    simp [go_sem, ↓IntWalk.iteOmega, ev e36, ev e37]
    with_reducible exact ⟨rfl, rfl⟩
   case hc => exact Z3m l x q _ (by omega) hq
   rintro e w58 ⟨rfl, RE⟩
   replace O := OwnT.ext O RE
   refine ⟨_, rfl, ?_⟩
   intro a57 hE e38 kp
   replace e35 := kt kp e35
   apply Z00 39 hE k rfl rfl rfl rfl rfl e35
   case h =>
    exact Z02 rfl (hE.g e0)
   intro a59 hE e39 kp
   replace e35 := kt kp e35; replace e38 := kt kp e38
   apply Z00 40 hE k rfl rfl rfl rfl rfl e35
   case h =>
    exact Z02 rfl (hE.g e1)
   intro a60 hE e40 kp
   replace e35 := kt kp e35; replace e38 := kt kp e38; replace e39 := kt kp e39
   apply Z0z 41 hE k rfl (by rfl) (by rfl) rfl rfl e35
   case h =>
    simp [go_sem, ↓IntWalk.iteOmega, ev e39, ev e40]
    with_reducible exact ⟨rfl, rfl⟩
   case hc => exact Z4s l x q _ (by omega) hq
   rintro e w62 ⟨rfl, RE⟩
   replace O := OwnT.ext O RE
   refine ⟨_, rfl, ?_⟩
   intro a61 hE e41 kp
   replace e35 := kt kp e35; replace e38 := kt kp e38
   apply Z00 42 hE k rfl rfl rfl rfl rfl e35
   case h =>
    exact Z05 (Z2g (l := fitL q l) (m := fitL q l) rfl e38 e41) (decide_eq_true (by simp))
   intro a63 hE e42 kp
   replace e35 := kt kp e35
   refine sd 43 hE k (Z07 rfl e35 e42) ?_
   intro a64 hE e43 kp
   refine sd 44 hE k (Z02 rfl e43) ?_
   intro a65 hE e44 kp
   apply Z00 45 hE k rfl rfl rfl rfl rfl e44
   case h =>
    exact Z02 rfl (hE.g e7)
   intro a66 hE e45 kp
   replace e44 := kt kp e44
   apply Z00 46 hE k rfl rfl rfl rfl rfl e44
   case h =>
    exact Z02 rfl (hE.g e9)
   intro a67 hE e46 kp
   replace e44 := kt kp e44; replace e45 := kt kp e45
   apply Z00 47 hE k rfl rfl rfl rfl rfl e44
   case h =>
    exact Z05 (Z2g (l := textL X) (m := textL X) rfl e45 e46) (decide_eq_true (by simp))
   intro a68 hE e47 kp
   replace e44 := kt kp e44
   refine sd 48 hE k (Z07 rfl e44 e47) ?_
   intro a69 hE e48 kp
   refine sd 49 hE k (Z02 rfl e48) ?_
   intro a70 hE e49 kp
   apply Z00 50 hE k rfl rfl rfl rfl rfl e49
   case h =>
    exact Z02 rfl (hE.g e8)
   intro a71 hE e50 kp
   replace e49 := kt kp e49
   apply Z00 51 hE k rfl rfl rfl rfl rfl e49
   case h =>
    exact Z0l rfl e50 rfl
   intro a72 hE e51 kp
   replace e49 := kt kp e49
   apply Z00 52 hE k rfl rfl rfl rfl rfl e49
   case h =>
    exact Z02 rfl (hE.g e10)
   intro a73 hE e52 kp
   replace e49 := kt kp e49; replace e51 := kt kp e51
   apply Z00 53 hE k rfl rfl rfl rfl rfl e49
   case h =>
    simp [go_sem, ↓IntWalk.iteOmega, ev e51, ev e52]
    with_reducible rfl
   intro a74 hE e53 kp
   replace e49 := kt kp e49
   refine sd 54 hE k (Z07 rfl e49 e53) ?_
   intro a75 hE e54 kp
   refine sd 55 hE k (Z02 rfl e54) ?_
   intro a76 hE e55 kp
   apply Z00 56 hE k rfl rfl rfl rfl rfl e55
   case h =>
    exact Z02 rfl (hE.g e10)
   intro a77 hE e56 kp
   replace e55 := kt kp e55
   apply Z00 57 hE k rfl rfl rfl rfl rfl e55
   case h =>
    exact Z02 rfl e56
   intro a78 hE e57 kp
   replace e55 := kt kp e55
   refine Z04 58 hE k rfl (by rfl) (by rfl) rfl rfl (.inl e57) ?_
   intro a79 hE e58 kp
   replace e55 := kt kp e55; replace e57 := kt kp e57
   refine Z04 59 hE k rfl (by rfl) (by rfl) rfl rfl (.inl e57) ?_
   intro a80 hE e59 kp
   replace e55 := kt kp e55; replace e57 := kt kp e57
   apply Z00 60 hE k rfl rfl rfl rfl rfl e55
   case h =>
    exact Z07 rfl e57 rfl
   intro a81 hE e60 kp
   replace e55 := kt kp e55
   refine sd 61 hE k (Z07 rfl e55 e60) ?_
   intro a82 hE e61 kp
   refine sd 6 hE k (Z03 rfl e61) ?_
   intro a83 hE e6 kp
   refine wpList_nil ?_
   replace k := k.env hE
   clear hE e0 e1 e7 e8 e9 e10
   refine Z01 ?_
   refine wp_ret ?_
   refine Z0d rfl k e6 ?_
   exact ⟨rfl, O.below⟩
  | false =>
   refine wp_seq ?_
   refine wp_region_lit ?_
   have hE := Env.refl a30 [21, 22, 20, 23, 24, 7, 8]
   refine zm 21 hE k e2 ?_
   intro a84 hE e21 kp
   apply Z0c 22 hE k rfl (by rfl) (by rfl) rfl
   case h =>
    simp [go_sem, ↓IntWalk.iteOmega, ev e21]
    with_reducible exact ⟨rfl, rfl⟩
   case hc => exact Z1m _ (h.below O.below) (by omega) hs (hv.below O.below)
   rintro e w86 ⟨he, RE⟩
   replace O := OwnT.ext O RE
   refine ⟨_, he.trans (by rw [ht]; first | done | rfl), ?_⟩
   intro a85 hE e22 kp
   refine sd 20 hE k (Z02 rfl e22) ?_
   intro a87 hE e20 kp
   apply Z08 23 hE k rfl rfl rfl rfl
   case h =>
    simp [go_sem, ↓IntWalk.iteOmega, ev e20]
    with_reducible rfl
   intro a88 hE e23 kp
   replace e20 := kt kp e20
   apply Z08 24 hE k rfl rfl rfl rfl
   case h =>
    simp [go_sem, ↓IntWalk.iteOmega, ev e20]
    with_reducible rfl
   intro a89 hE e24 kp
   replace e23 := kt kp e23
   refine sd 7 hE k (Z03 rfl e23) ?_
   intro a90 hE e7 kp
   replace e24 := kt kp e24
   refine sd 8 hE k (Z03 rfl e24) ?_
   intro a91 hE e8 kp
   replace e7 := kt kp e7
   refine wpList_nil ?_
   replace e0 := hE.g e0; replace e1 := hE.g e1; replace e2 := hE.g e2
   replace k := k.env hE
   clear hE e19
   refine Z01 (wp_seq ?_)
   refine wp_region_lit ?_
   have hE := Env.refl a91 [26, 27, 25, 28, 29, 9, 10]
   refine zm 26 hE k e2 ?_
   intro a92 hE e26 kp
   apply Z0c 27 hE k rfl (by rfl) (by rfl) rfl
   case h =>
    simp [go_sem, ↓IntWalk.iteOmega, ev e26]
    with_reducible exact ⟨rfl, rfl⟩
   case hc => exact Z3w _ (h.below O.below) (by omega) hs
   rintro e w94 ⟨he, RE⟩
   replace O := OwnT.ext O RE
   refine ⟨_, he.trans (by unfold rtxt; rw [ht]; first | done | rfl), ?_⟩
   intro a93 hE e27 kp
   refine sd 25 hE k (Z02 rfl e27) ?_
   intro a95 hE e25 kp
   apply Z08 28 hE k rfl rfl rfl rfl
   case h =>
    simp [go_sem, ↓IntWalk.iteOmega, ev e25]
    with_reducible rfl
   intro a96 hE e28 kp
   replace e25 := kt kp e25
   apply Z08 29 hE k rfl rfl rfl rfl
   case h =>
    simp [go_sem, ↓IntWalk.iteOmega, ev e25]
    with_reducible rfl
   intro a97 hE e29 kp
   replace e28 := kt kp e28
   refine sd 9 hE k (Z03 rfl e28) ?_
   intro a98 hE e9 kp
   replace e29 := kt kp e29
   refine sd 10 hE k (Z03 rfl e29) ?_
   intro a99 hE e10 kp
   replace e9 := kt kp e9
   refine wpList_nil ?_
   replace e0 := hE.g e0; replace e1 := hE.g e1; replace e7 := hE.g e7; replace e8 := hE.g e8
   replace k := k.env hE
   clear hE e2
   refine Z01 (wp_seq ?_)
   refine wp_region_lit ?_
   have hE := Env.refl a99 [30, 31, 32, 33, 34, 35, 36, 37, 38, 39, 40, 41, 42, 43, 44, 45, 46, 47, 48, 49, 50, 51, 52, 53, 54, 55, 56, 57, 58, 59, 60, 61, 6]
   refine zm 30 hE k e0 ?_
   intro a100 hE e30 kp
   apply Z0c 31 hE k rfl (by rfl) (by rfl) rfl
   case h =>
    simp [go_sem, ↓IntWalk.iteOmega, ev e30]
    with_reducible exact ⟨rfl, rfl⟩
   case hc => exact Z1h l _ (by omega)
   rintro e w102 ⟨rfl, RE⟩
   replace O := OwnT.ext O RE
   refine ⟨_, rfl, ?_⟩
   intro a101 hE e31 kp
   refine zm 32 hE k e0 ?_
   intro a103 hE e32 kp
   replace e31 := kt kp e31
   apply Z0c 33 hE k rfl (by rfl) (by rfl) rfl
   case h =>
    simp [go_sem, ↓IntWalk.iteOmega, ev e32]
    with_reducible exact ⟨rfl, rfl⟩
   case hc => exact Z1o l _ (by omega)
   rintro e w105 ⟨rfl, RE⟩
   replace O := OwnT.ext O RE
   refine ⟨_, rfl, ?_⟩
   intro a104 hE e33 kp
   replace e31 := kt kp e31
   refine sd 34 hE k (Z05 (Z0l rfl e31 e33) (decide_eq_true (by omega))) ?_
   intro a106 hE e34 kp
   refine sd 35 hE k (Z02 rfl e34) ?_
   intro a107 hE e35 kp
   apply Z00 36 hE k rfl rfl rfl rfl rfl e35
   case h =>
    exact Z02 rfl (hE.g e0)
   intro a108 hE e36 kp
   replace e35 := kt kp e35
   apply Z00 37 hE k rfl rfl rfl rfl rfl e35
   case h =>
    exact Z02 rfl (hE.g e1)
   intro a109 hE e37 kp
   replace e35 := kt kp e35; replace e36 := kt kp e36
   apply Z0z 38 hE k rfl (by rfl) (by rfl) rfl rfl e35
   case h =>
    simp [go_sem, ↓IntWalk.iteOmega, ev e36, ev e37]
    with_reducible exact ⟨rfl, rfl⟩
   case hc => exact Z3m l x q _ (by omega) hq
   rintro e w111 ⟨rfl, RE⟩
   replace O := OwnT.ext O RE
   refine ⟨_, rfl, ?_⟩
   intro a110 hE e38 kp
   replace e35 := kt kp e35
   apply Z00 39 hE k rfl rfl rfl rfl rfl e35
   case h =>
    exact Z02 rfl (hE.g e0)
   intro a112 hE e39 kp
   replace e35 := kt kp e35; replace e38 := kt kp e38
   apply Z00 40 hE k rfl rfl rfl rfl rfl e35
   case h =>
    exact Z02 rfl (hE.g e1)
   intro a113 hE e40 kp
   replace e35 := kt kp e35; replace e38 := kt kp e38; replace e39 := kt kp e39
   apply Z0z 41 hE k rfl (by rfl) (by rfl) rfl rfl e35
   case h =>
    simp [go_sem, ↓IntWalk.iteOmega, ev e39, ev e40]
    with_reducible exact ⟨rfl, rfl⟩
   case hc => exact Z4s l x q _ (by omega) hq
   rintro e w115 ⟨rfl, RE⟩
   replace O := OwnT.ext O RE
   refine ⟨_, rfl, ?_⟩
   intro a114 hE e41 kp
   replace e35 := kt kp e35; replace e38 := kt kp e38
   apply Z00 42 hE k rfl rfl rfl rfl rfl e35
   case h =>
    exact Z05 (Z2g (l := fitL q l) (m := fitL q l) rfl e38 e41) (decide_eq_true (by simp))
   intro a116 hE e42 kp
   replace e35 := kt kp e35
   refine sd 43 hE k (Z07 rfl e35 e42) ?_
   intro a117 hE e43 kp
   refine sd 44 hE k (Z02 rfl e43) ?_
   intro a118 hE e44 kp
   apply Z00 45 hE k rfl rfl rfl rfl rfl e44
   case h =>
    exact Z02 rfl (hE.g e7)
   intro a119 hE e45 kp
   replace e44 := kt kp e44
   apply Z00 46 hE k rfl rfl rfl rfl rfl e44
   case h =>
    exact Z02 rfl (hE.g e9)
   intro a120 hE e46 kp
   replace e44 := kt kp e44; replace e45 := kt kp e45
   apply Z00 47 hE k rfl rfl rfl rfl rfl e44
   case h =>
    exact Z05 (Z2g (l := []) (m := []) rfl e45 e46) (decide_eq_true (by simp))
   intro a121 hE e47 kp
   replace e44 := kt kp e44
   refine sd 48 hE k (Z07 rfl e44 e47) ?_
   intro a122 hE e48 kp
   refine sd 49 hE k (Z02 rfl e48) ?_
   intro a123 hE e49 kp
   apply Z00 50 hE k rfl rfl rfl rfl rfl e49
   case h =>
    exact Z02 rfl (hE.g e8)
   intro a124 hE e50 kp
   replace e49 := kt kp e49
   apply Z00 51 hE k rfl rfl rfl rfl rfl e49
   case h =>
    exact Z0l rfl e50 rfl
   intro a125 hE e51 kp
   replace e49 := kt kp e49
   apply Z00 52 hE k rfl rfl rfl rfl rfl e49
   case h =>
    exact Z02 rfl (hE.g e10)
   intro a126 hE e52 kp
   replace e49 := kt kp e49; replace e51 := kt kp e51
   apply Z00 53 hE k rfl rfl rfl rfl rfl e49
   case h =>
    simp [go_sem, ↓IntWalk.iteOmega, ev e51, ev e52]
    with_reducible rfl
   intro a127 hE e53 kp
   replace e49 := kt kp e49
   refine sd 54 hE k (Z07 rfl e49 e53) ?_
   intro a128 hE e54 kp
   refine sd 55 hE k (Z02 rfl e54) ?_
   intro a129 hE e55 kp
   apply Z00 56 hE k rfl rfl rfl rfl rfl e55
   case h =>
    exact Z02 rfl (hE.g e10)
   intro a130 hE e56 kp
   replace e55 := kt kp e55
   apply Z00 57 hE k rfl rfl rfl rfl rfl e55
   case h =>
    exact Z02 rfl e56
   intro a131 hE e57 kp
   replace e55 := kt kp e55
   apply Z00 58 hE k rfl rfl rfl rfl rfl e57
   case h =>
    exact Z02 rfl (hE.g e8)
   intro a132 hE e58 kp
   replace e55 := kt kp e55; replace e57 := kt kp e57
   apply Z00 59 hE k rfl rfl rfl rfl rfl e57
   case h =>
    exact Z0l rfl e58 rfl
   intro a133 hE e59 kp
   replace e55 := kt kp e55; replace e57 := kt kp e57
   apply Z00 60 hE k rfl rfl rfl rfl rfl e55
   case h =>
    exact Z06 rfl e57 e59
   intro a134 hE e60 kp
   replace e55 := kt kp e55
   refine sd 61 hE k (Z07 rfl e55 e60) ?_
   intro a135 hE e61 kp
   refine sd 6 hE k (Z03 rfl e61) ?_
   intro a136 hE e6 kp
   refine wpList_nil ?_
   replace k := k.env hE
   clear hE e0 e1 e7 e8 e9 e10
   refine Z01 ?_
   refine wp_ret ?_
   refine Z0d rfl k e6 ?_
   exact ⟨rfl, O.below⟩
theorem gridExact_walk (w : World) (v0 v1 v2 : Value) (h0 : Arg Tryd.prog w 9 v0) (h1 : Arg Tryd.prog w 3 v1) (h2 : Arg Tryd.prog w 22 v2) (hv : VarW w) :
 Calls Tryd.prog 3 #[v0, v1, v2] w fun e w' => e = .returned (.bool true) ∧ Below w.heap.size w w' := by
 obtain ⟨s, rfl, _⟩ := Z5i Tryd.underlying9 h0
 obtain ⟨x, rfl, _⟩ := arg_int Tryd.underlying3 h1
 obtain ⟨A, ca, X, rfl, _, hX⟩ := arg_txs h2
 rw [← Z5x s]
 exact Z2z _ x w hX hv
section
open Go.ChangeShapes Go.WideShapes Go.ChangeAt
theorem Arg.mk_ {P : Program} {w : World} {t : TypeId} {v : Value} {H : Type} {enc : TypeId × Value → H} {d : DataW H} {p : List MemPlace} {r : Reach} {base : Nat} (h : DataW.Trod enc P w 0 (fun _ => true) true t v d p) (hv : Value.okWide P w r base t v) : Arg P w t v := by
  obtain ⟨fuel, hf⟩ := h
  exact ⟨⟨H, enc, fuel, _, hf⟩, r, base, hv⟩
end
end Go.Proofs.YtgdlnfljfiageaaDoor
