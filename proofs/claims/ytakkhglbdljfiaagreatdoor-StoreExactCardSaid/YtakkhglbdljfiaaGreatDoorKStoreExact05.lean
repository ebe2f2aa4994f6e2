/- disc: has, Write, Read, Flush (printed by XDiscC.gen.py). -/
import Derived.Test.YtakkhglbdljfiaaGreatDoorKStoreExact04
namespace Go.Proofs.YtakkhglbdljfiaaGreatDoor
attribute [local simp] BigFrame.eval_const BigFrame.eval_global BigFrame.eval_func
set_option linter.unusedVariables false
set_option linter.unusedSimpArgs false
open Go.RowKit Go.Maps

def fitsB (n : Nat) (x k : Int) : Bool := decide (0 ≤ x ∧ 0 ≤ k ∧ x ≤ n ∧ k ≤ n - x)
set_option maxRecDepth 100000 in
set_option maxHeartbeats 4000000 in
theorem dhas_any {p mb n cap bm : Nat} {B : Option Addr} {S : List Sec} {L : Int → Option Sec} (x y : Int) (w : World) (h : DiscR p mb B n cap bm S L w) : Calls Tryz.prog 79 #[.pointer (some ⟨p, 0, none⟩), .int .i64 x, .int .i64 y] w fun e w' => e = .returned (.bool (fitsB n x y)) ∧ w = w' := by
 have c1 : w.cell? ⟨p, 1, none⟩ = some (.slice B n cap) := h.blk.cell 1
 have hn := h.ok.le
 clear h; by_cases h0 : 0 ≤ x
 rotate_left
 · skip
   refine Z0c Tryz.func79 rfl 33 rfl (by rfl) ?_
   intro a1 k hargs; have e0 : a1.eval (.tmp 0) = .pointer (some ⟨p, 0, none⟩) := hargs 0 _ rfl
   have e1 : a1.eval (.tmp 1) = .int .i64 x := hargs 1 _ rfl
   have e2 : a1.eval (.tmp 2) = .int .i64 y := hargs 2 _ rfl
   clear hargs; refine wp_seq ?_; refine wp_region_lit ?_
   have hE := Env.refl a1 [6]; refine sd 6 hE k (Z01 rfl rfl) ?_; intro a2 hE e6 kp; refine wpList_nil ?_; replace e0 := hE.g e0; replace e1 := hE.g e1; replace e2 := hE.g e2; replace k := k.env hE; clear hE e6; refine Z00 (wp_seq ?_); refine wp_region_lit ?_
   have hE := Env.refl a2 [7, 8, 9, 10, 11, 12, 13, 14, 15, 16, 17, 18, 19, 20, 21, 22, 23, 24, 25, 26, 27, 28, 29, 30, 31, 32, 6]; refine zm 7 hE k e1 ?_; intro a3 hE e7 kp; refine sd 8 hE k (Z08 (Z1l rfl e7 rfl) (decide_eq_false (by omega))) ?_
   intro a4 hE e8 kp; refine sd 9 hE k (Z02 rfl e8) ?_; intro a5 hE e9 kp; refine Z05 10 hE k rfl (by rfl) (by rfl) rfl rfl (.inl e9) ?_
   intro a6 hE e10 kp; replace e9 := kt kp e9; refine Z05 11 hE k rfl (by rfl) (by rfl) rfl rfl (.inl e9) ?_
   intro a7 hE e11 kp; replace e9 := kt kp e9; refine sd 12 hE k (Z09 rfl e9 rfl) ?_; intro a8 hE e12 kp; refine sd 13 hE k (Z02 rfl e12) ?_; intro a9 hE e13 kp; refine Z05 14 hE k rfl (by rfl) (by rfl) rfl rfl (.inl e13) ?_
   intro a10 hE e14 kp; replace e13 := kt kp e13; refine Z05 15 hE k rfl (by rfl) (by rfl) rfl rfl (.inl e13) ?_
   intro a11 hE e15 kp; replace e13 := kt kp e13; replace e14 := kt kp e14; refine Z05 16 hE k rfl (by rfl) (by rfl) rfl rfl (.inl e13) ?_
   intro a12 hE e16 kp; replace e13 := kt kp e13; replace e14 := kt kp e14; refine Z05 17 hE k rfl (by rfl) (by rfl) rfl rfl (.inl e13) ?_
   intro a13 hE e17 kp; replace e13 := kt kp e13; replace e14 := kt kp e14; refine Z05 18 hE k rfl (by rfl) (by rfl) rfl rfl (.inl e13) ?_
   intro a14 hE e18 kp; replace e13 := kt kp e13; replace e14 := kt kp e14; refine Z05 19 hE k rfl (by rfl) (by rfl) rfl rfl (.inl e13) ?_
   intro a15 hE e19 kp; replace e13 := kt kp e13; replace e14 := kt kp e14; refine Z05 20 hE k rfl (by rfl) (by rfl) rfl rfl (.inl e13) ?_
   intro a16 hE e20 kp; replace e13 := kt kp e13; refine sd 21 hE k (Z09 rfl e13 rfl) ?_; intro a17 hE e21 kp; refine sd 22 hE k (Z02 rfl e21) ?_; intro a18 hE e22 kp; refine Z05 23 hE k rfl (by rfl) (by rfl) rfl rfl (.inl e22) ?_
   intro a19 hE e23 kp; replace e22 := kt kp e22; refine Z05 24 hE k rfl (by rfl) (by rfl) rfl rfl (.inl e22) ?_
   intro a20 hE e24 kp; replace e22 := kt kp e22; replace e23 := kt kp e23; refine Z05 25 hE k rfl (by rfl) (by rfl) rfl rfl (.inl e22) ?_
   intro a21 hE e25 kp; replace e22 := kt kp e22; replace e23 := kt kp e23; refine Z05 26 hE k rfl (by rfl) (by rfl) rfl rfl (.inl e22) ?_
   intro a22 hE e26 kp; replace e22 := kt kp e22; replace e23 := kt kp e23; refine Z05 27 hE k rfl (by rfl) (by rfl) rfl rfl (.inl e22) ?_
   intro a23 hE e27 kp; replace e22 := kt kp e22; replace e23 := kt kp e23; refine Z05 28 hE k rfl (by rfl) (by rfl) rfl rfl (.inl e22) ?_
   intro a24 hE e28 kp; replace e22 := kt kp e22; replace e23 := kt kp e23; refine Z05 29 hE k rfl (by rfl) (by rfl) rfl rfl (.inl e22) ?_
   intro a25 hE e29 kp; replace e22 := kt kp e22; replace e23 := kt kp e23; replace e28 := kt kp e28; refine Z05 30 hE k rfl (by rfl) (by rfl) rfl rfl (.inl e22) ?_
   intro a26 hE e30 kp; replace e22 := kt kp e22; replace e23 := kt kp e23; refine Z05 31 hE k rfl (by rfl) (by rfl) rfl rfl (.inl e22) ?_
   intro a27 hE e31 kp; replace e22 := kt kp e22; refine sd 32 hE k (Z09 rfl e22 rfl) ?_; intro a28 hE e32 kp; refine sd 6 hE k (Z01 rfl e32) ?_; intro a29 hE e6 kp; refine wpList_nil ?_; replace k := k.env hE; clear hE e0 e1 e2; refine Z00 ?_; refine wp_ret ?_
   refine Z0k rfl k e6 ?_
   exact ⟨congrArg (fun b => Ending.returned (.bool b)) (show false = fitsB n x y from (decide_eq_false (by omega)).symm), rfl⟩
 by_cases h1 : 0 ≤ y
 rotate_left
 · skip
   refine Z0c Tryz.func79 rfl 33 rfl (by rfl) ?_
   intro a1 k hargs; have e0 : a1.eval (.tmp 0) = .pointer (some ⟨p, 0, none⟩) := hargs 0 _ rfl
   have e1 : a1.eval (.tmp 1) = .int .i64 x := hargs 1 _ rfl
   have e2 : a1.eval (.tmp 2) = .int .i64 y := hargs 2 _ rfl
   clear hargs; refine wp_seq ?_; refine wp_region_lit ?_
   have hE := Env.refl a1 [6]; refine sd 6 hE k (Z01 rfl rfl) ?_; intro a2 hE e6 kp; refine wpList_nil ?_; replace e0 := hE.g e0; replace e1 := hE.g e1; replace e2 := hE.g e2; replace k := k.env hE; clear hE e6; refine Z00 (wp_seq ?_); refine wp_region_lit ?_
   have hE := Env.refl a2 [7, 8, 9, 10, 11, 12, 13, 14, 15, 16, 17, 18, 19, 20, 21, 22, 23, 24, 25, 26, 27, 28, 29, 30, 31, 32, 6]; refine zm 7 hE k e1 ?_; intro a3 hE e7 kp; refine sd 8 hE k (Z08 (Z1l rfl e7 rfl) (decide_eq_true (by omega))) ?_
   intro a4 hE e8 kp; refine sd 9 hE k (Z02 rfl e8) ?_; intro a5 hE e9 kp; apply Z04 10 hE k rfl rfl rfl rfl rfl e9
   case h =>
    exact Z02 rfl (hE.g e2)
   intro a6 hE e10 kp; replace e9 := kt kp e9; apply Z04 11 hE k rfl rfl rfl rfl rfl e9
   case h =>
    exact Z08 (Z1l rfl e10 rfl) (decide_eq_false (by omega))
   intro a7 hE e11 kp; replace e9 := kt kp e9; refine sd 12 hE k (Z0b rfl e9 e11) ?_; intro a8 hE e12 kp; refine sd 13 hE k (Z02 rfl e12) ?_; intro a9 hE e13 kp; refine Z05 14 hE k rfl (by rfl) (by rfl) rfl rfl (.inl e13) ?_
   intro a10 hE e14 kp; replace e13 := kt kp e13; refine Z05 15 hE k rfl (by rfl) (by rfl) rfl rfl (.inl e13) ?_
   intro a11 hE e15 kp; replace e13 := kt kp e13; replace e14 := kt kp e14; refine Z05 16 hE k rfl (by rfl) (by rfl) rfl rfl (.inl e13) ?_
   intro a12 hE e16 kp; replace e13 := kt kp e13; replace e14 := kt kp e14; refine Z05 17 hE k rfl (by rfl) (by rfl) rfl rfl (.inl e13) ?_
   intro a13 hE e17 kp; replace e13 := kt kp e13; replace e14 := kt kp e14; refine Z05 18 hE k rfl (by rfl) (by rfl) rfl rfl (.inl e13) ?_
   intro a14 hE e18 kp; replace e13 := kt kp e13; replace e14 := kt kp e14; refine Z05 19 hE k rfl (by rfl) (by rfl) rfl rfl (.inl e13) ?_
   intro a15 hE e19 kp; replace e13 := kt kp e13; replace e14 := kt kp e14; refine Z05 20 hE k rfl (by rfl) (by rfl) rfl rfl (.inl e13) ?_
   intro a16 hE e20 kp; replace e13 := kt kp e13; refine sd 21 hE k (Z09 rfl e13 rfl) ?_; intro a17 hE e21 kp; refine sd 22 hE k (Z02 rfl e21) ?_; intro a18 hE e22 kp; refine Z05 23 hE k rfl (by rfl) (by rfl) rfl rfl (.inl e22) ?_
   intro a19 hE e23 kp; replace e22 := kt kp e22; refine Z05 24 hE k rfl (by rfl) (by rfl) rfl rfl (.inl e22) ?_
   intro a20 hE e24 kp; replace e22 := kt kp e22; replace e23 := kt kp e23; refine Z05 25 hE k rfl (by rfl) (by rfl) rfl rfl (.inl e22) ?_
   intro a21 hE e25 kp; replace e22 := kt kp e22; replace e23 := kt kp e23; refine Z05 26 hE k rfl (by rfl) (by rfl) rfl rfl (.inl e22) ?_
   intro a22 hE e26 kp; replace e22 := kt kp e22; replace e23 := kt kp e23; refine Z05 27 hE k rfl (by rfl) (by rfl) rfl rfl (.inl e22) ?_
   intro a23 hE e27 kp; replace e22 := kt kp e22; replace e23 := kt kp e23; refine Z05 28 hE k rfl (by rfl) (by rfl) rfl rfl (.inl e22) ?_
   intro a24 hE e28 kp; replace e22 := kt kp e22; replace e23 := kt kp e23; refine Z05 29 hE k rfl (by rfl) (by rfl) rfl rfl (.inl e22) ?_
   intro a25 hE e29 kp; replace e22 := kt kp e22; replace e23 := kt kp e23; replace e28 := kt kp e28; refine Z05 30 hE k rfl (by rfl) (by rfl) rfl rfl (.inl e22) ?_
   intro a26 hE e30 kp; replace e22 := kt kp e22; replace e23 := kt kp e23; refine Z05 31 hE k rfl (by rfl) (by rfl) rfl rfl (.inl e22) ?_
   intro a27 hE e31 kp; replace e22 := kt kp e22; refine sd 32 hE k (Z09 rfl e22 rfl) ?_; intro a28 hE e32 kp; refine sd 6 hE k (Z01 rfl e32) ?_; intro a29 hE e6 kp; refine wpList_nil ?_; replace k := k.env hE; clear hE e0 e1 e2; refine Z00 ?_; refine wp_ret ?_
   refine Z0k rfl k e6 ?_
   exact ⟨congrArg (fun b => Ending.returned (.bool b)) (show false = fitsB n x y from (decide_eq_false (by omega)).symm), rfl⟩
 by_cases h2 : x ≤ n
 rotate_left
 · skip
   refine Z0c Tryz.func79 rfl 33 rfl (by rfl) ?_
   intro a1 k hargs; have e0 : a1.eval (.tmp 0) = .pointer (some ⟨p, 0, none⟩) := hargs 0 _ rfl
   have e1 : a1.eval (.tmp 1) = .int .i64 x := hargs 1 _ rfl
   have e2 : a1.eval (.tmp 2) = .int .i64 y := hargs 2 _ rfl
   clear hargs; refine wp_seq ?_; refine wp_region_lit ?_
   have hE := Env.refl a1 [6]; refine sd 6 hE k (Z01 rfl rfl) ?_; intro a2 hE e6 kp; refine wpList_nil ?_; replace e0 := hE.g e0; replace e1 := hE.g e1; replace e2 := hE.g e2; replace k := k.env hE; clear hE e6; refine Z00 (wp_seq ?_); refine wp_region_lit ?_
   have hE := Env.refl a2 [7, 8, 9, 10, 11, 12, 13, 14, 15, 16, 17, 18, 19, 20, 21, 22, 23, 24, 25, 26, 27, 28, 29, 30, 31, 32, 6]; refine zm 7 hE k e1 ?_; intro a3 hE e7 kp; refine sd 8 hE k (Z08 (Z1l rfl e7 rfl) (decide_eq_true (by omega))) ?_
   intro a4 hE e8 kp; refine sd 9 hE k (Z02 rfl e8) ?_; intro a5 hE e9 kp; apply Z04 10 hE k rfl rfl rfl rfl rfl e9
   case h =>
    exact Z02 rfl (hE.g e2)
   intro a6 hE e10 kp; replace e9 := kt kp e9; apply Z04 11 hE k rfl rfl rfl rfl rfl e9
   case h =>
    exact Z08 (Z1l rfl e10 rfl) (decide_eq_true (by omega))
   intro a7 hE e11 kp; replace e9 := kt kp e9; refine sd 12 hE k (Z0b rfl e9 e11) ?_; intro a8 hE e12 kp; refine sd 13 hE k (Z02 rfl e12) ?_; intro a9 hE e13 kp; apply Z04 14 hE k rfl rfl rfl rfl rfl e13
   case h =>
    exact Z02 rfl (hE.g e1)
   intro a10 hE e14 kp; replace e13 := kt kp e13; apply Z04 15 hE k rfl rfl rfl rfl rfl e13
   case h =>
    exact Z02 rfl (hE.g e0)
   intro a11 hE e15 kp; replace e13 := kt kp e13; replace e14 := kt kp e14; apply Z04 16 hE k rfl rfl rfl rfl rfl e13
   case h =>
    exact Z0d rfl e15
   intro a12 hE e16 kp; replace e13 := kt kp e13; replace e14 := kt kp e14; apply Z04 17 hE k rfl rfl rfl rfl rfl e13
   case h =>
    simp [go_sem, ↓IntWalk.iteOmega, ev e16]
    with_reducible rfl
   intro a13 hE e17 kp; replace e13 := kt kp e13; replace e14 := kt kp e14; apply Z04 18 hE k rfl rfl rfl rfl rfl e13
   case h =>
    simp [go_sem, ↓IntWalk.iteOmega, ev e17, c1]
    with_reducible rfl
   intro a14 hE e18 kp; replace e13 := kt kp e13; replace e14 := kt kp e14; apply Z04 19 hE k rfl rfl rfl rfl rfl e13
   case h =>
    exact Z1w Tryz.underlying111 rfl e18
   intro a15 hE e19 kp; replace e13 := kt kp e13; replace e14 := kt kp e14; apply Z04 20 hE k rfl rfl rfl rfl rfl e13
   case h =>
    exact Z08 (Z81 rfl e14 e19) (decide_eq_false (by omega))
   intro a16 hE e20 kp; replace e13 := kt kp e13; refine sd 21 hE k (Z0b rfl e13 e20) ?_; intro a17 hE e21 kp; refine sd 22 hE k (Z02 rfl e21) ?_; intro a18 hE e22 kp; refine Z05 23 hE k rfl (by rfl) (by rfl) rfl rfl (.inl e22) ?_
   intro a19 hE e23 kp; replace e22 := kt kp e22; refine Z05 24 hE k rfl (by rfl) (by rfl) rfl rfl (.inl e22) ?_
   intro a20 hE e24 kp; replace e22 := kt kp e22; replace e23 := kt kp e23; refine Z05 25 hE k rfl (by rfl) (by rfl) rfl rfl (.inl e22) ?_
   intro a21 hE e25 kp; replace e22 := kt kp e22; replace e23 := kt kp e23; refine Z05 26 hE k rfl (by rfl) (by rfl) rfl rfl (.inl e22) ?_
   intro a22 hE e26 kp; replace e22 := kt kp e22; replace e23 := kt kp e23; refine Z05 27 hE k rfl (by rfl) (by rfl) rfl rfl (.inl e22) ?_
   intro a23 hE e27 kp; replace e22 := kt kp e22; replace e23 := kt kp e23; refine Z05 28 hE k rfl (by rfl) (by rfl) rfl rfl (.inl e22) ?_
   intro a24 hE e28 kp; replace e22 := kt kp e22; replace e23 := kt kp e23; refine Z05 29 hE k rfl (by rfl) (by rfl) rfl rfl (.inl e22) ?_
   intro a25 hE e29 kp; replace e22 := kt kp e22; replace e23 := kt kp e23; replace e28 := kt kp e28; refine Z05 30 hE k rfl (by rfl) (by rfl) rfl rfl (.inl e22) ?_
   intro a26 hE e30 kp; replace e22 := kt kp e22; replace e23 := kt kp e23; refine Z05 31 hE k rfl (by rfl) (by rfl) rfl rfl (.inl e22) ?_
   intro a27 hE e31 kp; replace e22 := kt kp e22; refine sd 32 hE k (Z09 rfl e22 rfl) ?_; intro a28 hE e32 kp; refine sd 6 hE k (Z01 rfl e32) ?_; intro a29 hE e6 kp; refine wpList_nil ?_; replace k := k.env hE; clear hE e0 e1 e2; refine Z00 ?_; refine wp_ret ?_
   refine Z0k rfl k e6 ?_
   exact ⟨congrArg (fun b => Ending.returned (.bool b)) (show false = fitsB n x y from (decide_eq_false (by omega)).symm), rfl⟩
 by_cases h3 : y ≤ n - x
 rotate_left
 · skip
   refine Z0c Tryz.func79 rfl 33 rfl (by rfl) ?_
   intro a1 k hargs; have e0 : a1.eval (.tmp 0) = .pointer (some ⟨p, 0, none⟩) := hargs 0 _ rfl
   have e1 : a1.eval (.tmp 1) = .int .i64 x := hargs 1 _ rfl
   have e2 : a1.eval (.tmp 2) = .int .i64 y := hargs 2 _ rfl
   clear hargs; refine wp_seq ?_; refine wp_region_lit ?_
   have hE := Env.refl a1 [6]; refine sd 6 hE k (Z01 rfl rfl) ?_; intro a2 hE e6 kp; refine wpList_nil ?_; replace e0 := hE.g e0; replace e1 := hE.g e1; replace e2 := hE.g e2; replace k := k.env hE; clear hE e6; refine Z00 (wp_seq ?_); refine wp_region_lit ?_
   have hE := Env.refl a2 [7, 8, 9, 10, 11, 12, 13, 14, 15, 16, 17, 18, 19, 20, 21, 22, 23, 24, 25, 26, 27, 28, 29, 30, 31, 32, 6]; refine zm 7 hE k e1 ?_; intro a3 hE e7 kp; refine sd 8 hE k (Z08 (Z1l rfl e7 rfl) (decide_eq_true (by omega))) ?_
   intro a4 hE e8 kp; refine sd 9 hE k (Z02 rfl e8) ?_; intro a5 hE e9 kp; apply Z04 10 hE k rfl rfl rfl rfl rfl e9
   case h =>
    exact Z02 rfl (hE.g e2)
   intro a6 hE e10 kp; replace e9 := kt kp e9; apply Z04 11 hE k rfl rfl rfl rfl rfl e9
   case h =>
    exact Z08 (Z1l rfl e10 rfl) (decide_eq_true (by omega))
   intro a7 hE e11 kp; replace e9 := kt kp e9; refine sd 12 hE k (Z0b rfl e9 e11) ?_; intro a8 hE e12 kp; refine sd 13 hE k (Z02 rfl e12) ?_; intro a9 hE e13 kp; apply Z04 14 hE k rfl rfl rfl rfl rfl e13
   case h =>
    exact Z02 rfl (hE.g e1)
   intro a10 hE e14 kp; replace e13 := kt kp e13; apply Z04 15 hE k rfl rfl rfl rfl rfl e13
   case h =>
    exact Z02 rfl (hE.g e0)
   intro a11 hE e15 kp; replace e13 := kt kp e13; replace e14 := kt kp e14; apply Z04 16 hE k rfl rfl rfl rfl rfl e13
   case h =>
    exact Z0d rfl e15
   intro a12 hE e16 kp; replace e13 := kt kp e13; replace e14 := kt kp e14; apply Z04 17 hE k rfl rfl rfl rfl rfl e13
   case h =>
    simp [go_sem, ↓IntWalk.iteOmega, ev e16]
    with_reducible rfl
   intro a13 hE e17 kp; replace e13 := kt kp e13; replace e14 := kt kp e14; apply Z04 18 hE k rfl rfl rfl rfl rfl e13
   case h =>
    simp [go_sem, ↓IntWalk.iteOmega, ev e17, c1]
    with_reducible rfl
   intro a14 hE e18 kp; replace e13 := kt kp e13; replace e14 := kt kp e14; apply Z04 19 hE k rfl rfl rfl rfl rfl e13
   case h =>
    exact Z1w Tryz.underlying111 rfl e18
   intro a15 hE e19 kp; replace e13 := kt kp e13; replace e14 := kt kp e14; apply Z04 20 hE k rfl rfl rfl rfl rfl e13
   case h =>
    exact Z08 (Z81 rfl e14 e19) (decide_eq_true (by omega))
   intro a16 hE e20 kp; replace e13 := kt kp e13; refine sd 21 hE k (Z0b rfl e13 e20) ?_; intro a17 hE e21 kp; refine sd 22 hE k (Z02 rfl e21) ?_; intro a18 hE e22 kp; apply Z04 23 hE k rfl rfl rfl rfl rfl e22
   case h =>
    exact Z02 rfl (hE.g e2)
   intro a19 hE e23 kp; replace e22 := kt kp e22; apply Z04 24 hE k rfl rfl rfl rfl rfl e22
   case h =>
    exact Z02 rfl (hE.g e0)
   intro a20 hE e24 kp; replace e22 := kt kp e22; replace e23 := kt kp e23; apply Z04 25 hE k rfl rfl rfl rfl rfl e22
   case h =>
    exact Z0d rfl e24
   intro a21 hE e25 kp; replace e22 := kt kp e22; replace e23 := kt kp e23; apply Z04 26 hE k rfl rfl rfl rfl rfl e22
   case h =>
    simp [go_sem, ↓IntWalk.iteOmega, ev e25]
    with_reducible rfl
   intro a22 hE e26 kp; replace e22 := kt kp e22; replace e23 := kt kp e23; apply Z04 27 hE k rfl rfl rfl rfl rfl e22
   case h =>
    simp [go_sem, ↓IntWalk.iteOmega, ev e26, c1]
    with_reducible rfl
   intro a23 hE e27 kp; replace e22 := kt kp e22; replace e23 := kt kp e23; apply Z04 28 hE k rfl rfl rfl rfl rfl e22
   case h =>
    exact Z1w Tryz.underlying111 rfl e27
   intro a24 hE e28 kp; replace e22 := kt kp e22; replace e23 := kt kp e23; apply Z04 29 hE k rfl rfl rfl rfl rfl e22
   case h =>
    exact Z02 rfl (hE.g e1)
   intro a25 hE e29 kp; replace e22 := kt kp e22; replace e23 := kt kp e23; replace e28 := kt kp e28; apply Z04 30 hE k rfl rfl rfl rfl rfl e22
   case h =>
    exact Z80 rfl e28 e29 (by omega)
   intro a26 hE e30 kp; replace e22 := kt kp e22; replace e23 := kt kp e23; apply Z04 31 hE k rfl rfl rfl rfl rfl e22
   case h =>
    exact Z08 (Z81 rfl e23 e30) (decide_eq_false (by omega))
   intro a27 hE e31 kp; replace e22 := kt kp e22; refine sd 32 hE k (Z0b rfl e22 e31) ?_; intro a28 hE e32 kp; refine sd 6 hE k (Z01 rfl e32) ?_; intro a29 hE e6 kp; refine wpList_nil ?_; replace k := k.env hE; clear hE e0 e1 e2; refine Z00 ?_; refine wp_ret ?_
   refine Z0k rfl k e6 ?_
   exact ⟨congrArg (fun b => Ending.returned (.bool b)) (show false = fitsB n x y from (decide_eq_false (by omega)).symm), rfl⟩
 refine Z0c Tryz.func79 rfl 33 rfl (by rfl) ?_
 intro a1 k hargs; have e0 : a1.eval (.tmp 0) = .pointer (some ⟨p, 0, none⟩) := hargs 0 _ rfl
 have e1 : a1.eval (.tmp 1) = .int .i64 x := hargs 1 _ rfl
 have e2 : a1.eval (.tmp 2) = .int .i64 y := hargs 2 _ rfl
 clear hargs; refine wp_seq ?_; refine wp_region_lit ?_
 have hE := Env.refl a1 [6]; refine sd 6 hE k (Z01 rfl rfl) ?_; intro a2 hE e6 kp; refine wpList_nil ?_; replace e0 := hE.g e0; replace e1 := hE.g e1; replace e2 := hE.g e2; replace k := k.env hE; clear hE e6; refine Z00 (wp_seq ?_); refine wp_region_lit ?_
 have hE := Env.refl a2 [7, 8, 9, 10, 11, 12, 13, 14, 15, 16, 17, 18, 19, 20, 21, 22, 23, 24, 25, 26, 27, 28, 29, 30, 31, 32, 6]; refine zm 7 hE k e1 ?_; intro a3 hE e7 kp; refine sd 8 hE k (Z08 (Z1l rfl e7 rfl) (decide_eq_true (by omega))) ?_
 intro a4 hE e8 kp; refine sd 9 hE k (Z02 rfl e8) ?_; intro a5 hE e9 kp; apply Z04 10 hE k rfl rfl rfl rfl rfl e9
 case h =>
  exact Z02 rfl (hE.g e2)
 intro a6 hE e10 kp; replace e9 := kt kp e9; apply Z04 11 hE k rfl rfl rfl rfl rfl e9
 case h =>
  exact Z08 (Z1l rfl e10 rfl) (decide_eq_true (by omega))
 intro a7 hE e11 kp; replace e9 := kt kp e9; refine sd 12 hE k (Z0b rfl e9 e11) ?_; intro a8 hE e12 kp; refine sd 13 hE k (Z02 rfl e12) ?_; intro a9 hE e13 kp; apply Z04 14 hE k rfl rfl rfl rfl rfl e13
 case h =>
  exact Z02 rfl (hE.g e1)
 intro a10 hE e14 kp; replace e13 := kt kp e13; apply Z04 15 hE k rfl rfl rfl rfl rfl e13
 case h =>
  exact Z02 rfl (hE.g e0)
 intro a11 hE e15 kp; replace e13 := kt kp e13; replace e14 := kt kp e14; apply Z04 16 hE k rfl rfl rfl rfl rfl e13
 case h =>
  exact Z0d rfl e15
 intro a12 hE e16 kp; replace e13 := kt kp e13; replace e14 := kt kp e14; apply Z04 17 hE k rfl rfl rfl rfl rfl e13
 case h =>
  simp [go_sem, ↓IntWalk.iteOmega, ev e16]
  with_reducible rfl
 intro a13 hE e17 kp; replace e13 := kt kp e13; replace e14 := kt kp e14; apply Z04 18 hE k rfl rfl rfl rfl rfl e13
 case h =>
  simp [go_sem, ↓IntWalk.iteOmega, ev e17, c1]
  with_reducible rfl
 intro a14 hE e18 kp; replace e13 := kt kp e13; replace e14 := kt kp e14; apply Z04 19 hE k rfl rfl rfl rfl rfl e13
 case h =>
  exact Z1w Tryz.underlying111 rfl e18
 intro a15 hE e19 kp; replace e13 := kt kp e13; replace e14 := kt kp e14; apply Z04 20 hE k rfl rfl rfl rfl rfl e13
 case h =>
  exact Z08 (Z81 rfl e14 e19) (decide_eq_true (by omega))
 intro a16 hE e20 kp; replace e13 := kt kp e13; refine sd 21 hE k (Z0b rfl e13 e20) ?_; intro a17 hE e21 kp; refine sd 22 hE k (Z02 rfl e21) ?_; intro a18 hE e22 kp; apply Z04 23 hE k rfl rfl rfl rfl rfl e22
 case h =>
  exact Z02 rfl (hE.g e2)
 intro a19 hE e23 kp; replace e22 := kt kp e22; apply Z04 24 hE k rfl rfl rfl rfl rfl e22
 case h =>
  exact Z02 rfl (hE.g e0)
 intro a20 hE e24 kp; replace e22 := kt kp e22; replace e23 := kt kp e23; apply Z04 25 hE k rfl rfl rfl rfl rfl e22
 case h =>
  exact Z0d rfl e24
 intro a21 hE e25 kp; replace e22 := kt kp e22; replace e23 := kt kp e23; apply Z04 26 hE k rfl rfl rfl rfl rfl e22
 case h =>
  simp [go_sem, ↓IntWalk.iteOmega, ev e25]
  with_reducible rfl
 intro a22 hE e26 kp; replace e22 := kt kp e22; replace e23 := kt kp e23; apply Z04 27 hE k rfl rfl rfl rfl rfl e22
 case h =>
  simp [go_sem, ↓IntWalk.iteOmega, ev e26, c1]
  with_reducible rfl
 intro a23 hE e27 kp; replace e22 := kt kp e22; replace e23 := kt kp e23; apply Z04 28 hE k rfl rfl rfl rfl rfl e22
 case h =>
  exact Z1w Tryz.underlying111 rfl e27
 intro a24 hE e28 kp; replace e22 := kt kp e22; replace e23 := kt kp e23; apply Z04 29 hE k rfl rfl rfl rfl rfl e22
 case h =>
  exact Z02 rfl (hE.g e1)
 intro a25 hE e29 kp; replace e22 := kt kp e22; replace e23 := kt kp e23; replace e28 := kt kp e28; apply Z04 30 hE k rfl rfl rfl rfl rfl e22
 case h =>
  exact Z80 rfl e28 e29 (by omega)
 intro a26 hE e30 kp; replace e22 := kt kp e22; replace e23 := kt kp e23; apply Z04 31 hE k rfl rfl rfl rfl rfl e22
 case h =>
  exact Z08 (Z81 rfl e23 e30) (decide_eq_true (by omega))
 intro a27 hE e31 kp; replace e22 := kt kp e22; refine sd 32 hE k (Z0b rfl e22 e31) ?_; intro a28 hE e32 kp; refine sd 6 hE k (Z01 rfl e32) ?_; intro a29 hE e6 kp; refine wpList_nil ?_; replace k := k.env hE; clear hE e0 e1 e2; refine Z00 ?_; refine wp_ret ?_
 refine Z0k rfl k e6 ?_
 exact ⟨congrArg (fun b => Ending.returned (.bool b)) (show true = fitsB n x y from (decide_eq_true (by omega)).symm), rfl⟩
set_option maxRecDepth 100000 in
set_option maxHeartbeats 4000000 in
theorem dwrite_go {H : Nat} {A0 : World} {R : List Thing} {p mb n cap bm : Nat} {B : Option Addr} {S : List Sec} {L : Int → Option Sec} {M : Mn} {c : Int} (x : Int) (l : List UInt8) (w : World) (O : OwnT H A0 (tDisc p mb B n cap bm S L :: tMn mb M :: R) w) (hl : l.length ≤ 1000000000000) (hm : l.length % 16 = 0) (hf : fitsB n x ((l.length / 16 : Nat) : Int) = true) (hM : M.Ok c) (hc : c ≤ 1000000000000) : Calls Tryz.prog 44 #[.pointer (some ⟨p, 0, none⟩), .int .i64 x, .string (sB l)] w fun e w' => ∃ j, j ≤ l.length / 16 ∧ (∀ i, i < j → (M.useN i).up = true) ∧ ((j = l.length / 16 ∧ e = .returned (.int .i64 0) ∧ OwnT H A0 (tDisc p mb B n cap bm S (wrS l x L j) :: tMn mb (M.useN j) :: R) w') ∨ (j < l.length / 16 ∧ (M.useN j).up = false ∧ e = .returned (.int .i64 4) ∧ OwnT H A0 (tDisc p mb B n cap bm S (wrS l x L j) :: tMn mb (M.useN (j + 1)) :: R) w')) := by
 have hk := O.dok
 have hnl := hk.le
 refine Z0c Tryz.func44 rfl 45 rfl (by rfl) ?_
 intro a1 k hargs; have e0 : a1.eval (.tmp 0) = .pointer (some ⟨p, 0, none⟩) := hargs 0 _ rfl
 have e1 : a1.eval (.tmp 1) = .int .i64 x := hargs 1 _ rfl
 have e2 : a1.eval (.tmp 2) = .string (sB l) := hargs 2 _ rfl
 clear hargs; have hf' := of_decide_eq_true hf
 refine wp_seq ?_; refine wp_region_lit ?_
 have hE := Env.refl a1 [6]; refine sd 6 hE k (Z01 rfl rfl) ?_; intro a2 hE e6 kp; refine wpList_nil ?_; replace e0 := hE.g e0; replace e1 := hE.g e1; replace e2 := hE.g e2; replace k := k.env hE; clear hE e6; refine Z00 (wp_seq ?_); refine wp_block ?_; refine wp_seq ?_; refine wp_region_lit ?_
 have hE := Env.refl a2 [9, 10, 8]; refine zm 9 hE k e0 ?_; intro a3 hE e9 kp; apply Z03 10 hE k rfl rfl rfl rfl; case h =>
  simp [go_sem, ↓IntWalk.iteOmega, ev e9]
  with_reducible rfl
 intro a4 hE e10 kp; refine sd 8 hE k (Z01 rfl e10) ?_; intro a5 hE e8 kp; refine wpList_nil ?_; replace e0 := hE.g e0; replace e1 := hE.g e1; replace e2 := hE.g e2; replace k := k.env hE; clear hE; refine Z00 ?_; refine Z07 e8 rfl ?_
 refine wp_seq ?_; refine wp_region_lit ?_
 have hE := Env.refl a5 [12, 13, 14, 15, 11]; refine zm 12 hE k e2 ?_; intro a6 hE e12 kp; refine sd 13 hE k (Z4r Tryz.underlying9 rfl e12) ?_; intro a7 hE e13 kp; refine sd 14 hE k (x_remN (m := l.length) (j := 16) rfl e13 rfl rfl (by decide)) ?_; intro a8 hE e14 kp; refine sd 15 hE k (Z08 (Z0x rfl e14 rfl) (decide_eq_false (by omega))) ?_
 intro a9 hE e15 kp; refine sd 11 hE k (Z01 rfl e15) ?_; intro a10 hE e11 kp; refine wpList_nil ?_; replace e0 := hE.g e0; replace e1 := hE.g e1; replace e2 := hE.g e2; replace k := k.env hE; clear hE e8; refine Z00 ?_; refine Z07 e11 rfl ?_
 refine wp_seq ?_; refine wp_region_lit ?_
 have hE := Env.refl a10 [17, 18, 19, 20, 21, 22, 23, 16]; refine zm 17 hE k e0 ?_; intro a11 hE e17 kp; refine zm 18 hE k e1 ?_; intro a12 hE e18 kp; replace e17 := kt kp e17; refine zm 19 hE k e2 ?_; intro a13 hE e19 kp; replace e17 := kt kp e17; replace e18 := kt kp e18; refine sd 20 hE k (Z4r Tryz.underlying9 rfl e19) ?_; intro a14 hE e20 kp; replace e17 := kt kp e17; replace e18 := kt kp e18; refine sd 21 hE k (x_quoN (m := l.length) (j := 16) rfl e20 rfl rfl (by decide) (by omega)) ?_; intro a15 hE e21 kp; replace e17 := kt kp e17; replace e18 := kt kp e18; apply Z06 22 hE k rfl (by rfl) (by rfl) rfl
 case h =>
  simp [go_sem, ↓IntWalk.iteOmega, ev e17, ev e18, ev e21]
  with_reducible exact ⟨rfl, rfl⟩
 case hc => exact dhas_any _ _ _ (OwnT.disc O)
 rintro e _ ⟨rfl, rfl⟩
 refine ⟨_, congrArg (fun b => Ending.returned (.bool b)) hf, ?_⟩
 intro a16 hE e22 kp; refine sd 23 hE k (Z15 rfl e22) ?_; intro a17 hE e23 kp; refine sd 16 hE k (Z01 rfl e23) ?_; intro a18 hE e16 kp; refine wpList_nil ?_; replace e0 := hE.g e0; replace e1 := hE.g e1; replace e2 := hE.g e2; replace k := k.env hE; clear hE e11; refine Z00 ?_; refine Z07 e16 rfl ?_
 refine wp_skip ?_; refine Z0f ?_; refine Z00 (wp_seq ?_); refine wp_block ?_; clear hf; refine wp_loop (fun a w => Fr 45 a ∧ a.eval (.tmp 0) = .pointer (some ⟨p, 0, none⟩) ∧ ∃ j : Nat, a.eval (.tmp 1) = .int .i64 (x + ↑j) ∧ a.eval (.tmp 2) = .string (sB (l.drop (16 * j))) ∧ j ≤ l.length / 16 ∧ (∀ i, i < j → (M.useN i).up = true) ∧ OwnT H A0 ((tDisc p mb B n cap bm S (wrS l x L j)) :: (tMn mb (M.useN j)) :: R) w) (fun a w => (x + ↑(l.length / 16) - intOf (a.eval (.tmp 1))).toNat) ?_ ?_
 · exact ⟨k, e0, 0, e1.trans (Z10 (by omega)), e2, Nat.zero_le _, (fun i hi => absurd hi (Nat.not_lt_zero _)), O⟩
 intro a19 w20 hI; clear k e0; obtain ⟨k, e0, h_⟩ := hI
 clear O e1 e2; obtain ⟨j, e1, e2, hj, hup, O⟩ := h_
 have m1 := e1
 have hd : (l.drop (16 * j)).length = l.length - 16 * j := List.length_drop

 by_cases hlt : j < l.length / 16
 · have hne : l.drop (16 * j) ≠ [] := fun e => by rw [e] at hd; simp at hd; omega
   refine wp_seq ?_; refine wp_seq ?_; refine wp_region_lit ?_
   have hE := Env.refl a19 [24, 25]; refine zm 24 hE k e2 ?_; intro a21 hE e24 kp; refine sd 25 hE k (Z08 (x_nes (l := l.drop (16 * j)) (m := []) rfl e24 rfl) (decide_eq_true hne)) ?_
   intro a22 hE e25 kp; refine wpList_nil ?_; replace e0 := hE.g e0; replace e1 := hE.g e1; replace e2 := hE.g e2; replace k := k.env hE; clear hE; refine Z00 ?_; refine Z0h e25 rfl ?_
   refine wp_skip ?_; refine Z00 (wp_seq ?_); refine wp_block ?_; by_cases hu : (M.useN j).up = true
   · skip
     refine wp_seq ?_; refine wp_seq ?_; refine wp_region_lit ?_
     have hE := Env.refl a22 [28, 29, 30, 31, 32, 7]; refine zm 28 hE k e0 ?_; intro a23 hE e28 kp; refine sd 29 hE k (Z0d rfl e28) ?_; intro a24 hE e29 kp; apply Z03 30 hE k rfl rfl rfl rfl; case h =>
      simp [go_sem, ↓IntWalk.iteOmega, ev e29]
      with_reducible rfl
     intro a25 hE e30 kp; apply Z03 31 hE k rfl rfl rfl rfl; case h =>
      have c0 : w20.cell? ⟨p, 0, none⟩ = some (.pointer (some ⟨mb, 0, none⟩)) := (OwnT.disc O).blk.cell 0
      simp [go_sem, ↓IntWalk.iteOmega, ev e30, c0]
      with_reducible rfl
     intro a26 hE e31 kp; apply Z06 32 hE k rfl (by rfl) (by rfl) rfl
     case h =>
      simp [go_sem, ↓IntWalk.iteOmega, ev e31]
      with_reducible exact ⟨rfl, rfl⟩
     case hc => exact Z6j O (hM.useN j) (by omega)
     clear O; rintro e w28 ⟨he, O⟩
     simp only [hu, if_true] at he
     refine ⟨_, he, ?_⟩
     intro a27 hE e32 kp; refine sd 7 hE k (Z01 rfl e32) ?_; intro a29 hE e7 kp; refine wpList_nil ?_; replace e0 := hE.g e0; replace e1 := hE.g e1; replace e2 := hE.g e2; replace k := k.env hE; clear hE e25; refine Z00 (wp_seq ?_); refine wp_region_lit ?_
     have hE := Env.refl a29 [33, 34]; refine zm 33 hE k e7 ?_; intro a30 hE e33 kp; refine sd 34 hE k (Z0x rfl e33 rfl) ?_; intro a31 hE e34 kp; refine wpList_nil ?_; replace e0 := hE.g e0; replace e1 := hE.g e1; replace e2 := hE.g e2; replace e7 := hE.g e7; replace k := k.env hE; clear hE; refine Z00 ?_; refine Z07 e34 rfl ?_
     refine wp_skip ?_; refine Z00 ?_; have hx : wfV (x + j) := Z4u (by omega) (by omega)
     refine wp_seq ?_; refine Z0l (R := Ext) (w0 := w28) [[], [0], [0, 1], [0, 1, 2], [], [], [5], rg 7] [36, 37, 38, 39, 40, 41, 42] Ext.refl (fun _ _ _ => Ext.trans) (Ext.drew _) (by kernel_rfl) ?_
     refine bd 36 k rfl rfl rfl (fun ax wx hE hR hF => Z02 rfl (hE.g e0)) ?_
     refine bd 37 k rfl rfl rfl (fun ax wx hE hR hF => have e36 := zhF hF 0 36 ml0; Z0d rfl e36) ?_
     apply bd 38 k rfl rfl rfl; case h =>
      intro ax wx hE hR hF; have e37 := zhF hF 1 37 ml0; simp [go_sem, ↓IntWalk.iteOmega, ev e37]
      with_reducible rfl
     apply bd 39 k rfl rfl rfl; case h =>
      intro ax wx hE hR hF; have e38 := zhF hF 2 38 ml0; have c2 : wx.cell? ⟨p, 2, none⟩ = some (.map (some bm)) := ((OwnT.disc O).ext hR).blk.cell 2
      simp [go_sem, ↓IntWalk.iteOmega, ev e38, c2]
      with_reducible rfl
     refine bd 40 k rfl rfl rfl (fun ax wx hE hR hF => Z02 rfl (hE.g e1)) ?_
     refine bd 41 k rfl rfl rfl (fun ax wx hE hR hF => Z02 rfl (hE.g e2)) ?_
     refine bd 42 k rfl rfl rfl (fun ax wx hE hR hF => have e41 := zhF hF 5 41 ml0; Z6g (l := l.drop (16 * j)) Tryz.underlying9 rfl e41 rfl 16 rfl (by omega)) ?_
     apply Build.stop
     refine ⟨by kernel_rfl, .inr ⟨by kernel_rfl, _, rfl, rfl, ?_⟩⟩
     intro a32 w33 hE R hF; have e39 : a32.eval (.tmp 39) = _ := hF 3 (det 39 _) ml3
     have e40 : a32.eval (.tmp 40) = _ := hF 4 (det 40 _) ml2
     have e42 : a32.eval (.tmp 42) = _ := hF 6 (det 42 _) ml0
     clear hF; replace O := OwnT.ext O R; clear R; refine Z87 (.tmp 39) (.tmp 40) (.tmp 42) 112 9 rfl Tryz.underlying112 (by decide) e39 (OwnT.disc O).map (c := x + j) e40 hx (u := .string (sB (secOf l j))) e42 ?_
     intro w9 hV hC; skip
     replace O := OwnT.mapSet2 (OwnT.openD O) hV hC
     rw [← looV_put] at O
     replace O : OwnT H A0 (tDisc p mb B n cap bm S (wrS l x L (j + 1)) :: tMn mb (M.useN (j + 1)) :: R) w9 := OwnT.closeD O (hk.wr (by omega) (by omega) (by omega))
     clear hV hC; replace e0 := hE.g e0; replace e1 := hE.g e1; replace e2 := hE.g e2; replace k := k.env hE; clear hE e7 e34 e39 e40 e42; refine Z00 ?_; refine wp_region_lit ?_
     have hE := Env.refl a32 [43, 44, 1]; refine sd 43 hE k (Z02 rfl e1) ?_; intro a34 hE e43 kp; replace e1 := kt kp e1; refine sd 44 hE k (Z1i rfl e43 rfl (by omega)) ?_; intro a35 hE e44 kp; replace e1 := kt kp e1; refine sd 1 hE k (Z01 rfl e44) ?_; intro a36 hE e1 kp; refine wpList_nil ?_; replace e0 := hE.g e0; replace e2 := hE.g e2; replace k := k.env hE; clear hE; refine Z0f ?_; refine Z00 ?_; refine wp_region_lit ?_
     have hE := Env.refl a36 [26, 27, 2]; refine sd 26 hE k (Z02 rfl e2) ?_; intro a37 hE e26 kp; replace e2 := kt kp e2; refine sd 27 hE k (Z6f (l := l.drop (16 * j)) Tryz.underlying9 rfl e26 rfl 16 rfl (by omega)) ?_
     intro a38 hE e27 kp; replace e2 := kt kp e2; refine sd 2 hE k (Z01 rfl e27) ?_; intro a39 hE e2 kp; refine wpList_nil ?_; replace e0 := hE.g e0; replace e1 := hE.g e1; replace k := k.env hE; clear hE; refine Z00 ?_; rw [List.drop_drop, show 16 * j + 16 = 16 * (j + 1) by omega] at e2
     rw [show x + (j : Int) + 1 = x + ((j + 1 : Nat) : Int) by omega] at e1
     refine ⟨⟨k, e0, j + 1, e1, e2, by omega, fun i hi => ?_, O⟩, ?_⟩
     · by_cases e : i = j
       · rw [e]; exact hu
       · exact hup i (by omega)
     · rw [e1, m1]; simp only [intOf]; omega
   · replace hu : (M.useN j).up = false := Bool.eq_false_iff.2 hu
     refine wp_seq ?_; refine wp_seq ?_; refine wp_region_lit ?_
     have hE := Env.refl a22 [28, 29, 30, 31, 32, 7]; refine zm 28 hE k e0 ?_; intro a40 hE e28 kp; refine sd 29 hE k (Z0d rfl e28) ?_; intro a41 hE e29 kp; apply Z03 30 hE k rfl rfl rfl rfl; case h =>
      simp [go_sem, ↓IntWalk.iteOmega, ev e29]
      with_reducible rfl
     intro a42 hE e30 kp; apply Z03 31 hE k rfl rfl rfl rfl; case h =>
      have c0 : w20.cell? ⟨p, 0, none⟩ = some (.pointer (some ⟨mb, 0, none⟩)) := (OwnT.disc O).blk.cell 0
      simp [go_sem, ↓IntWalk.iteOmega, ev e30, c0]
      with_reducible rfl
     intro a43 hE e31 kp; apply Z06 32 hE k rfl (by rfl) (by rfl) rfl
     case h =>
      simp [go_sem, ↓IntWalk.iteOmega, ev e31]
      with_reducible exact ⟨rfl, rfl⟩
     case hc => exact Z6j O (hM.useN j) (by omega)
     clear O; rintro e w45 ⟨he, O⟩
     simp only [hu, Bool.false_eq_true, if_false] at he
     refine ⟨_, he, ?_⟩
     intro a44 hE e32 kp; refine sd 7 hE k (Z01 rfl e32) ?_; intro a46 hE e7 kp; refine wpList_nil ?_; replace e0 := hE.g e0; replace e1 := hE.g e1; replace e2 := hE.g e2; replace k := k.env hE; clear hE e25; refine Z00 (wp_seq ?_); refine wp_region_lit ?_
     have hE := Env.refl a46 [33, 34]; refine zm 33 hE k e7 ?_; intro a47 hE e33 kp; refine sd 34 hE k (Z0x rfl e33 rfl) ?_; intro a48 hE e34 kp; refine wpList_nil ?_; replace e0 := hE.g e0; replace e1 := hE.g e1; replace e2 := hE.g e2; replace e7 := hE.g e7; replace k := k.env hE; clear hE; refine Z00 ?_; refine Z0h e34 rfl ?_
     refine wp_seq ?_; refine wp_region_lit ?_
     have hE := Env.refl a48 [35, 6]; refine zm 35 hE k e7 ?_; intro a49 hE e35 kp; refine sd 6 hE k (Z01 rfl e35) ?_; intro a50 hE e6 kp; refine wpList_nil ?_; replace k := k.env hE; clear hE e0 e1 e2 e7 e34; refine Z00 ?_; refine wp_ret ?_
     refine Z0m ?_
     refine Z12 ?_
     refine Z0m ?_
     refine Z0m ?_
     refine Z12 ?_
     refine Z0m ?_
     refine Z0k rfl k e6 ?_
     exact ⟨j, hj, hup, .inr ⟨hlt, hu, rfl, O⟩⟩
 · have hne : l.drop (16 * j) = [] := List.eq_nil_of_length_eq_zero (by omega)
   refine wp_seq ?_; refine wp_seq ?_; refine wp_region_lit ?_
   have hE := Env.refl a19 [24, 25]; refine zm 24 hE k e2 ?_; intro a51 hE e24 kp; refine sd 25 hE k (Z08 (x_nes (l := l.drop (16 * j)) (m := []) rfl e24 rfl) (decide_eq_false (fun h => h hne))) ?_
   intro a52 hE e25 kp; refine wpList_nil ?_; replace e0 := hE.g e0; replace e1 := hE.g e1; replace e2 := hE.g e2; replace k := k.env hE; clear hE; refine Z00 ?_; refine Z07 e25 rfl ?_
   refine wp_exit ?_
   refine Z0p ?_
   refine Z0p ?_
   refine Z11 ?_
   refine Z00 (wp_seq ?_); refine wp_region_lit ?_
   have hE := Env.refl a52 [6]; refine sd 6 hE k (Z01 rfl rfl) ?_; intro a53 hE e6 kp; refine wpList_nil ?_; replace k := k.env hE; clear hE e0 e1 e2 e25; refine Z00 ?_; refine wp_ret ?_
   refine Z0k rfl k e6 ?_
   exact ⟨j, hj, hup, .inl ⟨by omega, rfl, O⟩⟩
set_option maxRecDepth 100000 in
set_option maxHeartbeats 4000000 in
theorem Z6z {p mb n cap bm : Nat} {B : Option Addr} {S : List Sec} {L : Int → Option Sec} {M : Mn} (x y : Nat) (W0 : World) (h : DiscR p mb B n cap bm S L W0) (hm : (tMn mb M).holds W0) (hxy : x + y ≤ n) (ha : M.away = false) : Calls Tryz.prog 60 #[.pointer (some ⟨p, 0, none⟩), .int .i64 x, .int .i64 y] W0 fun e w' => e = .returned (.tuple #[.string (sB (readL S L x y)), .int .i64 0]) ∧ Ext W0 w' := by
 have hn := h.ok.le
 have O := OwnT.start W0
 have c0 : W0.cell? ⟨p, 0, none⟩ = some (.pointer (some ⟨mb, 0, none⟩)) := h.blk.cell 0
 have hf : fitsB n x y = true := decide_eq_true (by omega)
 refine Z0c Tryz.func60 rfl 38 rfl (by rfl) ?_
 intro a1 k hargs; have e0 : a1.eval (.tmp 0) = .pointer (some ⟨p, 0, none⟩) := hargs 0 _ rfl
 have e1 : a1.eval (.tmp 1) = .int .i64 ↑x := hargs 1 _ rfl
 have e2 : a1.eval (.tmp 2) = .int .i64 ↑y := hargs 2 _ rfl
 clear hargs; refine wp_seq ?_; refine wp_region_lit ?_
 have hE := Env.refl a1 [6, 7]; refine sd 6 hE k (Z01 rfl rfl) ?_; intro a2 hE e6 kp; refine sd 7 hE k (Z01 rfl rfl) ?_; intro a3 hE e7 kp; refine wpList_nil ?_; replace e0 := hE.g e0; replace e1 := hE.g e1; replace e2 := hE.g e2; replace k := k.env hE; clear hE e7; refine Z00 (wp_seq ?_); refine wp_block ?_; refine wp_seq ?_; refine wp_region_lit ?_
 have hE := Env.refl a3 [11, 12, 10]; refine zm 11 hE k e0 ?_; intro a4 hE e11 kp; apply Z03 12 hE k rfl rfl rfl rfl; case h =>
  simp [go_sem, ↓IntWalk.iteOmega, ev e11]
  with_reducible rfl
 intro a5 hE e12 kp; refine sd 10 hE k (Z01 rfl e12) ?_; intro a6 hE e10 kp; refine wpList_nil ?_; replace e0 := hE.g e0; replace e1 := hE.g e1; replace e2 := hE.g e2; replace k := k.env hE; clear hE; refine Z00 ?_; refine Z07 e10 rfl ?_
 refine wp_seq ?_; refine wp_region_lit ?_
 have hE := Env.refl a6 [14, 15, 16, 17, 18, 13]; refine zm 14 hE k e0 ?_; intro a7 hE e14 kp; refine zm 15 hE k e1 ?_; intro a8 hE e15 kp; replace e14 := kt kp e14; refine zm 16 hE k e2 ?_; intro a9 hE e16 kp; replace e14 := kt kp e14; replace e15 := kt kp e15; apply Z06 17 hE k rfl (by rfl) (by rfl) rfl
 case h =>
  simp [go_sem, ↓IntWalk.iteOmega, ev e14, ev e15, ev e16]
  with_reducible exact ⟨rfl, rfl⟩
 case hc => exact dhas_any _ _ _ h
 rintro e _ ⟨rfl, rfl⟩
 refine ⟨_, congrArg (fun b => Ending.returned (.bool b)) hf, ?_⟩
 intro a10 hE e17 kp; refine sd 18 hE k (Z15 rfl e17) ?_; intro a11 hE e18 kp; refine sd 13 hE k (Z01 rfl e18) ?_; intro a12 hE e13 kp; refine wpList_nil ?_; replace e0 := hE.g e0; replace e1 := hE.g e1; replace e2 := hE.g e2; replace k := k.env hE; clear hE e10; refine Z00 ?_; refine Z07 e13 rfl ?_
 refine wp_seq ?_; refine wp_region_lit ?_
 have hE := Env.refl a12 [20, 21, 22, 23, 24, 25, 19]; refine zm 20 hE k e0 ?_; intro a13 hE e20 kp; refine sd 21 hE k (Z0d rfl e20) ?_; intro a14 hE e21 kp; apply Z03 22 hE k rfl rfl rfl rfl; case h =>
  simp [go_sem, ↓IntWalk.iteOmega, ev e21]
  with_reducible rfl
 intro a15 hE e22 kp; apply Z03 23 hE k rfl rfl rfl rfl; case h =>
  simp [go_sem, ↓IntWalk.iteOmega, ev e22, c0]
  with_reducible rfl
 intro a16 hE e23 kp; apply Z06 24 hE k rfl (by rfl) (by rfl) rfl
 case h =>
  simp [go_sem, ↓IntWalk.iteOmega, ev e23]
  with_reducible exact ⟨rfl, rfl⟩
 case hc => exact on_mn hm
 rintro e _ ⟨rfl, rfl⟩
 refine ⟨_, congrArg (fun b => Ending.returned (.bool !b)) ha, ?_⟩
 intro a17 hE e24 kp; refine sd 25 hE k (Z15 rfl e24) ?_; intro a18 hE e25 kp; refine sd 19 hE k (Z01 rfl e25) ?_; intro a19 hE e19 kp; refine wpList_nil ?_; replace e0 := hE.g e0; replace e1 := hE.g e1; replace e2 := hE.g e2; replace k := k.env hE; clear hE e13; refine Z00 ?_; refine Z07 e19 rfl ?_
 refine wp_skip ?_; refine Z0f ?_; refine Z00 (wp_seq ?_); refine wp_region_lit ?_
 have hE := Env.refl a19 [8]; refine Z0v O (cs := #[.pointer none, .slice none 0 0]) (t := 130) 8 hE k rfl (by rfl) (by rfl) rfl (by simp [go_sem, ↓IntWalk.iteOmega]) ?_
 clear O; intro bb a20 w21 O hE e8 kp; refine wpList_nil ?_; replace e0 := hE.g e0; replace e1 := hE.g e1; replace e2 := hE.g e2; replace k := k.env hE; clear hE e19; refine Z00 ?_; replace O := OwnT.asWr O
 refine wp_seq ?_; refine wp_seq ?_; refine wp_region_lit ?_
 have hE := Env.refl a20 [26, 27]; refine zm 26 hE k e2 ?_; intro a22 hE e26 kp; refine sd 27 hE k (Z02 rfl rfl) ?_; intro a23 hE e27 kp; replace e26 := kt kp e26; refine wpList_nil ?_; replace e0 := hE.g e0; replace e1 := hE.g e1; replace e8 := hE.g e8; replace k := k.env hE; clear hE e2; refine Z00 ?_; refine wp_block ?_; refine wp_loop (fun a w => Fr 38 a ∧ a.eval (.tmp 0) = .pointer (some ⟨p, 0, none⟩) ∧ a.eval (.tmp 1) = .int .i64 ↑x ∧ a.eval (.tmp 8) = .pointer (some ⟨bb, 0, none⟩) ∧ a.eval (.tmp 26) = .int .i64 ↑y ∧ ∃ (j : Nat) (g : Option Nat), a.eval (.tmp 27) = .int .i64 ↑j ∧ j ≤ y ∧ OwnT W0.heap.size W0 [tWr bb g (readL S L x j)] w) (fun a w => y - (intOf (a.eval (.tmp 27))).toNat) ?_ ?_
 · exact ⟨k, e0, e1, e8, e26, 0, none, e27, Nat.zero_le _, O⟩
 intro a24 w25 hI; clear k e0 e1 e8 e26; obtain ⟨k, e0, e1, e8, e26, h_⟩ := hI
 clear O e27; obtain ⟨j, g, e27, hj, O⟩ := h_
 have m27 := e27

 refine wp_seq ?_; refine wp_region_lit ?_
 have hE := Env.refl a24 [28]; refine sd 28 hE k (Z0z rfl (hE.g e27) (hE.g e26)) ?_; intro a26 hE e28 kp; refine wpList_nil ?_; replace e0 := hE.g e0; replace e1 := hE.g e1; replace e8 := hE.g e8; replace e26 := hE.g e26; replace e27 := hE.g e27; replace k := k.env hE; clear hE; refine Z00 (wp_seq ?_); by_cases hlt : j < y
 · have hltI : (j : Int) < (y : Int) := by omega
   refine Z0h e28 (congrArg Value.bool (decide_eq_true (by omega))) ?_
   clear e28; refine wp_skip ?_; refine Z00 (wp_seq ?_); refine wp_block ?_; refine wp_seq ?_; refine wp_region_lit ?_
   have hE := Env.refl a26 [29, 9]; refine zm 29 hE k e27 ?_; intro a27 hE e29 kp; refine sd 9 hE k (Z01 rfl e29) ?_; intro a28 hE e9 kp; refine wpList_nil ?_; replace e0 := hE.g e0; replace e1 := hE.g e1; replace e8 := hE.g e8; replace e26 := hE.g e26; replace e27 := hE.g e27; replace k := k.env hE; clear hE; refine Z00 ?_; refine wp_region_lit ?_
   have hE := Env.refl a28 [30, 31, 32, 33, 34, 35]; refine zm 30 hE k e0 ?_; intro a29 hE e30 kp; refine zm 31 hE k e1 ?_; intro a30 hE e31 kp; replace e30 := kt kp e30; refine zm 32 hE k e9 ?_; intro a31 hE e32 kp; replace e30 := kt kp e30; replace e31 := kt kp e31; refine sd 33 hE k (Z1i rfl e31 e32 (by omega)) ?_; intro a32 hE e33 kp; replace e30 := kt kp e30; replace e33 := e33.trans (Z10 (show (x : Int) + (j : Int) = ((x + j : Nat) : Int) by omega))
   apply Z06 34 hE k rfl (by rfl) (by rfl) rfl
   case h =>
    simp [go_sem, ↓IntWalk.iteOmega, ev e30, ev e33]
    with_reducible exact ⟨rfl, rfl⟩
   case hc => exact dsector_any (x + j) _ (h.ext O.below) (by omega)
   rintro e _ ⟨rfl, rfl⟩
   refine ⟨_, rfl, ?_⟩
   intro a33 hE e34 kp; apply Z06 35 hE k rfl (by rfl) (by rfl) rfl
   case h =>
    simp [go_sem, ↓IntWalk.iteOmega, ev (hE.g e8), ev e34]
    with_reducible exact ⟨rfl, rfl⟩
   case hc => exact wr_string (nowAt S L ↑(x + j)) O (by rw [Z39 h.ok (by omega), Z5a h.ok (by omega)]; omega)
   clear O; rintro e w35 ⟨g', rfl, O⟩
   rw [← Z2s] at O
   refine ⟨_, rfl, ?_⟩
   intro a34 hE e35 kp; refine wpList_nil ?_; replace e0 := hE.g e0; replace e1 := hE.g e1; replace e8 := hE.g e8; replace e26 := hE.g e26; replace e27 := hE.g e27; replace k := k.env hE; clear hE e9 e35; refine Z0f ?_; refine Z00 ?_; refine wp_region_lit ?_
   have hE := Env.refl a34 [36, 27]; refine sd 36 hE k (Z1i rfl e27 rfl (by omega)) ?_; intro a36 hE e36 kp; replace e27 := kt kp e27; refine sd 27 hE k (Z02 rfl e36) ?_; intro a37 hE e27 kp; refine wpList_nil ?_; replace e0 := hE.g e0; replace e1 := hE.g e1; replace e8 := hE.g e8; replace e26 := hE.g e26; replace k := k.env hE; clear hE; refine Z00 ?_; refine ⟨⟨k, e0, e1, e8, e26, j + 1, g', e27, by omega, O⟩, ?_⟩
   rw [e27, m27]; simp only [intOf]; omega
 · have hltI : ¬ (j : Int) < (y : Int) := by omega
   refine Z07 e28 (congrArg Value.bool (decide_eq_false (by omega))) ?_
   clear e0 e1 e26 e27 e28; obtain rfl : j = y := by omega
   refine wp_exit ?_
   refine Z0p ?_
   refine Z0p ?_
   refine Z11 ?_
   refine Z00 (wp_seq ?_); refine wp_region_lit ?_
   have hE := Env.refl a26 [37, 6, 7]; apply Z06 37 hE k rfl (by rfl) (by rfl) rfl
   case h =>
    simp [go_sem, ↓IntWalk.iteOmega, ev (hE.g e8)]
    with_reducible exact ⟨rfl, rfl⟩
   case hc => exact wr_end O
   rintro e w39 ⟨rfl, hb⟩
   refine ⟨_, rfl, ?_⟩
   intro a38 hE e37 kp; refine sd 6 hE k (Z01 rfl e37) ?_; intro a40 hE e6 kp; refine sd 7 hE k (Z01 rfl rfl) ?_; intro a41 hE e7 kp; replace e6 := kt kp e6; refine wpList_nil ?_; replace k := k.env hE; clear hE e8; refine Z00 ?_; refine wp_ret ?_
   refine Z32 rfl k e6 e7 ?_
   exact ⟨rfl, hb⟩
set_option maxRecDepth 100000 in
set_option maxHeartbeats 4000000 in
theorem dflush_down {H : Nat} {A0 : World} {R : List Thing} {p mb n cap bm : Nat} {B : Option Addr} {S : List Sec} {L : Int → Option Sec} {M : Mn} {c : Int} (w : World) (O : OwnT H A0 (tDisc p mb B n cap bm S L :: tMn mb M :: R) w) (hM : M.Ok c) (hc : c ≤ 1000000000000) (hu : M.up = false) : Calls Tryz.prog 45 #[.pointer (some ⟨p, 0, none⟩)] w fun e w' => e = .returned (.int .i64 4) ∧ OwnT H A0 (tDisc p mb B n cap bm S L :: tMn mb M.use :: R) w' := by
 have hk := O.dok
 have hnl := hk.le
 have c0 : w.cell? ⟨p, 0, none⟩ = some (.pointer (some ⟨mb, 0, none⟩)) := (OwnT.disc O).blk.cell 0
 refine Z0c Tryz.func45 rfl 37 rfl (by rfl) ?_
 intro a1 k hargs; have e0 : a1.eval (.tmp 0) = .pointer (some ⟨p, 0, none⟩) := hargs 0 _ rfl
 clear hargs; refine wp_seq ?_; refine wp_region_lit ?_
 have hE := Env.refl a1 [2]; refine sd 2 hE k (Z01 rfl rfl) ?_; intro a2 hE e2 kp; refine wpList_nil ?_; replace e0 := hE.g e0; replace k := k.env hE; clear hE e2; refine Z00 (wp_seq ?_); refine wp_seq ?_; refine wp_region_lit ?_
 have hE := Env.refl a2 [6, 7]; refine zm 6 hE k e0 ?_; intro a3 hE e6 kp; apply Z03 7 hE k rfl rfl rfl rfl; case h =>
  simp [go_sem, ↓IntWalk.iteOmega, ev e6]
  with_reducible rfl
 intro a4 hE e7 kp; refine wpList_nil ?_; replace e0 := hE.g e0; replace k := k.env hE; clear hE; refine Z00 ?_; refine Z07 e7 rfl ?_
 refine wp_skip ?_; refine Z00 (wp_seq ?_); refine wp_seq ?_; refine wp_region_lit ?_
 have hE := Env.refl a4 [8, 9, 10, 11, 12, 3]; refine zm 8 hE k e0 ?_; intro a5 hE e8 kp; refine sd 9 hE k (Z0d rfl e8) ?_; intro a6 hE e9 kp; apply Z03 10 hE k rfl rfl rfl rfl; case h =>
  simp [go_sem, ↓IntWalk.iteOmega, ev e9]
  with_reducible rfl
 intro a7 hE e10 kp; apply Z03 11 hE k rfl rfl rfl rfl; case h =>
  simp [go_sem, ↓IntWalk.iteOmega, ev e10, c0]
  with_reducible rfl
 intro a8 hE e11 kp; apply Z06 12 hE k rfl (by rfl) (by rfl) rfl
 case h =>
  simp [go_sem, ↓IntWalk.iteOmega, ev e11]
  with_reducible exact ⟨rfl, rfl⟩
 case hc => exact Z6j O hM (by omega)
 clear O; rintro e w10 ⟨he, O⟩
 simp only [hu, Bool.false_eq_true, if_false] at he
 refine ⟨_, he, ?_⟩
 intro a9 hE e12 kp; refine sd 3 hE k (Z01 rfl e12) ?_; intro a11 hE e3 kp; refine wpList_nil ?_; replace e0 := hE.g e0; replace k := k.env hE; clear hE e7; refine Z00 (wp_seq ?_); refine wp_region_lit ?_
 have hE := Env.refl a11 [13, 14]; refine zm 13 hE k e3 ?_; intro a12 hE e13 kp; refine sd 14 hE k (Z0x rfl e13 rfl) ?_; intro a13 hE e14 kp; refine wpList_nil ?_; replace e0 := hE.g e0; replace e3 := hE.g e3; replace k := k.env hE; clear hE; refine Z00 ?_; refine Z0h e14 rfl ?_
 refine wp_seq ?_; refine wp_region_lit ?_
 have hE := Env.refl a13 [15, 2]; refine zm 15 hE k e3 ?_; intro a14 hE e15 kp; refine sd 2 hE k (Z01 rfl e15) ?_; intro a15 hE e2 kp; refine wpList_nil ?_; replace k := k.env hE; clear hE e0 e3 e14; refine Z00 ?_; refine wp_ret ?_
 refine Z0m ?_
 refine Z0k rfl k e2 ?_
 exact ⟨rfl, O⟩
set_option maxRecDepth 100000 in
set_option maxHeartbeats 4000000 in
theorem dflush_ok {H : Nat} {A0 : World} {R : List Thing} {p mb n cap bm : Nat} {B : Option Addr} {S : List Sec} {L : Int → Option Sec} {M : Mn} {c : Int} (w : World) (O : OwnT H A0 (tDisc p mb B n cap bm S L :: tMn mb M :: R) w) (hM : M.Ok c) (hc : c ≤ 1000000000000) (hu : M.up = true) : Calls Tryz.prog 45 #[.pointer (some ⟨p, 0, none⟩)] w fun e w' => e = .returned (.int .i64 0) ∧ OwnT H A0 (tDisc p mb B n cap bm (nowL S L) (fun _ => none) :: tMn mb M.use :: R) w' := by
 have hk := O.dok
 have hnl := hk.le
 have c0 : w.cell? ⟨p, 0, none⟩ = some (.pointer (some ⟨mb, 0, none⟩)) := (OwnT.disc O).blk.cell 0
 refine Z0c Tryz.func45 rfl 37 rfl (by rfl) ?_
 intro a1 k hargs; have e0 : a1.eval (.tmp 0) = .pointer (some ⟨p, 0, none⟩) := hargs 0 _ rfl
 clear hargs; refine wp_seq ?_; refine wp_region_lit ?_
 have hE := Env.refl a1 [2]; refine sd 2 hE k (Z01 rfl rfl) ?_; intro a2 hE e2 kp; refine wpList_nil ?_; replace e0 := hE.g e0; replace k := k.env hE; clear hE e2; refine Z00 (wp_seq ?_); refine wp_seq ?_; refine wp_region_lit ?_
 have hE := Env.refl a2 [6, 7]; refine zm 6 hE k e0 ?_; intro a3 hE e6 kp; apply Z03 7 hE k rfl rfl rfl rfl; case h =>
  simp [go_sem, ↓IntWalk.iteOmega, ev e6]
  with_reducible rfl
 intro a4 hE e7 kp; refine wpList_nil ?_; replace e0 := hE.g e0; replace k := k.env hE; clear hE; refine Z00 ?_; refine Z07 e7 rfl ?_
 refine wp_skip ?_; refine Z00 (wp_seq ?_); refine wp_seq ?_; refine wp_region_lit ?_
 have hE := Env.refl a4 [8, 9, 10, 11, 12, 3]; refine zm 8 hE k e0 ?_; intro a5 hE e8 kp; refine sd 9 hE k (Z0d rfl e8) ?_; intro a6 hE e9 kp; apply Z03 10 hE k rfl rfl rfl rfl; case h =>
  simp [go_sem, ↓IntWalk.iteOmega, ev e9]
  with_reducible rfl
 intro a7 hE e10 kp; apply Z03 11 hE k rfl rfl rfl rfl; case h =>
  simp [go_sem, ↓IntWalk.iteOmega, ev e10, c0]
  with_reducible rfl
 intro a8 hE e11 kp; apply Z06 12 hE k rfl (by rfl) (by rfl) rfl
 case h =>
  simp [go_sem, ↓IntWalk.iteOmega, ev e11]
  with_reducible exact ⟨rfl, rfl⟩
 case hc => exact Z6j O hM (by omega)
 clear O; rintro e w10 ⟨he, O⟩
 simp only [hu, if_true] at he
 refine ⟨_, he, ?_⟩
 intro a9 hE e12 kp; refine sd 3 hE k (Z01 rfl e12) ?_; intro a11 hE e3 kp; refine wpList_nil ?_; replace e0 := hE.g e0; replace k := k.env hE; clear hE e7; refine Z00 (wp_seq ?_); refine wp_region_lit ?_
 have hE := Env.refl a11 [13, 14]; refine zm 13 hE k e3 ?_; intro a12 hE e13 kp; refine sd 14 hE k (Z0x rfl e13 rfl) ?_; intro a13 hE e14 kp; refine wpList_nil ?_; replace e0 := hE.g e0; replace e3 := hE.g e3; replace k := k.env hE; clear hE; refine Z00 ?_; refine Z07 e14 rfl ?_
 refine wp_skip ?_; refine Z00 ?_; replace O := O.openD
 replace O : OwnT _ _ ((tBlk p 114 #[.pointer (some ⟨mb, 0, none⟩), .slice B n cap, .map (some bm)]) :: (tRow 9 1 (.slice B n cap) n (strsV S)) :: (tMap bm 16384 (looV L)) :: (tMn mb M.use) :: R) w10 := O
 refine wp_seq ?_; refine wp_seq ?_; refine wp_region_lit ?_
 have hE := Env.refl a13 [16, 17, 18, 19, 20]; refine zm 16 hE k e0 ?_; intro a14 hE e16 kp; refine sd 17 hE k (Z0d rfl e16) ?_; intro a15 hE e17 kp; apply Z03 18 hE k rfl rfl rfl rfl; case h =>
  simp [go_sem, ↓IntWalk.iteOmega, ev e17]
  with_reducible rfl
 intro a16 hE e18 kp; refine sd 19 hE k (Z0a O 0 rfl rfl e18 rfl Tryz.underlying112 rfl) ?_; intro a17 hE e19 kp; refine Z2l (o := ⟨some 20, _, _, _, _, _⟩) rfl (.tmp 19) 112 9 rfl Tryz.underlying112 e19 (OwnT.get O 2 rfl) ?_
 intro w9 cnt0 hr0 hE0 hs0; replace O := OwnT.rangeOn2 O hr0 hE0
 clear hr0 hE0 hs0; generalize w10.heap.size = r at O ⊢
 refine put_F 20 hE k (by rfl) (by rfl) ?_
 intro a18 hE e20 kp; refine wpList_nil ?_; replace e0 := hE.g e0; replace k := k.env hE; clear hE e3 e14; refine Z00 ?_; refine wp_block ?_; refine wp_loop (fun a w => Fr 37 a ∧ a.eval (.tmp 0) = .pointer (some ⟨p, 0, none⟩) ∧ a.eval (.tmp 20) = .pointer (some ⟨r, 0, none⟩) ∧ ∃ (left : Int → Bool) (cnt : Nat), OwnT H A0 ((tBlk p 114 #[.pointer (some ⟨mb, 0, none⟩), .slice B n cap, .map (some bm)]) :: (tRow 9 1 (.slice B n cap) n (strsV (mixL S L left))) :: (tVR bm r 16384 (looV L) left cnt) :: (tMn mb M.use) :: R) w) (fun a w => w.rangeLeft bm r) ?_ ?_
 · exact ⟨k, e0, e20, (fun i => (looV L i).isSome), cnt0, (by rw [mixL_start]; exact O)⟩
 intro a19 w20 hI; clear k e0 e20; obtain ⟨k, e0, e20, h_⟩ := hI
 clear O; obtain ⟨left, cnt, O⟩ := h_
 have hcnt := VR.left_eq (OwnT.get O 2 rfl)

 rcases VR.next (OwnT.get O 2 rfl) _ with ⟨hl, hrun⟩ | ⟨x, c, w9, cnt9, hwx, hlx, hmx, hr9, hlt9, hC9, hs9, hen, hrun⟩
 · replace O := OwnT.rangeEnd2 O
   rw [mixL_end (by have := hk.len; omega) hl] at O
   replace O : OwnT _ _ ((tBlk p 114 #[.pointer (some ⟨mb, 0, none⟩), .slice B n cap, .map (some bm)]) :: (tRow 9 1 (.slice B n cap) n (strsV (nowL S L))) :: (tMap bm 16384 (looV L)) :: (tMn mb M.use) :: R) w20 := O
   refine wp_seq ?_; refine wp_region_lit ?_
   have hE := Env.refl a19 [21, 22]; apply Z2a 21 hE k rfl (by rfl) (by rfl) rfl
   case h =>
    exact x_next rfl (hE.g e20) hrun
   intro a21 hE e21 kp; apply Z03 22 hE k rfl rfl rfl rfl; case h =>
    simp [go_sem, ↓IntWalk.iteOmega, ev e21]
    with_reducible rfl
   intro a22 hE e22 kp; refine wpList_nil ?_; replace e0 := hE.g e0; replace e20 := hE.g e20; replace k := k.env hE; clear hE; refine Z00 (wp_seq ?_); refine Z07 e22 rfl ?_
   refine wp_exit ?_
   refine Z0p ?_
   refine Z0p ?_
   refine Z11 ?_
   refine Z00 ?_; obtain ⟨w8, hcl, hV, hC⟩ := Z7p (OwnT.get O 2 rfl) 112 9 _ Tryz.underlying112
   refine wp_seq ?_; refine wp_region_lit ?_
   have hE := Env.refl a22 [33, 34, 35, 36]; refine zm 33 hE k e0 ?_; intro a23 hE e33 kp; refine sd 34 hE k (Z0d rfl e33) ?_; intro a24 hE e34 kp; apply Z03 35 hE k rfl rfl rfl rfl; case h =>
    simp [go_sem, ↓IntWalk.iteOmega, ev e34]
    with_reducible rfl
   intro a25 hE e35 kp; refine sd 36 hE k (Z0a O 0 rfl rfl e35 rfl Tryz.underlying112 rfl) ?_; intro a26 hE e36 kp; refine Z4l (w' := w8) rfl rfl (by exact x_clear rfl e36 hcl) ?_
   replace O := OwnT.mapSet2 O hV hC
   clear hV hC hcl; rw [← looV_none] at O
   replace O : OwnT H A0 (tDisc p mb B n cap bm (nowL S L) (fun _ => none) :: tMn mb M.use :: R) w8 := OwnT.closeD O hk.flush
   refine wpList_nil ?_; replace k := k.env hE; clear hE e0 e20 e22 e36; refine Z00 (wp_seq ?_); refine wp_region_lit ?_
   have hE := Env.refl a26 [2]; refine sd 2 hE k (Z01 rfl rfl) ?_; intro a27 hE e2 kp; refine wpList_nil ?_; replace k := k.env hE; clear hE; refine Z00 ?_; refine wp_ret ?_
   refine Z0k rfl k e2 ?_
   exact ⟨rfl, O⟩
 · have hL0 := looV_some hmx
   obtain ⟨s, hLs, rfl⟩ := hL0
   obtain ⟨⟨hx0, hx1⟩, hs16⟩ := hk.rng x s hLs
   obtain ⟨x, rfl⟩ := Int.eq_ofNat_of_zero_le hx0
   replace O := OwnT.rangeNext2 O hr9 hC9
   obtain ⟨g, cap', hB, -⟩ := Z7g (OwnT.get O 1 rfl) (by omega)
   injection hB with hB _ hcap
   subst hB hcap

   refine wp_seq ?_; refine wp_region_lit ?_
   have hE := Env.refl a19 [21, 22]; apply Z2a 21 hE k rfl (by rfl) (by rfl) rfl
   case h =>
    exact x_next rfl (hE.g e20) hrun
   intro a28 hE e21 kp; apply Z03 22 hE k rfl rfl rfl rfl; case h =>
    simp [go_sem, ↓IntWalk.iteOmega, ev e21]
    with_reducible rfl
   intro a29 hE e22 kp; refine wpList_nil ?_; replace e0 := hE.g e0; replace e20 := hE.g e20; replace k := k.env hE; clear hE; refine Z00 (wp_seq ?_); refine Z0h e22 rfl ?_
   refine wp_skip ?_; refine Z00 ?_; refine wp_block ?_; refine wp_seq ?_; refine wp_region_lit ?_
   have hE := Env.refl a29 [23, 24, 25, 4, 5]; refine sd 23 hE k (x_entry rfl (hE.g e20) hen) ?_; intro a30 hE e23 kp; apply Z03 24 hE k rfl rfl rfl rfl; case h =>
    simp [go_sem, ↓IntWalk.iteOmega, ev e23]
    with_reducible rfl
   intro a31 hE e24 kp; replace e23 := kt kp e23; apply Z03 25 hE k rfl rfl rfl rfl; case h =>
    simp [go_sem, ↓IntWalk.iteOmega, ev e23]
    with_reducible rfl
   intro a32 hE e25 kp; replace e24 := kt kp e24; refine sd 4 hE k (Z01 rfl e24) ?_; intro a33 hE e4 kp; replace e25 := kt kp e25; refine sd 5 hE k (Z01 rfl e25) ?_; intro a34 hE e5 kp; replace e4 := kt kp e4; refine wpList_nil ?_; replace e0 := hE.g e0; replace e20 := hE.g e20; replace k := k.env hE; clear hE e22; refine Z00 ?_; obtain ⟨hc, hfz⟩ := Z53 (OwnT.get O 1 rfl) (i := x) (List.getElem?_eq_getElem (by simp only [strsV, List.length_map, Z3h]; have := hk.len; omega))

   refine wp_region_lit ?_
   have hE := Env.refl a34 [26, 27, 28, 29, 30, 31, 32]; refine zm 26 hE k e0 ?_; intro a35 hE e26 kp; refine sd 27 hE k (Z0d rfl e26) ?_; intro a36 hE e27 kp; apply Z03 28 hE k rfl rfl rfl rfl; case h =>
    simp [go_sem, ↓IntWalk.iteOmega, ev e27]
    with_reducible rfl
   intro a37 hE e28 kp; refine sd 29 hE k (Z0a O 0 rfl rfl e28 rfl Tryz.underlying111 rfl) ?_; intro a38 hE e29 kp; refine zm 30 hE k e4 ?_; intro a39 hE e30 kp; replace e29 := kt kp e29; refine zm 31 hE k e5 ?_; intro a40 hE e31 kp; replace e29 := kt kp e29; replace e30 := kt kp e30; apply Z03 32 hE k rfl rfl rfl rfl; case h =>
    simp [go_sem, ↓IntWalk.iteOmega, ev e29, ev e30]
    with_reducible rfl
   intro a41 hE e32 kp; replace e31 := kt kp e31; refine Z2c (w' := (w9.setCell ⟨g, x, none⟩ (.string (sB s)))) hE rfl rfl ?_ ?_
   · simp [go_sem, ↓IntWalk.iteOmega, ev e32, ev e31, hc, hfz]
   replace O := OwnT.setRow1_1 O (i := x) (by omega) (.string (sB s))
   clear hc hfz hrun hen hC9 hr9; rw [← strsV_set, mixL_step hLs] at O
   generalize (w9.setCell ⟨g, x, none⟩ (.string (sB s))) = w42 at O ⊢
   refine wpList_nil ?_; replace e0 := hE.g e0; replace e20 := hE.g e20; replace k := k.env hE; clear hE e4 e5 e31 e32; refine Z0f ?_; refine Z00 ?_; refine ⟨⟨k, e0, e20, _, cnt9, O⟩, ?_⟩
   rw [hcnt, VR.left_eq (OwnT.get O 2 rfl)]; exact hlt9
end Go.Proofs.YtakkhglbdljfiaaGreatDoor
