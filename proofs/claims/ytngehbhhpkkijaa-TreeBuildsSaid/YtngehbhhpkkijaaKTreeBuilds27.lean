/- trees: Get (printed by XTrG.gen.py). -/
import Derived.Test.YtngehbhhpkkijaaKTreeBuilds19
namespace Go.Proofs.Ytngehbhhpkkijaa
attribute [local simp] BigFrame.eval_const BigFrame.eval_global BigFrame.eval_func
set_option linter.unusedVariables false
set_option linter.unusedSimpArgs false
open Go.RowKit Go.Maps

def lvM : Value → Nat
 | .int _ i => if i < 0 then 100 else i.toNat
 | _ => 0

set_option maxRecDepth 100000 in
set_option maxHeartbeats 4000000 in
theorem Z7f {H : Nat} {A0 : World} {R : List Thing} {sb cap : Nat} {room : Int} {B : Option Addr} {vs : List Value} {N : List Nd} {root ky m : Nat} {L : List (List Pr)} {g : List Nat} (w : World) (O : OwnT H A0 (shT sb room B cap vs N R) w) (hr : root = 0) : Calls Try.prog 19 #[.iface 24 (.pointer (some ⟨sb, 0, none⟩)), .int .i64 root, .int .u64 ky] w fun e w' => e = .returned (.tuple #[.int .u64 0, .bool false, .int .i64 0]) ∧ OwnT H A0 (shT sb room B cap vs N R) w' := by
 refine Z0c Try.func19 rfl 55 rfl (by rfl) ?_
 intro a1 k hargs
 have e0 : a1.eval (.tmp 0) = .iface 24 (.pointer (some ⟨sb, 0, none⟩)) := hargs 0 _ rfl
 have e1 : a1.eval (.tmp 1) = .int .i64 ↑root := hargs 1 _ rfl
 have e2 : a1.eval (.tmp 2) = .int .u64 ↑ky := hargs 2 _ rfl
 clear hargs
 refine wp_seq ?_
 refine wp_region_lit ?_
 have hE := Env.refl a1 [6, 7, 8]
 refine sd 6 hE k (Z01 rfl rfl) ?_
 intro a2 hE e6 kp
 refine sd 7 hE k (Z01 rfl rfl) ?_
 intro a3 hE e7 kp
 refine sd 8 hE k (Z01 rfl rfl) ?_
 intro a4 hE e8 kp
 refine wpList_nil ?_
 replace e0 := hE.g e0; replace e1 := hE.g e1; replace e2 := hE.g e2
 replace k := k.env hE
 clear hE e8
 refine Z00 (wp_seq ?_)
 refine wp_seq ?_
 refine wp_region_lit ?_
 have hE := Env.refl a4 [9]
 refine sd 9 hE k (Z01 rfl rfl) ?_
 intro a5 hE e9 kp
 refine wpList_nil ?_
 replace e0 := hE.g e0; replace e1 := hE.g e1; replace e2 := hE.g e2
 replace k := k.env hE
 clear hE
 refine Z00 ?_
 refine wp_block ?_
 refine wp_loop (fun a w => Fr 55 a ∧ a.eval (.tmp 0) = .iface 24 (.pointer (some ⟨sb, 0, none⟩)) ∧ a.eval (.tmp 1) = .int .i64 ↑root ∧ a.eval (.tmp 2) = .int .u64 ↑ky ∧ a.eval (.tmp 9) = .int .i64 (-1) ∧ OwnT H A0 ((tBlk sb 28 #[.slice B N.length cap, .int .i64 room]) :: (tRow 125 2 (.slice B N.length cap) N.length (leafV vs N)) :: (tPool vs N) :: R) w) (fun a w => 0) ?_ ?_
 · exact ⟨k, e0, e1, e2, e9, O⟩
 intro a6 w7 hI
 clear k e0 e1 e2 e9
 obtain ⟨k, e0, e1, e2, e9, h_⟩ := hI
 clear O
 rename_i O_; have O := h_
 refine wp_seq ?_
 refine wp_seq ?_
 refine wp_region_lit ?_
 have hE := Env.refl a6 [14, 15]
 refine zm 14 hE k e1 ?_
 intro a8 hE e14 kp
 refine sd 15 hE k (Z06 (Z1f rfl e14 rfl) (decide_eq_false (by omega))) ?_
 intro a9 hE e15 kp
 refine wpList_nil ?_
 replace e0 := hE.g e0; replace e1 := hE.g e1; replace e2 := hE.g e2; replace e9 := hE.g e9
 replace k := k.env hE
 clear hE
 refine Z00 ?_
 refine Z05 e15 rfl ?_
 refine wp_exit ?_
 refine Z0z ?_
 refine Z0z ?_
 refine Z1j ?_
 refine Z00 (wp_seq ?_)
 refine wp_region_lit ?_
 have hE := Env.refl a9 [6, 7, 8]
 refine sd 6 hE k (Z01 rfl rfl) ?_
 intro a10 hE e6 kp
 refine sd 7 hE k (Z01 rfl rfl) ?_
 intro a11 hE e7 kp
 replace e6 := kt kp e6
 refine sd 8 hE k (Z01 rfl rfl) ?_
 intro a12 hE e8 kp
 replace e6 := kt kp e6; replace e7 := kt kp e7
 refine wpList_nil ?_
 replace k := k.env hE
 clear hE e0 e1 e2 e9 e15
 refine Z00 ?_
 refine wp_ret ?_
 refine Z3f rfl k e6 e7 e8 ?_
 exact ⟨rfl, O⟩
set_option maxRecDepth 100000 in
set_option maxHeartbeats 4000000 in
theorem Z7g {H : Nat} {A0 : World} {R : List Thing} {sb cap : Nat} {room : Int} {B : Option Addr} {vs : List Value} {N : List Nd} {root ky m : Nat} {L : List (List Pr)} {g : List Nat} (w : World) (O : OwnT H A0 (shT sb room B cap vs N R) w) (hRT : RT m N root L g) (h7 : m ≤ 7) (hN : N.length ≤ 511) (hr : root ≠ 0) : Calls Try.prog 19 #[.iface 24 (.pointer (some ⟨sb, 0, none⟩)), .int .i64 root, .int .u64 ky] w fun e w' => e = .returned (.tuple #[.int .u64 ((lookP ky L.flatten).getD 0 : Nat), .bool (lookP ky L.flatten).isSome, .int .i64 0]) ∧ OwnT H A0 (shT sb room B cap vs N R) w' := by
 obtain ⟨l, hlm, hT, -⟩ : ∃ l, l ≤ m ∧ Tr N l root L g ∧ (0 < l → ∃ xs, ndAt N root = some (l, xs) ∧ 2 ≤ xs.length) := by
  rcases hRT.rt with ⟨h, _⟩ | h
  · exact absurd h hr
  · exact h
 have hu := hRT.up
 have hwf := hRT.wf
 obtain ⟨rs, hrs⟩ : ∃ r, lookP ky L.flatten = r := ⟨_, rfl⟩
 rw [hrs]
 refine Z0c Try.func19 rfl 55 rfl (by rfl) ?_
 intro a1 k hargs
 have e0 : a1.eval (.tmp 0) = .iface 24 (.pointer (some ⟨sb, 0, none⟩)) := hargs 0 _ rfl
 have e1 : a1.eval (.tmp 1) = .int .i64 ↑root := hargs 1 _ rfl
 have e2 : a1.eval (.tmp 2) = .int .u64 ↑ky := hargs 2 _ rfl
 clear hargs
 refine wp_seq ?_
 refine wp_region_lit ?_
 have hE := Env.refl a1 [6, 7, 8]
 refine sd 6 hE k (Z01 rfl rfl) ?_
 intro a2 hE e6 kp
 refine sd 7 hE k (Z01 rfl rfl) ?_
 intro a3 hE e7 kp
 refine sd 8 hE k (Z01 rfl rfl) ?_
 intro a4 hE e8 kp
 refine wpList_nil ?_
 replace e0 := hE.g e0; replace e1 := hE.g e1; replace e2 := hE.g e2
 replace k := k.env hE
 clear hE e8
 refine Z00 (wp_seq ?_)
 refine wp_seq ?_
 refine wp_region_lit ?_
 have hE := Env.refl a4 [9]
 refine sd 9 hE k (Z01 rfl rfl) ?_
 intro a5 hE e9 kp
 refine wpList_nil ?_
 replace e0 := hE.g e0; replace e1 := hE.g e1; replace e2 := hE.g e2
 replace k := k.env hE
 clear hE
 refine Z00 ?_
 refine wp_block ?_
 refine wp_loop (fun a w => Fr 55 a ∧ a.eval (.tmp 0) = .iface 24 (.pointer (some ⟨sb, 0, none⟩)) ∧ a.eval (.tmp 2) = .int .u64 ↑ky ∧ ∃ (q l : Nat) (lv : Int) (L1 : List (List Pr)) (g1 : List Nat), a.eval (.tmp 1) = .int .i64 ↑q ∧ a.eval (.tmp 9) = .int .i64 lv ∧ l ≤ m ∧ Tr N l q L1 g1 ∧ (lv < 0 ∨ lv = l) ∧ lookP ky L1.flatten = rs ∧ Up L1.flatten ∧ (∀ y ∈ L1.flatten, y.1 < 18446744073709551616 ∧ y.2 < 18446744073709551616) ∧ OwnT H A0 ((tBlk sb 28 #[.slice B N.length cap, .int .i64 room]) :: (tRow 125 2 (.slice B N.length cap) N.length (leafV vs N)) :: (tPool vs N) :: R) w) (fun a w => lvM (a.eval (.tmp 9))) ?_ ?_
 · exact ⟨k, e0, e2, root, l, -1, L, g, e1, e9, hlm, hT, .inl (by decide), hrs, hu, hwf, O⟩
 intro a6 w7 hI
 clear k e0 e2
 obtain ⟨k, e0, e2, h_⟩ := hI
 clear O e1 e9 hT hu hwf hrs hlm
 obtain ⟨q, l, lv, L1, g1, e1, e9, hlm, hT, hlv, hrs, hu, hwf, O⟩ := h_
 have mj := e9
 have hq1 : 1 ≤ q := by obtain ⟨r, e⟩ := Tr.one hT; exact (Tr.pages hT q (by rw [e]; simp)).1
 obtain ⟨xs, hnd, hne, h15, hux, hg, hxw⟩ := Z39 hT hu (by omega) hN hwf
 obtain ⟨n, hpl⟩ := Z4a xs ky (Z45 hux)
 have hn15 := hpl.le
 refine wp_seq ?_
 refine wp_seq ?_
 refine wp_region_lit ?_
 have hE := Env.refl a6 [14, 15]
 refine zm 14 hE k e1 ?_
 intro a8 hE e14 kp
 refine sd 15 hE k (Z06 (Z1f rfl e14 rfl) (decide_eq_true (by omega))) ?_
 intro a9 hE e15 kp
 refine wpList_nil ?_
 replace e0 := hE.g e0; replace e1 := hE.g e1; replace e2 := hE.g e2; replace e9 := hE.g e9
 replace k := k.env hE
 clear hE
 refine Z00 ?_
 refine Z0g e15 rfl ?_
 refine wp_skip ?_
 refine Z00 (wp_seq ?_)
 refine wp_block ?_
 refine wp_seq ?_
 refine wp_region_lit ?_
 have hE := Env.refl a9 [19, 20, 21, 22, 18, 23, 24, 10, 11]
 refine zm 19 hE k e0 ?_
 intro a10 hE e19 kp
 refine zm 20 hE k e1 ?_
 intro a11 hE e20 kp
 replace e19 := kt kp e19
 refine zm 21 hE k e9 ?_
 intro a12 hE e21 kp
 replace e19 := kt kp e19; replace e20 := kt kp e20
 apply Z08 22 hE k rfl (by rfl) (by rfl) rfl
 case h =>
  simp [go_sem, ↓IntWalk.iteOmega, ev e19, ev e20, ev e21]
  with_reducible exact ⟨rfl, rfl⟩
 case hc => exact tread _ O (by omega) hnd hg hne h15 (fun y hy => (hxw y hy).1) hlv
 clear O
 rintro e w14 ⟨v, rfl, O⟩
 obtain ⟨Bv, cv, rfl, hv1, hv2, -, hv3⟩ := Z0r (OwnT.t0 O)
 refine ⟨_, rfl, ?_⟩
 intro a13 hE e22 kp
 refine sd 18 hE k (Z03 rfl e22) ?_
 intro a15 hE e18 kp
 apply Z02 23 hE k rfl rfl rfl rfl
 case h =>
  simp [go_sem, ↓IntWalk.iteOmega, ev e18]
  with_reducible rfl
 intro a16 hE e23 kp
 replace e18 := kt kp e18
 apply Z02 24 hE k rfl rfl rfl rfl
 case h =>
  simp [go_sem, ↓IntWalk.iteOmega, ev e18]
  with_reducible rfl
 intro a17 hE e24 kp
 replace e23 := kt kp e23
 refine Z0k O (cs := #[.int .i64 0, .slice none 0 0]) (t := 125) 10 hE k rfl (by rfl) (by rfl) rfl (by simp [go_sem, ↓IntWalk.iteOmega]) ?_
 clear O
 intro lb a18 w19 O hE e10 kp
 replace e23 := kt kp e23; replace e24 := kt kp e24
 have q0 : w19.cell? ⟨lb, 0, none⟩ = some (.int .i64 0) := (OwnT.blk O 0 rfl).cell 0
 have z0 : w19.frozen? ⟨lb, 0, none⟩ = false := (OwnT.blk O 0 rfl).frozen 0
 have q1 : w19.cell? ⟨lb, 1, none⟩ = some (.slice none 0 0) := (OwnT.blk O 0 rfl).cell 1
 have z1 : w19.frozen? ⟨lb, 1, none⟩ = false := (OwnT.blk O 0 rfl).frozen 1
 refine Z0y (w' := ((w19.setCell ⟨lb, 0, none⟩ (.int .i64 ↑l)).setCell ⟨lb, 1, none⟩ (.slice Bv xs.length cv))) hE rfl rfl (by simp [go_sem, ↓IntWalk.iteOmega, ev e10, ev e23, q0, z0, q1, z1]) ?_
 replace O := OwnT.push 0 rfl (((OwnT.pull O 0 rfl).set 0 (.int .i64 ↑l)).set 1 (.slice Bv xs.length cv))
 clear q0 z0 q1 z1
 generalize ((w19.setCell ⟨lb, 0, none⟩ (.int .i64 ↑l)).setCell ⟨lb, 1, none⟩ (.slice Bv xs.length cv)) = w20 at O ⊢
 replace O : OwnT _ _ ((tBlk lb 125 #[.int .i64 ↑l, .slice Bv xs.length cv]) :: (tPs (.slice Bv xs.length cv) xs) :: (tBlk sb 28 #[.slice B N.length cap, .int .i64 room]) :: (tRow 125 2 (.slice B N.length cap) N.length (leafV vs N)) :: (tPool vs N) :: R) w20 := O
 refine sd 11 hE k (Z01 rfl e24) ?_
 intro a21 hE e11 kp
 replace e10 := kt kp e10
 refine wpList_nil ?_
 replace e0 := hE.g e0; replace e2 := hE.g e2
 replace k := k.env hE
 clear hE e1 e9 e15
 refine Z00 (wp_seq ?_)
 refine wp_seq ?_
 refine wp_region_lit ?_
 have hE := Env.refl a21 [25, 26]
 refine zm 25 hE k e11 ?_
 intro a22 hE e25 kp
 refine sd 26 hE k (Z06 (Z1f rfl e25 rfl) (decide_eq_false (by omega))) ?_
 intro a23 hE e26 kp
 refine wpList_nil ?_
 replace e0 := hE.g e0; replace e2 := hE.g e2; replace e10 := hE.g e10; replace e11 := hE.g e11
 replace k := k.env hE
 clear hE
 refine Z00 ?_
 refine Z05 e26 rfl ?_
 refine wp_skip ?_
 refine Z00 (wp_seq ?_)
 refine wp_region_lit ?_
 have hE := Env.refl a23 [28, 29, 9]
 apply Z02 28 hE k rfl rfl rfl rfl
 case h =>
  simp [go_sem, ↓IntWalk.iteOmega, ev (hE.g e10)]
  with_reducible rfl
 intro a24 hE e28 kp
 apply Z02 29 hE k rfl rfl rfl rfl
 case h =>
  have q0 : w20.cell? ⟨lb, 0, none⟩ = some (.int .i64 ↑l) := (OwnT.blk O 0 rfl).cell 0
  simp [go_sem, ↓IntWalk.iteOmega, ev e28, q0]
  with_reducible rfl
 intro a25 hE e29 kp
 refine sd 9 hE k (Z01 rfl e29) ?_
 intro a26 hE e9 kp
 refine wpList_nil ?_
 replace e0 := hE.g e0; replace e2 := hE.g e2; replace e10 := hE.g e10
 replace k := k.env hE
 clear hE e11 e26
 refine Z00 ?_
 obtain ⟨gv, ev⟩ : ∃ gv, Bv = some ⟨gv, 0, none⟩ := by
  obtain ⟨g2, c2, _, e2, _⟩ := Z17 (OwnT.get O 1 rfl : World.ownsRow _ 0 38 2 _ xs.length _) (List.length_pos_iff.2 hne)
  injection e2 with e2; exact ⟨g2, e2⟩
 subst ev
 obtain ⟨_, _, e2q, -, -, hrow, -⟩ := Z0r (OwnT.get O 1 rfl : (tPs (.slice (some ⟨gv, 0, none⟩) xs.length cv) xs).holds _)
 injection e2q with e2q _ e3q
 subst e2q e3q
 obtain ⟨bb, hbb⟩ : ∃ b, decide (n < xs.length ∧ keyAt xs n = ky) = b := ⟨_, rfl⟩
 by_cases hl0 : l = 0
 · skip
   have hL1 : L1.flatten = xs := by subst hl0; exact (Z56 (k := 0) hT hnd).2
   rw [hL1] at hrs
   refine wp_seq ?_
   refine wp_seq ?_
   refine wp_region_lit ?_
   have hE := Env.refl a26 [30, 31]
   refine zm 30 hE k e9 ?_
   intro a27 hE e30 kp
   refine sd 31 hE k (Z06 (Z0n rfl e30 rfl) (decide_eq_true (by omega))) ?_
   intro a28 hE e31 kp
   refine wpList_nil ?_
   replace e0 := hE.g e0; replace e2 := hE.g e2; replace e9 := hE.g e9; replace e10 := hE.g e10
   replace k := k.env hE
   clear hE
   refine Z00 ?_
   refine Z0g e31 rfl ?_
   refine wp_seq ?_
   refine wp_seq ?_
   refine wp_region_lit ?_
   have hE := Env.refl a28 [33, 34, 35, 32, 36, 37, 12, 13]
   apply Z02 33 hE k rfl rfl rfl rfl
   case h =>
    have q0 : w20.cell? ⟨lb, 0, none⟩ = some (.int .i64 ↑l) := (OwnT.blk O 0 rfl).cell 0
    have q1 : w20.cell? ⟨lb, 1, none⟩ = some (.slice (some ⟨gv, 0, none⟩) xs.length cv) := (OwnT.blk O 0 rfl).cell 1
    simp [go_sem, ↓IntWalk.iteOmega, ev (hE.g e10), q0, q1]
    with_reducible rfl
   intro a29 hE e33 kp
   refine zm 34 hE k e2 ?_
   intro a30 hE e34 kp
   replace e33 := kt kp e33
   apply Z08 35 hE k rfl (by rfl) (by rfl) rfl
   case h =>
    simp [go_sem, ↓IntWalk.iteOmega, ev e33, ev e34]
    with_reducible exact ⟨rfl, rfl⟩
   case hc => exact Z32 (l : Int) (some ⟨gv, 0, none⟩) xs.length cv xs _ rfl (by omega) hrow ky n hpl
   rintro e w32 ⟨rfl, RE⟩
   replace hrow := hrow.below RE
   replace O := OwnT.ext O RE
   refine ⟨_, congrArg (fun b => Ending.returned (.tuple #[.int .i64 (n : Int), .bool b])) hbb, ?_⟩
   intro a31 hE e35 kp
   refine sd 32 hE k (Z03 rfl e35) ?_
   intro a33 hE e32 kp
   apply Z02 36 hE k rfl rfl rfl rfl
   case h =>
    simp [go_sem, ↓IntWalk.iteOmega, ev e32]
    with_reducible rfl
   intro a34 hE e36 kp
   replace e32 := kt kp e32
   apply Z02 37 hE k rfl rfl rfl rfl
   case h =>
    simp [go_sem, ↓IntWalk.iteOmega, ev e32]
    with_reducible rfl
   intro a35 hE e37 kp
   replace e36 := kt kp e36
   refine sd 12 hE k (Z01 rfl e36) ?_
   intro a36 hE e12 kp
   replace e37 := kt kp e37
   refine sd 13 hE k (Z01 rfl e37) ?_
   intro a37 hE e13 kp
   replace e12 := kt kp e12
   refine wpList_nil ?_
   replace e10 := hE.g e10
   replace k := k.env hE
   clear hE e0 e2 e9 e31
   refine Z00 (wp_seq ?_)
   refine wp_region_lit ?_
   have hE := Env.refl a37 [38]
   refine zm 38 hE k e13 ?_
   intro a38 hE e38 kp
   refine wpList_nil ?_
   replace e10 := hE.g e10; replace e12 := hE.g e12
   replace k := k.env hE
   clear hE e13
   refine Z00 ?_
   cases bb with
   | true =>
    refine Z0g e38 (rfl) ?_
    clear e38
    have hy := of_decide_eq_true hbb
    obtain ⟨vl, hvl, hlk⟩ := look_yes hux hpl hy
    rw [hrs] at hlk
    subst hlk
    have hnI : (n : Int) < (xs.length : Int) := by omega
    have cy : w32.cell? ⟨gv, n * 2 + 1, none⟩ = some (.int .u64 (vl : Int)) := by
     obtain ⟨b, o, e, _, hc⟩ := hrow n _ hvl; injection e with e; injection e with e e'; subst e e'
     have := hc 1 _ rfl; simpa using this
    refine wp_seq ?_
    refine wp_region_lit ?_
    have hE := Env.refl a38 [39, 40, 41, 42, 43, 44, 6, 7, 8]
    apply Z02 39 hE k rfl rfl rfl rfl
    case h =>
     simp [go_sem, ↓IntWalk.iteOmega, ev (hE.g e10)]
     with_reducible rfl
    intro a39 hE e39 kp
    apply Z02 40 hE k rfl rfl rfl rfl
    case h =>
     have q0 : w32.cell? ⟨lb, 1, none⟩ = some (.slice (some ⟨gv, 0, none⟩) xs.length cv) := (OwnT.blk O 0 rfl).cell 1
     simp [go_sem, ↓IntWalk.iteOmega, ev e39, q0]
     with_reducible rfl
    intro a40 hE e40 kp
    refine zm 41 hE k e12 ?_
    intro a41 hE e41 kp
    replace e40 := kt kp e40
    apply Z02 42 hE k rfl rfl rfl rfl
    case h =>
     simp [go_sem, ↓IntWalk.iteOmega, ev e40, ev e41]
     with_reducible rfl
    intro a42 hE e42 kp
    apply Z02 43 hE k rfl rfl rfl rfl
    case h =>
     simp [go_sem, ↓IntWalk.iteOmega, ev e42]
     with_reducible rfl
    intro a43 hE e43 kp
    apply Z02 44 hE k rfl rfl rfl rfl
    case h =>
     simp [go_sem, ↓IntWalk.iteOmega, ev e43, cy]
     with_reducible rfl
    intro a44 hE e44 kp
    refine sd 6 hE k (Z01 rfl e44) ?_
    intro a45 hE e6 kp
    refine sd 7 hE k (Z01 rfl rfl) ?_
    intro a46 hE e7 kp
    replace e6 := kt kp e6
    refine sd 8 hE k (Z01 rfl rfl) ?_
    intro a47 hE e8 kp
    replace e6 := kt kp e6; replace e7 := kt kp e7
    refine wpList_nil ?_
    replace k := k.env hE
    clear hE e10 e12
    refine Z00 ?_
    refine wp_ret ?_
    refine Z0d ?_
    refine Z0d ?_
    refine Z0s ?_
    refine Z0d ?_
    refine Z0d ?_
    refine Z0s ?_
    refine Z0d ?_
    refine Z3f rfl k e6 e7 e8 ?_
    exact ⟨rfl, OwnT.pickR (L := [_, _, _, _, _]) (R := R) O [2, 3, 4] (by decide)⟩
   | false =>
    refine Z05 e38 (rfl) ?_
    clear e10 e12 e38
    have hy := of_decide_eq_false hbb
    have hlk := (look_no hux hpl hy).1
    rw [hrs] at hlk
    subst hlk
    refine wp_skip ?_
    refine Z00 (wp_seq ?_)
    refine wp_region_lit ?_
    have hE := Env.refl a38 [6, 7, 8]
    refine sd 6 hE k (Z01 rfl rfl) ?_
    intro a48 hE e6 kp
    refine sd 7 hE k (Z01 rfl rfl) ?_
    intro a49 hE e7 kp
    replace e6 := kt kp e6
    refine sd 8 hE k (Z01 rfl rfl) ?_
    intro a50 hE e8 kp
    replace e6 := kt kp e6; replace e7 := kt kp e7
    refine wpList_nil ?_
    replace k := k.env hE
    clear hE
    refine Z00 ?_
    refine wp_ret ?_
    refine Z0d ?_
    refine Z0s ?_
    refine Z0d ?_
    refine Z0d ?_
    refine Z0s ?_
    refine Z0d ?_
    refine Z3f rfl k e6 e7 e8 ?_
    exact ⟨rfl, OwnT.pickR (L := [_, _, _, _, _]) (R := R) O [2, 3, 4] (by decide)⟩
 · skip
   obtain ⟨l1, rfl⟩ : ∃ l1, l = l1 + 1 := ⟨l - 1, by omega⟩
   obtain ⟨A, y, Bk, LA, gA, Lx, gx, LB, gB, hxs, hAl, kA, kx, kB, hL, hgg, hlo, hhi⟩ := Z53 (k := ky) (n := n) hT hu hnd hpl
   obtain ⟨kn, hkn⟩ : ∃ k, kidN xs ky n = k := ⟨_, rfl⟩
   rw [hkn] at hAl
   have hkl : kn < xs.length := by rw [hxs]; simp; omega
   obtain ⟨cI, hcI⟩ : ∃ c : Int, (if n < xs.length ∧ keyAt xs n = ky then (n : Int) else (n : Int) - 1) = c := ⟨_, rfl⟩
   have hmx : max cI 0 = (kn : Int) := by rw [← hcI, ← hkn]; exact Z7u
   have hyk : xs[kn]? = some y := by rw [hxs, List.getElem?_append_right (by omega), hAl, Nat.sub_self]; rfl
   have hkI : (kn : Int) < (xs.length : Int) := by omega
   have hy5 : y.2 ≤ 511 := by obtain ⟨r, e⟩ := Tr.one kx; have := Tr.pages kx y.2 (by rw [e]; simp); omega
   have hux2 : Up Lx.flatten ∧ (∀ z ∈ Lx.flatten, z ∈ L1.flatten) ∧ lookP ky Lx.flatten = rs := by
    rw [hL, List.flatten_append, List.flatten_append] at hu hrs ⊢
    exact ⟨hu.app.2.1.app.1, fun z hz => by simp [hz], by rw [← hrs, Z4z (fun z hz => by have := hlo z hz; omega) (fun z hz => by have := hhi z hz; omega)]⟩

   refine wp_seq ?_
   refine wp_seq ?_
   refine wp_region_lit ?_
   have hE := Env.refl a26 [30, 31]
   refine zm 30 hE k e9 ?_
   intro a51 hE e30 kp
   refine sd 31 hE k (Z06 (Z0n rfl e30 rfl) (decide_eq_false (by omega))) ?_
   intro a52 hE e31 kp
   refine wpList_nil ?_
   replace e0 := hE.g e0; replace e2 := hE.g e2; replace e9 := hE.g e9; replace e10 := hE.g e10
   replace k := k.env hE
   clear hE
   refine Z00 ?_
   refine Z05 e31 rfl ?_
   refine wp_skip ?_
   refine Z00 ?_
   have hch : ∀ W, Ext w20 W → Calls Try.prog 60 #[.agg #[.int .i64 ((l1 + 1 : Nat) : Int), .slice (some ⟨gv, 0, none⟩) xs.length cv], .int .u64 ky] W fun e w' => e = .returned (.int .i64 cI) ∧ Ext W w' := fun W hR => hcI ▸ Z5a ((l1 + 1 : Nat) : Int) (some ⟨gv, 0, none⟩) xs.length cv xs W rfl (by omega) (hrow.below hR) ky n hpl
   refine wp_tail (w0 := w20) [[], [0], [], [], [2, 3], [2, 3, 4], [0, 1, 2, 3, 4, 5], [0, 1, 2, 3, 4, 5, 6], [0, 1, 2, 3, 4, 5, 6, 7], [0, 1, 2, 3, 4, 5, 6, 7, 8], [0, 1, 2, 3, 4, 5, 6, 7, 8, 9]] [45, 46, 47, 48, 49, 50, 51, 52, 53, 54] (by kernel_rfl) ?_
   apply BuildL.det 45 (fun _ w_ => Ext.refl w_) (fun _ _ h => h) (by rfl) (by rw [k.size]; rfl) rfl
   case h =>
    intro lx ax wx hE hR hF
    simp [go_sem, ↓IntWalk.iteOmega, ev (hE.g e10)]
    with_reducible rfl
   apply BuildL.det 46 (fun _ w_ => Ext.refl w_) (fun _ _ h => h) (by rfl) (by rw [k.size]; rfl) rfl
   case h =>
    intro lx ax wx hE hR hF
    have e45 := hF 0 (detL 0 45 _) (by decide) ml0
    have q0 : wx.cell? ⟨lb, 1, none⟩ = some (.slice (some ⟨gv, 0, none⟩) xs.length cv) := (OwnT.blk (OwnT.ext O hR) 0 rfl).cell 1
    simp [go_sem, ↓IntWalk.iteOmega, ev e45, q0]
    with_reducible rfl
   apply BuildL.det 47 (fun _ w_ => Ext.refl w_) (fun _ _ h => h) (by rfl) (by rw [k.size]; rfl) rfl
   case h =>
    intro lx ax wx hE hR hF
    have q0 : wx.cell? ⟨lb, 0, none⟩ = some (.int .i64 (↑(l1 + 1))) := (OwnT.blk (OwnT.ext O hR) 0 rfl).cell 0
    have q1 : wx.cell? ⟨lb, 1, none⟩ = some (.slice (some ⟨gv, 0, none⟩) xs.length cv) := (OwnT.blk (OwnT.ext O hR) 0 rfl).cell 1
    simp [go_sem, ↓IntWalk.iteOmega, ev (hE.g e10), q0, q1]
    with_reducible rfl
   apply BuildL.det 48 (fun _ w_ => Ext.refl w_) (fun _ _ h => h) (by rfl) (by rw [k.size]; rfl) rfl
   case h =>
    intro lx ax wx hE hR hF
    exact Z03 rfl (hE.g e2)
   apply BuildL.call 49 (by rfl) (by rw [k.size]; rfl) rfl
   case h =>
    intro lx ax wx hE hR hF
    have e47 := hF 2 (detL 2 47 _) (by decide) ml1
    have e48 := hF 3 (detL 3 48 _) (by decide) ml0
    simp [go_sem, ↓IntWalk.iteOmega, ev e47, ev e48]
    with_reducible exact ⟨rfl, rfl⟩
   case hc => intro lx wx hR _ _; exact (hch wx hR).mono (fun e w' h => ⟨h.1, h.2, Ext.trans hR h.2⟩)
   apply BuildL.det 50 (fun _ w_ => Ext.refl w_) (fun _ _ h => h) (by rfl) (by rw [k.size]; rfl) rfl
   case h =>
    intro lx ax wx hE hR hF
    have e49 := hF 4 (detL 4 49 _) (by decide) ml0
    exact Z16 (v := .int .i64 (kn : Int)) (x_max rfl e49 rfl) (Z0h hmx)
   apply BuildL.det 51 (fun _ w_ => Ext.refl w_) (fun _ _ h => h) (by rfl) (by rw [k.size]; rfl) rfl
   case h =>
    intro lx ax wx hE hR hF
    have e46 := hF 1 (detL 1 46 _) (by decide) ml4
    have e50 := hF 5 (detL 5 50 _) (by decide) ml0
    simp [go_sem, ↓IntWalk.iteOmega, ev e46, ev e50]
    with_reducible rfl
   apply BuildL.det 52 (fun _ w_ => Ext.refl w_) (fun _ _ h => h) (by rfl) (by rw [k.size]; rfl) rfl
   case h =>
    intro lx ax wx hE hR hF
    have e51 := hF 6 (detL 6 51 _) (by decide) ml0
    simp [go_sem, ↓IntWalk.iteOmega, ev e51]
    with_reducible rfl
   apply BuildL.det 53 (fun _ w_ => Ext.refl w_) (fun _ _ h => h) (by rfl) (by rw [k.size]; rfl) rfl
   case h =>
    intro lx ax wx hE hR hF
    have e52 := hF 7 (detL 7 52 _) (by decide) ml0
    have cy : wx.cell? ⟨gv, kn * 2 + 1, none⟩ = some (.int .u64 (y.2 : Int)) := by obtain ⟨b, o, e, _, hc⟩ := (hrow.below hR) kn y hyk; injection e with e; injection e with e e'; subst e e'; have := hc 1 _ rfl; simpa using this
    simp [go_sem, ↓IntWalk.iteOmega, ev e52, cy]
    with_reducible rfl
   apply BuildL.det 54 (fun _ w_ => Ext.refl w_) (fun _ _ h => h) (by rfl) (by rw [k.size]; rfl) rfl
   case h =>
    intro lx ax wx hE hR hF
    have e53 := hF 8 (detL 8 53 _) (by decide) ml0
    exact Z1w rfl e53 (Z23 y.2 _ (by omega))
   apply BuildL.stop
   refine ⟨by kernel_rfl, ?_⟩
   intro lx a53 w54 hE R hL hF
   have e54 : a53.eval (.tmp 54) = _ := hF 9 (detL 9 54 _) ml0
   clear hF hL
   replace O := OwnT.ext O R
   clear R
   simp only [List.length_cons, List.length_nil, Nat.zero_add, Nat.reduceAdd, List.drop_succ_cons, List.drop_zero, List.drop_nil, tailOps]
   apply Z88 (w' := w54) 1 [45, 46, 47, 48, 49, 50, 51, 52, 53, 54, 1] hE k rfl (by rfl) (by rfl) (by rfl)
   case h =>
    exact Z01 rfl e54
   intro a55 hE e1 kp
   replace e0 := hE.g e0; replace e2 := hE.g e2; replace e9 := hE.g e9
   replace k := k.env hE
   clear hE e10 e31
   refine Z0t ?_
   refine Z00 ?_
   refine wp_region_lit ?_
   have hE := Env.refl a55 [16, 17, 9]
   refine sd 16 hE k (Z03 rfl e9) ?_
   intro a56 hE e16 kp
   replace e9 := kt kp e9
   refine sd 17 hE k (Z2t rfl e16 rfl (by omega)) ?_
   intro a57 hE e17 kp
   replace e9 := kt kp e9
   replace e17 := e17.trans (Z0h (show ((l1 + 1 : Nat) : Int) - 1 = (l1 : Int) by omega))
   refine sd 9 hE k (Z01 rfl e17) ?_
   intro a58 hE e9 kp
   refine wpList_nil ?_
   replace e0 := hE.g e0; replace e1 := hE.g e1; replace e2 := hE.g e2
   replace k := k.env hE
   clear hE
   refine Z00 ?_
   refine ⟨⟨k, e0, e2, y.2, l1, (l1 : Int), Lx, gx, e1, e9, by omega, kx, .inr rfl, hux2.2.2, hux2.1, fun z hz => hwf z (hux2.2.1 z hz), OwnT.pickR (L := [_, _, _, _, _]) (R := R) O [2, 3, 4] (by decide)⟩, ?_⟩
   rw [e9, mj]
   show (if (l1 : Int) < 0 then 100 else (l1 : Int).toNat) < (if lv < 0 then 100 else lv.toNat)
   split <;> split <;> omega
theorem tGet {H : Nat} {A0 : World} {R : List Thing} {sb cap : Nat} {room : Int} {B : Option Addr} {vs : List Value} {N : List Nd} {root ky m : Nat} {L : List (List Pr)} {g : List Nat} (w : World) (O : OwnT H A0 (shT sb room B cap vs N R) w) (hRT : RT m N root L g) (h7 : m ≤ 7) (hN : N.length ≤ 511) : Calls Try.prog 19 #[.iface 24 (.pointer (some ⟨sb, 0, none⟩)), .int .i64 root, .int .u64 ky] w fun e w' => e = .returned (.tuple #[.int .u64 ((lookP ky L.flatten).getD 0 : Nat), .bool (lookP ky L.flatten).isSome, .int .i64 0]) ∧ OwnT H A0 (shT sb room B cap vs N R) w' := by
 by_cases hr : root = 0
 · have hL : L = [] := by
    rcases hRT.rt with ⟨_, h, _⟩ | ⟨l, _, hT, _⟩
    · exact h
    · obtain ⟨r, e⟩ := Tr.one hT; have := Tr.pages hT root (by rw [e]; simp); omega
   subst hL
   exact Z7f (m := 0) (L := []) (g := []) w O hr
 · exact Z7g w O hRT h7 hN hr
end Go.Proofs.Ytngehbhhpkkijaa
