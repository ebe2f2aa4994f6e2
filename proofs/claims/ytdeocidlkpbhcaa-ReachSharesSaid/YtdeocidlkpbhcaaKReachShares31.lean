/- trees: drop (printed by XTrDp.gen.py). -/
import Derived.Test.YtdeocidlkpbhcaaKReachShares17
import Derived.Test.YtdeocidlkpbhcaaKReachShares29
import Derived.Test.YtdeocidlkpbhcaaKReachShares30
namespace Go.Proofs.Ytdeocidlkpbhcaa
attribute [local simp] BigFrame.eval_const BigFrame.eval_global BigFrame.eval_func
set_option linter.unusedVariables false
set_option linter.unusedSimpArgs false
open Go.RowKit Go.Maps

/-- What 'drop' brings. -/
def DropE (N N' : List Nd) (room : Int) (l k : Nat) (L : List (List Pr)) (g : List Nat) (lv : Int) (os : List Pr) (ok : Bool) (er : Int) : Prop :=
 (er = 0 ∧ ok = false ∧ N' = N ∧ lookP k L.flatten = none) ∨
 (er = 6 ∧ ok = false ∧ (lookP k L.flatten).isSome = true ∧ (∃ M, N' = N ++ M ∧ M.length ≤ l) ∧ ¬ (N.length + l ≤ 511 ∧ ((N.length + l : Nat) : Int) ≤ room)) ∨
 (er = 0 ∧ ok = true ∧ lv = l ∧ (lookP k L.flatten).isSome = true ∧ DelR N N' l k L g os)
theorem perm3 {α : Type} (X : List α) (a b c : α) (T : List α) : (X ++ a :: b :: c :: T).Perm (a :: b :: c :: (X ++ T)) :=
 List.perm_middle.trans ((List.perm_middle.trans (List.perm_middle.cons _)).cons _)
theorem perm4 {α : Type} (X : List α) (a b c d : α) (T : List α) : (X ++ a :: b :: c :: d :: T).Perm (a :: b :: c :: d :: (X ++ T)) :=
 List.perm_middle.trans ((perm3 X b c d T).cons _)

set_option maxRecDepth 100000 in
set_option maxHeartbeats 4000000 in
theorem Z6x {H : Nat} {A0 : World} {R : List Thing} {sb cap : Nat} {room : Int} {B : Option Addr} {vs : List Value} {N : List Nd} {l p ky : Nat} {L : List (List Pr)} {g : List Nat} {q0 : Int} (w : World) (O : OwnT H A0 (shT sb room B cap vs N R) w) (hT : Tr N l p L g) (hu : Up L.flatten) (hgn : g.Nodup) (h7 : l ≤ 7) (hN : N.length ≤ 511) (hwf : ∀ y ∈ L.flatten, y.1 < 18446744073709551616 ∧ y.2 < 18446744073709551616) (h0 : q0 < 0 ∨ q0 = l) (hl0 : l = 0) : Calls Try.prog 16 #[.iface 24 (.pointer (some ⟨sb, 0, none⟩)), .int .i64 p, .int .i64 q0, .int .u64 ky] w fun e w' => ∃ N' lv o os ok er B' cap' vs', e = .returned (.tuple #[.agg #[.int .i64 lv, o], .bool ok, .int .i64 er]) ∧ OwnT H A0 (tPs o os :: shT sb room B' cap' vs' N' R) w' ∧ DropE N N' room l ky L g lv os ok er := by
 obtain ⟨xs, hnd, hne, h15, hux, hg, hxw⟩ := Z2v hT hu h7 hN hwf
 obtain ⟨n, hpl⟩ := Z3s xs ky (Z41 hux)
 have hn15 := hpl.le
 refine Z0b Try.func16 rfl 98 rfl (by rfl) ?_
 intro a1 k hargs
 have e0 : a1.eval (.tmp 0) = .iface 24 (.pointer (some ⟨sb, 0, none⟩)) := hargs 0 _ rfl
 have e1 : a1.eval (.tmp 1) = .int .i64 ↑p := hargs 1 _ rfl
 have e2 : a1.eval (.tmp 2) = .int .i64 q0 := hargs 2 _ rfl
 have e3 : a1.eval (.tmp 3) = .int .u64 ↑ky := hargs 3 _ rfl
 clear hargs
 refine wp_seq ?_
 refine wp_region_lit ?_
 have hE := Env.refl a1 [8, 9, 10]
 refine Z0k O (cs := #[.int .i64 0, .slice none 0 0]) (t := 40) 8 hE k rfl (by rfl) (by rfl) rfl (by simp [go_sem, ↓IntWalk.iteOmega]) ?_
 clear O
 intro rb a2 w3 O hE e8 kp
 refine sd 9 hE k (Z00 rfl rfl) ?_
 intro a4 hE e9 kp
 replace e8 := kt kp e8
 refine sd 10 hE k (Z00 rfl rfl) ?_
 intro a5 hE e10 kp
 replace e8 := kt kp e8
 refine wpList_nil ?_
 replace e0 := hE.g e0; replace e1 := hE.g e1; replace e2 := hE.g e2; replace e3 := hE.g e3
 replace k := k.env hE
 clear hE e10
 refine Z01 ?_
 replace O : OwnT _ _ ((tBlk sb 27 #[.slice B N.length cap, .int .i64 room]) :: (tRow 40 2 (.slice B N.length cap) N.length (leafV vs N)) :: (tPool vs N) :: (tBlk rb 40 #[.int .i64 0, .slice none 0 0]) :: R) w3 := OwnT.pickR (L := [_, _, _, _]) (R := R) O [1, 2, 3, 0] (by decide)
 refine wp_seq ?_
 refine wp_region_lit ?_
 have hE := Env.refl a5 [18, 19, 20, 21, 17, 22, 23, 11, 12]
 refine zm 18 hE k e0 ?_
 intro a6 hE e18 kp
 refine zm 19 hE k e1 ?_
 intro a7 hE e19 kp
 replace e18 := kt kp e18
 refine zm 20 hE k e2 ?_
 intro a8 hE e20 kp
 replace e18 := kt kp e18; replace e19 := kt kp e19
 apply Z07 21 hE k rfl (by rfl) (by rfl) rfl
 case h =>
  simp [go_sem, ↓IntWalk.iteOmega, ev e18, ev e19, ev e20]
  with_reducible exact ⟨rfl, rfl⟩
 case hc => exact tread (R := _ :: R) _ O (by omega) hnd hg hne h15 (fun y hy => (hxw y hy).1) h0
 clear O
 rintro e w10 ⟨v, rfl, O⟩
 obtain ⟨Bv, cv, rfl, hv1, hv2, -, hv3⟩ := Z0o (OwnT.t0 O)
 refine ⟨_, rfl, ?_⟩
 intro a9 hE e21 kp
 refine sd 17 hE k (Z03 rfl e21) ?_
 intro a11 hE e17 kp
 apply Z02 22 hE k rfl rfl rfl rfl
 case h =>
  simp [go_sem, ↓IntWalk.iteOmega, ev e17]
  with_reducible rfl
 intro a12 hE e22 kp
 replace e17 := kt kp e17
 apply Z02 23 hE k rfl rfl rfl rfl
 case h =>
  simp [go_sem, ↓IntWalk.iteOmega, ev e17]
  with_reducible rfl
 intro a13 hE e23 kp
 replace e22 := kt kp e22
 refine Z0k O (cs := #[.int .i64 0, .slice none 0 0]) (t := 40) 11 hE k rfl (by rfl) (by rfl) rfl (by simp [go_sem, ↓IntWalk.iteOmega]) ?_
 clear O
 intro lb a14 w15 O hE e11 kp
 replace e22 := kt kp e22; replace e23 := kt kp e23
 have q0 : w15.cell? ⟨lb, 0, none⟩ = some (.int .i64 0) := (OwnT.blk O 0 rfl).cell 0
 have z0 : w15.frozen? ⟨lb, 0, none⟩ = false := (OwnT.blk O 0 rfl).frozen 0
 have q1 : w15.cell? ⟨lb, 1, none⟩ = some (.slice none 0 0) := (OwnT.blk O 0 rfl).cell 1
 have z1 : w15.frozen? ⟨lb, 1, none⟩ = false := (OwnT.blk O 0 rfl).frozen 1
 refine Z0g (w' := ((w15.setCell ⟨lb, 0, none⟩ (.int .i64 ↑l)).setCell ⟨lb, 1, none⟩ (.slice Bv xs.length cv))) hE rfl rfl (by simp [go_sem, ↓IntWalk.iteOmega, ev e11, ev e22, q0, z0, q1, z1]) ?_
 replace O := OwnT.push 0 rfl (((OwnT.pull O 0 rfl).set 0 (.int .i64 ↑l)).set 1 (.slice Bv xs.length cv))
 clear q0 z0 q1 z1
 generalize ((w15.setCell ⟨lb, 0, none⟩ (.int .i64 ↑l)).setCell ⟨lb, 1, none⟩ (.slice Bv xs.length cv)) = w16 at O ⊢
 replace O : OwnT _ _ ((tBlk lb 40 #[.int .i64 ↑l, .slice Bv xs.length cv]) :: (tPs (.slice Bv xs.length cv) xs) :: (tBlk sb 27 #[.slice B N.length cap, .int .i64 room]) :: (tRow 40 2 (.slice B N.length cap) N.length (leafV vs N)) :: (tPool vs N) :: (tBlk rb 40 #[.int .i64 0, .slice none 0 0]) :: R) w16 := O
 refine sd 12 hE k (Z00 rfl e23) ?_
 intro a17 hE e12 kp
 replace e11 := kt kp e11
 refine wpList_nil ?_
 replace e0 := hE.g e0; replace e3 := hE.g e3; replace e8 := hE.g e8
 replace k := k.env hE
 clear hE e1 e2
 refine Z01 (wp_seq ?_)
 refine wp_seq ?_
 refine wp_region_lit ?_
 have hE := Env.refl a17 [24, 25]
 refine zm 24 hE k e12 ?_
 intro a18 hE e24 kp
 refine sd 25 hE k (Z05 (Z0j rfl e24 rfl) (decide_eq_false (by omega))) ?_
 intro a19 hE e25 kp
 refine wpList_nil ?_
 replace e0 := hE.g e0; replace e3 := hE.g e3; replace e8 := hE.g e8; replace e11 := hE.g e11; replace e12 := hE.g e12
 replace k := k.env hE
 clear hE
 refine Z01 ?_
 refine Z06 e25 rfl ?_
 refine wp_skip ?_
 refine Z01 ?_
 replace O : OwnT _ _ ((tPs (.slice Bv xs.length cv) xs) :: (tBlk sb 27 #[.slice B N.length cap, .int .i64 room]) :: (tRow 40 2 (.slice B N.length cap) N.length (leafV vs N)) :: (tPool vs N) :: (tBlk lb 40 #[.int .i64 ↑l, .slice Bv xs.length cv]) :: (tBlk rb 40 #[.int .i64 0, .slice none 0 0]) :: R) w16 := OwnT.pickR (L := [_, _, _, _, _, _]) (R := R) O [1, 2, 3, 4, 0, 5] (by decide)
 obtain ⟨gv, ev⟩ : ∃ gv, Bv = some ⟨gv, 0, none⟩ := by
  obtain ⟨g2, c2, _, e2, _⟩ := Z11 (OwnT.t0 O : World.ownsRow _ 0 59 2 _ xs.length _) (List.length_pos_iff.2 hne)
  injection e2 with e2; exact ⟨g2, e2⟩
 subst ev
 obtain ⟨_, _, e2, -, -, hrow, -⟩ := Z0o (OwnT.t0 O)
 injection e2 with e2 _ e3
 subst e2 e3
 obtain ⟨bb, hbb⟩ : ∃ b, decide (n < xs.length ∧ keyAt xs n = ky) = b := ⟨_, rfl⟩
 refine wp_seq ?_
 refine wp_region_lit ?_
 have hE := Env.refl a19 [29, 30, 31, 28, 32, 33, 13, 14]
 apply Z02 29 hE k rfl rfl rfl rfl
 case h =>
  have q0 : w16.cell? ⟨lb, 0, none⟩ = some (.int .i64 ↑l) := (OwnT.blk O 4 rfl).cell 0
  have q1 : w16.cell? ⟨lb, 1, none⟩ = some (.slice (some ⟨gv, 0, none⟩) xs.length cv) := (OwnT.blk O 4 rfl).cell 1
  simp [go_sem, ↓IntWalk.iteOmega, ev (hE.g e11), q0, q1]
  with_reducible rfl
 intro a20 hE e29 kp
 refine zm 30 hE k e3 ?_
 intro a21 hE e30 kp
 replace e29 := kt kp e29
 apply Z07 31 hE k rfl (by rfl) (by rfl) rfl
 case h =>
  simp [go_sem, ↓IntWalk.iteOmega, ev e29, ev e30]
  with_reducible exact ⟨rfl, rfl⟩
 case hc => exact Z35 (l : Int) (some ⟨gv, 0, none⟩) xs.length cv xs _ rfl (by omega) hrow ky n hpl
 rintro e w23 ⟨rfl, RE⟩
 replace hrow := hrow.below RE
 replace O := OwnT.ext O RE
 refine ⟨_, congrArg (fun b => Ending.returned (.tuple #[.int .i64 (n : Int), .bool b])) hbb, ?_⟩
 intro a22 hE e31 kp
 refine sd 28 hE k (Z03 rfl e31) ?_
 intro a24 hE e28 kp
 apply Z02 32 hE k rfl rfl rfl rfl
 case h =>
  simp [go_sem, ↓IntWalk.iteOmega, ev e28]
  with_reducible rfl
 intro a25 hE e32 kp
 replace e28 := kt kp e28
 apply Z02 33 hE k rfl rfl rfl rfl
 case h =>
  simp [go_sem, ↓IntWalk.iteOmega, ev e28]
  with_reducible rfl
 intro a26 hE e33 kp
 replace e32 := kt kp e32
 refine sd 13 hE k (Z00 rfl e32) ?_
 intro a27 hE e13 kp
 replace e33 := kt kp e33
 refine sd 14 hE k (Z00 rfl e33) ?_
 intro a28 hE e14 kp
 replace e13 := kt kp e13
 refine wpList_nil ?_
 replace e0 := hE.g e0; replace e3 := hE.g e3; replace e8 := hE.g e8; replace e11 := hE.g e11
 replace k := k.env hE
 clear hE e12 e25
 refine Z01 ?_
 have hdl : DelR N N l ky L g (delP ky xs) ∧ L.flatten = xs := by subst hl0; exact Z5n hT hnd
 obtain ⟨hdel, hLx⟩ := hdl
 refine wp_seq ?_
 refine wp_seq ?_
 refine wp_region_lit ?_
 have hE := Env.refl a28 [34, 35, 36]
 apply Z02 34 hE k rfl rfl rfl rfl
 case h =>
  simp [go_sem, ↓IntWalk.iteOmega, ev (hE.g e11)]
  with_reducible rfl
 intro a29 hE e34 kp
 apply Z02 35 hE k rfl rfl rfl rfl
 case h =>
  have q0 : w23.cell? ⟨lb, 0, none⟩ = some (.int .i64 ↑l) := (OwnT.blk O 4 rfl).cell 0
  simp [go_sem, ↓IntWalk.iteOmega, ev e34, q0]
  with_reducible rfl
 intro a30 hE e35 kp
 refine sd 36 hE k (Z05 (Z0v rfl e35 rfl) (decide_eq_true (by omega))) ?_
 intro a31 hE e36 kp
 refine wpList_nil ?_
 replace e0 := hE.g e0; replace e3 := hE.g e3; replace e8 := hE.g e8; replace e11 := hE.g e11; replace e13 := hE.g e13; replace e14 := hE.g e14
 replace k := k.env hE
 clear hE
 refine Z01 ?_
 refine Z0a e36 rfl ?_
 refine wp_seq ?_
 refine wp_seq ?_
 refine wp_region_lit ?_
 have hE := Env.refl a31 [37]
 refine zm 37 hE k e14 ?_
 intro a32 hE e37 kp
 refine wpList_nil ?_
 replace e8 := hE.g e8; replace e11 := hE.g e11; replace e13 := hE.g e13; replace e14 := hE.g e14
 replace k := k.env hE
 clear hE e0 e3 e36
 refine Z01 ?_
 cases bb with
 | true =>
  have hy := of_decide_eq_true hbb
  have hdy := delP_yes hux hpl hy
  obtain ⟨vl, -, hlk⟩ := look_yes hux hpl hy
  obtain ⟨ys, hys⟩ : ∃ ys, delP ky xs = ys := ⟨_, rfl⟩
  have hyl : ys.length = xs.length - 1 := by rw [← hys, hdy, List.length_append, List.length_take, List.length_drop]; omega
  have hyf : (flatP xs).take (n * 2) ++ (flatP xs).drop ((n + 1) * 2) = flatP ys := by rw [← hys, hdy, Z2b, Z3h, ← Z3i]
  rw [hys] at hdel
  refine Z0a e37 (rfl) ?_
  clear e37
  clear hrow
  refine wp_region_lit ?_
  have hE := Env.refl a32 [38, 39, 40, 41, 42, 43, 44]
  apply Z02 38 hE k rfl rfl rfl rfl
  case h =>
   simp [go_sem, ↓IntWalk.iteOmega, ev (hE.g e11)]
   with_reducible rfl
  intro a33 hE e38 kp
  apply Z02 39 hE k rfl rfl rfl rfl
  case h =>
   have q0 : w23.cell? ⟨lb, 1, none⟩ = some (.slice (some ⟨gv, 0, none⟩) xs.length cv) := (OwnT.blk O 4 rfl).cell 1
   simp [go_sem, ↓IntWalk.iteOmega, ev e38, q0]
   with_reducible rfl
  intro a34 hE e39 kp
  refine zm 40 hE k e13 ?_
  intro a35 hE e40 kp
  replace e39 := kt kp e39
  refine zm 41 hE k e13 ?_
  intro a36 hE e41 kp
  replace e39 := kt kp e39; replace e40 := kt kp e40
  refine sd 42 hE k (Z0x rfl e41 rfl (by omega)) ?_
  intro a37 hE e42 kp
  replace e39 := kt kp e39; replace e40 := kt kp e40
  apply Z07 43 hE k rfl (by rfl) (by rfl) rfl
  case h =>
   simp [go_sem, ↓IntWalk.iteOmega, ev e39, ev e40, ev e42]
   with_reducible exact ⟨rfl, rfl⟩
  case hc => exact Z7b _ xs.length n (flatP xs) _ O (by omega) (Z1m xs)
  clear O
  rintro e w39 ⟨v', rfl, O⟩
  rw [hyf, ← hyl] at O
  obtain ⟨B3, c3, rfl⟩ := Z26 (OwnT.t0 O : World.ownsRow _ 0 59 2 v' ys.length _)
  refine ⟨_, rfl, ?_⟩
  intro a38 hE e43 kp
  apply Z02 44 hE k rfl rfl rfl rfl
  case h =>
   simp [go_sem, ↓IntWalk.iteOmega, ev (hE.g e11)]
   with_reducible rfl
  intro a40 hE e44 kp
  replace e43 := kt kp e43
  have q0 : w39.cell? ⟨lb, 1, none⟩ = some (.slice (some ⟨gv, 0, none⟩) xs.length cv) := (OwnT.blk O 4 rfl).cell 1
  have q1 : w39.frozen? ⟨lb, 1, none⟩ = false := (OwnT.blk O 4 rfl).frozen 1
  refine Z1k (off := 1) (v := .slice B3 ys.length c3) O 4 rfl hE rfl rfl (by simp [go_sem, ↓IntWalk.iteOmega, ev e43, ev e44, q0, q1]) ?_
  clear q0 q1
  clear O
  intro w41 O
  replace O : OwnT _ _ ((tPs (.slice B3 ys.length c3) ys) :: (tBlk sb 27 #[.slice B N.length cap, .int .i64 room]) :: (tRow 40 2 (.slice B N.length cap) N.length (leafV vs N)) :: (tPool vs N) :: (tBlk lb 40 #[.int .i64 ↑l, .slice B3 ys.length c3]) :: (tBlk rb 40 #[.int .i64 0, .slice none 0 0]) :: R) w41 := O
  refine wpList_nil ?_
  replace e8 := hE.g e8; replace e11 := hE.g e11; replace e14 := hE.g e14
  replace k := k.env hE
  clear hE e13 e43 e44
  refine Z01 (wp_seq ?_)
  refine wp_region_lit ?_
  have hE := Env.refl a40 [45, 46, 9, 10]
  apply Z02 45 hE k rfl rfl rfl rfl
  case h =>
   have q0 : w41.cell? ⟨lb, 0, none⟩ = some (.int .i64 ↑l) := (OwnT.blk O 4 rfl).cell 0
   have q1 : w41.cell? ⟨lb, 1, none⟩ = some (.slice B3 ys.length c3) := (OwnT.blk O 4 rfl).cell 1
   simp [go_sem, ↓IntWalk.iteOmega, ev (hE.g e11), q0, q1]
   with_reducible rfl
  intro a42 hE e45 kp
  refine zm 46 hE k e14 ?_
  intro a43 hE e46 kp
  replace e45 := kt kp e45
  have q0 : w41.cell? ⟨rb, 0, none⟩ = some (.int .i64 0) := (OwnT.blk O 5 rfl).cell 0
  have z0 : w41.frozen? ⟨rb, 0, none⟩ = false := (OwnT.blk O 5 rfl).frozen 0
  have q1 : w41.cell? ⟨rb, 1, none⟩ = some (.slice none 0 0) := (OwnT.blk O 5 rfl).cell 1
  have z1 : w41.frozen? ⟨rb, 1, none⟩ = false := (OwnT.blk O 5 rfl).frozen 1
  refine Z0g (w' := ((w41.setCell ⟨rb, 0, none⟩ (.int .i64 ↑l)).setCell ⟨rb, 1, none⟩ (.slice B3 ys.length c3))) hE rfl rfl (by simp [go_sem, ↓IntWalk.iteOmega, ev (hE.g e8), ev e45, q0, z0, q1, z1]) ?_
  replace O := OwnT.push 5 rfl (((OwnT.pull O 5 rfl).set 0 (.int .i64 ↑l)).set 1 (.slice B3 ys.length c3))
  clear q0 z0 q1 z1
  generalize ((w41.setCell ⟨rb, 0, none⟩ (.int .i64 ↑l)).setCell ⟨rb, 1, none⟩ (.slice B3 ys.length c3)) = w44 at O ⊢
  replace O : OwnT _ _ ((tPs (.slice B3 ys.length c3) ys) :: (tBlk sb 27 #[.slice B N.length cap, .int .i64 room]) :: (tRow 40 2 (.slice B N.length cap) N.length (leafV vs N)) :: (tPool vs N) :: (tBlk lb 40 #[.int .i64 ↑l, .slice B3 ys.length c3]) :: (tBlk rb 40 #[.int .i64 ↑l, .slice B3 ys.length c3]) :: R) w44 := O
  refine sd 9 hE k (Z00 rfl e46) ?_
  intro a45 hE e9 kp
  refine sd 10 hE k (Z00 rfl rfl) ?_
  intro a46 hE e10 kp
  replace e9 := kt kp e9
  refine wpList_nil ?_
  replace e8 := hE.g e8
  replace k := k.env hE
  clear hE e11 e14
  refine Z01 ?_
  refine wp_ret ?_
  refine Z0l ?_
  have q0 : w44.cell? ⟨rb, 0, none⟩ = some (.int .i64 ↑l) := (OwnT.blk O 5 rfl).cell 0
  have q1 : w44.cell? ⟨rb, 1, none⟩ = some (.slice B3 ys.length c3) := (OwnT.blk O 5 rfl).cell 1
  refine Z3f rfl k e8 e9 e10 (v := .agg #[.int .i64 ↑l, .slice B3 ys.length c3]) (by simp [go_sem, ↓IntWalk.iteOmega, q0, q1]) ?_
  exact ⟨N, _, _, ys, true, 0, B, cap, vs, rfl, OwnT.pickR (L := [_, _, _, _, _, _]) (R := R) O [0, 1, 2, 3] (by decide), .inr (.inr ⟨rfl, rfl, rfl, by rw [hLx, hlk]; rfl, hdel⟩)⟩
 | false =>
  have hy := of_decide_eq_false hbb
  have hlk := (look_no hux hpl hy).1
  refine Z06 e37 (rfl) ?_
  clear e13 e37
  refine wp_skip ?_
  refine Z01 (wp_seq ?_)
  refine wp_region_lit ?_
  have hE := Env.refl a32 [45, 46, 9, 10]
  apply Z02 45 hE k rfl rfl rfl rfl
  case h =>
   have q0 : w23.cell? ⟨lb, 0, none⟩ = some (.int .i64 ↑l) := (OwnT.blk O 4 rfl).cell 0
   have q1 : w23.cell? ⟨lb, 1, none⟩ = some (.slice (some ⟨gv, 0, none⟩) xs.length cv) := (OwnT.blk O 4 rfl).cell 1
   simp [go_sem, ↓IntWalk.iteOmega, ev (hE.g e11), q0, q1]
   with_reducible rfl
  intro a47 hE e45 kp
  refine zm 46 hE k e14 ?_
  intro a48 hE e46 kp
  replace e45 := kt kp e45
  have q0 : w23.cell? ⟨rb, 0, none⟩ = some (.int .i64 0) := (OwnT.blk O 5 rfl).cell 0
  have z0 : w23.frozen? ⟨rb, 0, none⟩ = false := (OwnT.blk O 5 rfl).frozen 0
  have q1 : w23.cell? ⟨rb, 1, none⟩ = some (.slice none 0 0) := (OwnT.blk O 5 rfl).cell 1
  have z1 : w23.frozen? ⟨rb, 1, none⟩ = false := (OwnT.blk O 5 rfl).frozen 1
  refine Z0g (w' := ((w23.setCell ⟨rb, 0, none⟩ (.int .i64 ↑l)).setCell ⟨rb, 1, none⟩ (.slice (some ⟨gv, 0, none⟩) xs.length cv))) hE rfl rfl (by simp [go_sem, ↓IntWalk.iteOmega, ev (hE.g e8), ev e45, q0, z0, q1, z1]) ?_
  replace O := OwnT.push 5 rfl (((OwnT.pull O 5 rfl).set 0 (.int .i64 ↑l)).set 1 (.slice (some ⟨gv, 0, none⟩) xs.length cv))
  clear q0 z0 q1 z1
  generalize ((w23.setCell ⟨rb, 0, none⟩ (.int .i64 ↑l)).setCell ⟨rb, 1, none⟩ (.slice (some ⟨gv, 0, none⟩) xs.length cv)) = w49 at O ⊢
  replace O : OwnT _ _ ((tPs (.slice (some ⟨gv, 0, none⟩) xs.length cv) xs) :: (tBlk sb 27 #[.slice B N.length cap, .int .i64 room]) :: (tRow 40 2 (.slice B N.length cap) N.length (leafV vs N)) :: (tPool vs N) :: (tBlk lb 40 #[.int .i64 ↑l, .slice (some ⟨gv, 0, none⟩) xs.length cv]) :: (tBlk rb 40 #[.int .i64 ↑l, .slice (some ⟨gv, 0, none⟩) xs.length cv]) :: R) w49 := O
  refine sd 9 hE k (Z00 rfl e46) ?_
  intro a50 hE e9 kp
  refine sd 10 hE k (Z00 rfl rfl) ?_
  intro a51 hE e10 kp
  replace e9 := kt kp e9
  refine wpList_nil ?_
  replace e8 := hE.g e8
  replace k := k.env hE
  clear hE e11 e14
  refine Z01 ?_
  refine wp_ret ?_
  refine Z0l ?_
  have q0 : w49.cell? ⟨rb, 0, none⟩ = some (.int .i64 ↑l) := (OwnT.blk O 5 rfl).cell 0
  have q1 : w49.cell? ⟨rb, 1, none⟩ = some (.slice (some ⟨gv, 0, none⟩) xs.length cv) := (OwnT.blk O 5 rfl).cell 1
  refine Z3f rfl k e8 e9 e10 (v := .agg #[.int .i64 ↑l, .slice (some ⟨gv, 0, none⟩) xs.length cv]) (by simp [go_sem, ↓IntWalk.iteOmega, q0, q1]) ?_
  exact ⟨N, _, _, xs, false, 0, B, cap, vs, rfl, OwnT.pickR (L := [_, _, _, _, _, _]) (R := R) O [0, 1, 2, 3] (by decide), .inl ⟨rfl, rfl, rfl, by rw [hLx]; exact hlk⟩⟩
def DropOk (l : Nat) : Prop := ∀ {H : Nat} {A0 : World} {R : List Thing} {sb cap : Nat} {room : Int} {B : Option Addr} {vs : List Value} {N : List Nd} {p ky : Nat} {L : List (List Pr)} {g : List Nat} {q0 : Int} (w : World) (_ : OwnT H A0 (shT sb room B cap vs N R) w) (_ : Tr N l p L g) (_ : Up L.flatten) (_ : g.Nodup) (_ : l ≤ 7) (_ : N.length ≤ 511) (_ : ∀ y ∈ L.flatten, y.1 < 18446744073709551616 ∧ y.2 < 18446744073709551616) (_ : q0 < 0 ∨ q0 = l), Calls Try.prog 16 #[.iface 24 (.pointer (some ⟨sb, 0, none⟩)), .int .i64 p, .int .i64 q0, .int .u64 ky] w fun e w' => ∃ N' lv o os ok er B' cap' vs', e = .returned (.tuple #[.agg #[.int .i64 lv, o], .bool ok, .int .i64 er]) ∧ OwnT H A0 (tPs o os :: shT sb room B' cap' vs' N' R) w' ∧ DropE N N' room l ky L g lv os ok er
set_option maxRecDepth 100000 in
set_option maxHeartbeats 4000000 in
theorem Z6w {H : Nat} {A0 : World} {R : List Thing} {sb cap : Nat} {room : Int} {B : Option Addr} {vs : List Value} {N : List Nd} {l p ky : Nat} {L : List (List Pr)} {g : List Nat} {q0 : Int} (w : World) (O : OwnT H A0 (shT sb room B cap vs N R) w) (hT : Tr N l p L g) (hu : Up L.flatten) (hgn : g.Nodup) (h7 : l ≤ 7) (hN : N.length ≤ 511) (hwf : ∀ y ∈ L.flatten, y.1 < 18446744073709551616 ∧ y.2 < 18446744073709551616) (h0 : q0 < 0 ∨ q0 = l) {l1 : Nat} (hl1 : l = l1 + 1) (ih : DropOk l1) : Calls Try.prog 16 #[.iface 24 (.pointer (some ⟨sb, 0, none⟩)), .int .i64 p, .int .i64 q0, .int .u64 ky] w fun e w' => ∃ N' lv o os ok er B' cap' vs', e = .returned (.tuple #[.agg #[.int .i64 lv, o], .bool ok, .int .i64 er]) ∧ OwnT H A0 (tPs o os :: shT sb room B' cap' vs' N' R) w' ∧ DropE N N' room l ky L g lv os ok er := by
 obtain ⟨xs, hnd, hne, h15, hux, hg, hxw⟩ := Z2v hT hu h7 hN hwf
 obtain ⟨n, hpl⟩ := Z3s xs ky (Z41 hux)
 have hn15 := hpl.le
 refine Z0b Try.func16 rfl 98 rfl (by rfl) ?_
 intro a1 k hargs
 have e0 : a1.eval (.tmp 0) = .iface 24 (.pointer (some ⟨sb, 0, none⟩)) := hargs 0 _ rfl
 have e1 : a1.eval (.tmp 1) = .int .i64 ↑p := hargs 1 _ rfl
 have e2 : a1.eval (.tmp 2) = .int .i64 q0 := hargs 2 _ rfl
 have e3 : a1.eval (.tmp 3) = .int .u64 ↑ky := hargs 3 _ rfl
 clear hargs
 refine wp_seq ?_
 refine wp_region_lit ?_
 have hE := Env.refl a1 [8, 9, 10]
 refine Z0k O (cs := #[.int .i64 0, .slice none 0 0]) (t := 40) 8 hE k rfl (by rfl) (by rfl) rfl (by simp [go_sem, ↓IntWalk.iteOmega]) ?_
 clear O
 intro rb a2 w3 O hE e8 kp
 refine sd 9 hE k (Z00 rfl rfl) ?_
 intro a4 hE e9 kp
 replace e8 := kt kp e8
 refine sd 10 hE k (Z00 rfl rfl) ?_
 intro a5 hE e10 kp
 replace e8 := kt kp e8
 refine wpList_nil ?_
 replace e0 := hE.g e0; replace e1 := hE.g e1; replace e2 := hE.g e2; replace e3 := hE.g e3
 replace k := k.env hE
 clear hE e10
 refine Z01 ?_
 replace O : OwnT _ _ ((tBlk sb 27 #[.slice B N.length cap, .int .i64 room]) :: (tRow 40 2 (.slice B N.length cap) N.length (leafV vs N)) :: (tPool vs N) :: (tBlk rb 40 #[.int .i64 0, .slice none 0 0]) :: R) w3 := OwnT.pickR (L := [_, _, _, _]) (R := R) O [1, 2, 3, 0] (by decide)
 refine wp_seq ?_
 refine wp_region_lit ?_
 have hE := Env.refl a5 [18, 19, 20, 21, 17, 22, 23, 11, 12]
 refine zm 18 hE k e0 ?_
 intro a6 hE e18 kp
 refine zm 19 hE k e1 ?_
 intro a7 hE e19 kp
 replace e18 := kt kp e18
 refine zm 20 hE k e2 ?_
 intro a8 hE e20 kp
 replace e18 := kt kp e18; replace e19 := kt kp e19
 apply Z07 21 hE k rfl (by rfl) (by rfl) rfl
 case h =>
  simp [go_sem, ↓IntWalk.iteOmega, ev e18, ev e19, ev e20]
  with_reducible exact ⟨rfl, rfl⟩
 case hc => exact tread (R := _ :: R) _ O (by omega) hnd hg hne h15 (fun y hy => (hxw y hy).1) h0
 clear O
 rintro e w10 ⟨v, rfl, O⟩
 obtain ⟨Bv, cv, rfl, hv1, hv2, -, hv3⟩ := Z0o (OwnT.t0 O)
 refine ⟨_, rfl, ?_⟩
 intro a9 hE e21 kp
 refine sd 17 hE k (Z03 rfl e21) ?_
 intro a11 hE e17 kp
 apply Z02 22 hE k rfl rfl rfl rfl
 case h =>
  simp [go_sem, ↓IntWalk.iteOmega, ev e17]
  with_reducible rfl
 intro a12 hE e22 kp
 replace e17 := kt kp e17
 apply Z02 23 hE k rfl rfl rfl rfl
 case h =>
  simp [go_sem, ↓IntWalk.iteOmega, ev e17]
  with_reducible rfl
 intro a13 hE e23 kp
 replace e22 := kt kp e22
 refine Z0k O (cs := #[.int .i64 0, .slice none 0 0]) (t := 40) 11 hE k rfl (by rfl) (by rfl) rfl (by simp [go_sem, ↓IntWalk.iteOmega]) ?_
 clear O
 intro lb a14 w15 O hE e11 kp
 replace e22 := kt kp e22; replace e23 := kt kp e23
 have q0 : w15.cell? ⟨lb, 0, none⟩ = some (.int .i64 0) := (OwnT.blk O 0 rfl).cell 0
 have z0 : w15.frozen? ⟨lb, 0, none⟩ = false := (OwnT.blk O 0 rfl).frozen 0
 have q1 : w15.cell? ⟨lb, 1, none⟩ = some (.slice none 0 0) := (OwnT.blk O 0 rfl).cell 1
 have z1 : w15.frozen? ⟨lb, 1, none⟩ = false := (OwnT.blk O 0 rfl).frozen 1
 refine Z0g (w' := ((w15.setCell ⟨lb, 0, none⟩ (.int .i64 ↑l)).setCell ⟨lb, 1, none⟩ (.slice Bv xs.length cv))) hE rfl rfl (by simp [go_sem, ↓IntWalk.iteOmega, ev e11, ev e22, q0, z0, q1, z1]) ?_
 replace O := OwnT.push 0 rfl (((OwnT.pull O 0 rfl).set 0 (.int .i64 ↑l)).set 1 (.slice Bv xs.length cv))
 clear q0 z0 q1 z1
 generalize ((w15.setCell ⟨lb, 0, none⟩ (.int .i64 ↑l)).setCell ⟨lb, 1, none⟩ (.slice Bv xs.length cv)) = w16 at O ⊢
 replace O : OwnT _ _ ((tBlk lb 40 #[.int .i64 ↑l, .slice Bv xs.length cv]) :: (tPs (.slice Bv xs.length cv) xs) :: (tBlk sb 27 #[.slice B N.length cap, .int .i64 room]) :: (tRow 40 2 (.slice B N.length cap) N.length (leafV vs N)) :: (tPool vs N) :: (tBlk rb 40 #[.int .i64 0, .slice none 0 0]) :: R) w16 := O
 refine sd 12 hE k (Z00 rfl e23) ?_
 intro a17 hE e12 kp
 replace e11 := kt kp e11
 refine wpList_nil ?_
 replace e0 := hE.g e0; replace e3 := hE.g e3; replace e8 := hE.g e8
 replace k := k.env hE
 clear hE e1 e2
 refine Z01 (wp_seq ?_)
 refine wp_seq ?_
 refine wp_region_lit ?_
 have hE := Env.refl a17 [24, 25]
 refine zm 24 hE k e12 ?_
 intro a18 hE e24 kp
 refine sd 25 hE k (Z05 (Z0j rfl e24 rfl) (decide_eq_false (by omega))) ?_
 intro a19 hE e25 kp
 refine wpList_nil ?_
 replace e0 := hE.g e0; replace e3 := hE.g e3; replace e8 := hE.g e8; replace e11 := hE.g e11; replace e12 := hE.g e12
 replace k := k.env hE
 clear hE
 refine Z01 ?_
 refine Z06 e25 rfl ?_
 refine wp_skip ?_
 refine Z01 ?_
 replace O : OwnT _ _ ((tPs (.slice Bv xs.length cv) xs) :: (tBlk sb 27 #[.slice B N.length cap, .int .i64 room]) :: (tRow 40 2 (.slice B N.length cap) N.length (leafV vs N)) :: (tPool vs N) :: (tBlk lb 40 #[.int .i64 ↑l, .slice Bv xs.length cv]) :: (tBlk rb 40 #[.int .i64 0, .slice none 0 0]) :: R) w16 := OwnT.pickR (L := [_, _, _, _, _, _]) (R := R) O [1, 2, 3, 4, 0, 5] (by decide)
 obtain ⟨gv, ev⟩ : ∃ gv, Bv = some ⟨gv, 0, none⟩ := by
  obtain ⟨g2, c2, _, e2, _⟩ := Z11 (OwnT.t0 O : World.ownsRow _ 0 59 2 _ xs.length _) (List.length_pos_iff.2 hne)
  injection e2 with e2; exact ⟨g2, e2⟩
 subst ev
 obtain ⟨_, _, e2, -, -, hrow, -⟩ := Z0o (OwnT.t0 O)
 injection e2 with e2 _ e3
 subst e2 e3
 obtain ⟨bb, hbb⟩ : ∃ b, decide (n < xs.length ∧ keyAt xs n = ky) = b := ⟨_, rfl⟩
 refine wp_seq ?_
 refine wp_region_lit ?_
 have hE := Env.refl a19 [29, 30, 31, 28, 32, 33, 13, 14]
 apply Z02 29 hE k rfl rfl rfl rfl
 case h =>
  have q0 : w16.cell? ⟨lb, 0, none⟩ = some (.int .i64 ↑l) := (OwnT.blk O 4 rfl).cell 0
  have q1 : w16.cell? ⟨lb, 1, none⟩ = some (.slice (some ⟨gv, 0, none⟩) xs.length cv) := (OwnT.blk O 4 rfl).cell 1
  simp [go_sem, ↓IntWalk.iteOmega, ev (hE.g e11), q0, q1]
  with_reducible rfl
 intro a20 hE e29 kp
 refine zm 30 hE k e3 ?_
 intro a21 hE e30 kp
 replace e29 := kt kp e29
 apply Z07 31 hE k rfl (by rfl) (by rfl) rfl
 case h =>
  simp [go_sem, ↓IntWalk.iteOmega, ev e29, ev e30]
  with_reducible exact ⟨rfl, rfl⟩
 case hc => exact Z35 (l : Int) (some ⟨gv, 0, none⟩) xs.length cv xs _ rfl (by omega) hrow ky n hpl
 rintro e w23 ⟨rfl, RE⟩
 replace hrow := hrow.below RE
 replace O := OwnT.ext O RE
 refine ⟨_, congrArg (fun b => Ending.returned (.tuple #[.int .i64 (n : Int), .bool b])) hbb, ?_⟩
 intro a22 hE e31 kp
 refine sd 28 hE k (Z03 rfl e31) ?_
 intro a24 hE e28 kp
 apply Z02 32 hE k rfl rfl rfl rfl
 case h =>
  simp [go_sem, ↓IntWalk.iteOmega, ev e28]
  with_reducible rfl
 intro a25 hE e32 kp
 replace e28 := kt kp e28
 apply Z02 33 hE k rfl rfl rfl rfl
 case h =>
  simp [go_sem, ↓IntWalk.iteOmega, ev e28]
  with_reducible rfl
 intro a26 hE e33 kp
 replace e32 := kt kp e32
 refine sd 13 hE k (Z00 rfl e32) ?_
 intro a27 hE e13 kp
 replace e33 := kt kp e33
 refine sd 14 hE k (Z00 rfl e33) ?_
 intro a28 hE e14 kp
 replace e13 := kt kp e13
 refine wpList_nil ?_
 replace e0 := hE.g e0; replace e3 := hE.g e3; replace e8 := hE.g e8; replace e11 := hE.g e11
 replace k := k.env hE
 clear hE e12 e25
 refine Z01 ?_
 have hTk := hT
 rw [hl1] at hTk
 obtain ⟨A, y, Bk, LA, gA, Lx, gx, LB, gB, hxs, hAl, kA, kx, kB, hL, hgg, hlo, hhi⟩ := Z5k (k := ky) (n := n) hTk hu (by rw [← hl1]; exact hnd) hpl
 obtain ⟨kn, hkn⟩ : ∃ k, kidN xs ky n = k := ⟨_, rfl⟩
 rw [hkn] at hAl
 have hkl : kn < xs.length := by rw [hxs]; simp; omega
 obtain ⟨cI, hcI⟩ : ∃ c : Int, (if n < xs.length ∧ keyAt xs n = ky then (n : Int) else (n : Int) - 1) = c := ⟨_, rfl⟩
 have hmx : max cI 0 = (kn : Int) := by rw [← hcI, ← hkn]; exact Z88
 have hyk : xs[kn]? = some y := by rw [hxs, List.getElem?_append_right (by omega), hAl, Nat.sub_self]; rfl
 have hlkx : lookP ky L.flatten = lookP ky Lx.flatten := by
  rw [hL, List.flatten_append, List.flatten_append, Z5i (fun z hz => by have := hlo z hz; omega) (fun z hz => by have := hhi z hz; omega)]

 refine wp_seq ?_
 refine wp_seq ?_
 refine wp_region_lit ?_
 have hE := Env.refl a28 [34, 35, 36]
 apply Z02 34 hE k rfl rfl rfl rfl
 case h =>
  simp [go_sem, ↓IntWalk.iteOmega, ev (hE.g e11)]
  with_reducible rfl
 intro a29 hE e34 kp
 apply Z02 35 hE k rfl rfl rfl rfl
 case h =>
  have q0 : w23.cell? ⟨lb, 0, none⟩ = some (.int .i64 ↑l) := (OwnT.blk O 4 rfl).cell 0
  simp [go_sem, ↓IntWalk.iteOmega, ev e34, q0]
  with_reducible rfl
 intro a30 hE e35 kp
 refine sd 36 hE k (Z05 (Z0v rfl e35 rfl) (decide_eq_false (by omega))) ?_
 intro a31 hE e36 kp
 refine wpList_nil ?_
 replace e0 := hE.g e0; replace e3 := hE.g e3; replace e8 := hE.g e8; replace e11 := hE.g e11; replace e13 := hE.g e13; replace e14 := hE.g e14
 replace k := k.env hE
 clear hE
 refine Z01 ?_
 refine Z06 e36 rfl ?_
 refine wp_skip ?_
 refine Z01 (wp_seq ?_)
 refine wp_region_lit ?_
 have hE := Env.refl a31 [47, 48, 49, 50, 13]
 apply Z02 47 hE k rfl rfl rfl rfl
 case h =>
  have q0 : w23.cell? ⟨lb, 0, none⟩ = some (.int .i64 ↑l) := (OwnT.blk O 4 rfl).cell 0
  have q1 : w23.cell? ⟨lb, 1, none⟩ = some (.slice (some ⟨gv, 0, none⟩) xs.length cv) := (OwnT.blk O 4 rfl).cell 1
  simp [go_sem, ↓IntWalk.iteOmega, ev (hE.g e11), q0, q1]
  with_reducible rfl
 intro a32 hE e47 kp
 refine zm 48 hE k e3 ?_
 intro a33 hE e48 kp
 replace e47 := kt kp e47
 apply Z07 49 hE k rfl (by rfl) (by rfl) rfl
 case h =>
  simp [go_sem, ↓IntWalk.iteOmega, ev e47, ev e48]
  with_reducible exact ⟨rfl, rfl⟩
 case hc => exact Z5r (l : Int) (some ⟨gv, 0, none⟩) xs.length cv xs _ rfl (by omega) hrow ky n hpl
 rintro e w35 ⟨rfl, RE⟩
 replace O := OwnT.ext O RE
 refine ⟨_, congrArg (fun c => Ending.returned (.int .i64 c)) hcI, ?_⟩
 intro a34 hE e49 kp
 refine sd 50 hE k (Z16 (v := .int .i64 (kn : Int)) (x_max rfl e49 rfl) (Z0p hmx)) ?_
 intro a36 hE e50 kp
 refine sd 13 hE k (Z00 rfl e50) ?_
 intro a37 hE e13 kp
 refine wpList_nil ?_
 replace e0 := hE.g e0; replace e3 := hE.g e3; replace e8 := hE.g e8; replace e11 := hE.g e11
 replace k := k.env hE
 clear hE e14 e36
 refine Z01 ?_
 clear hrow
 replace O : OwnT _ _ ((tBlk sb 27 #[.slice B N.length cap, .int .i64 room]) :: (tRow 40 2 (.slice B N.length cap) N.length (leafV vs N)) :: (tPool vs N) :: (tPs (.slice (some ⟨gv, 0, none⟩) xs.length cv) xs) :: (tBlk lb 40 #[.int .i64 ↑l, .slice (some ⟨gv, 0, none⟩) xs.length cv]) :: (tBlk rb 40 #[.int .i64 0, .slice none 0 0]) :: R) w35 := OwnT.pickR (L := [_, _, _, _, _, _]) (R := R) O [1, 2, 3, 0, 4, 5] (by decide)
 have hkI : (kn : Int) < (xs.length : Int) := by omega
 have hy5 : y.2 ≤ 511 := by obtain ⟨r, e⟩ := Tr.one kx; have := Tr.pages kx y.2 (by rw [e]; simp); omega
 have hux2 : Up Lx.flatten ∧ (∀ z ∈ Lx.flatten, z ∈ L.flatten) := by
  rw [hL, List.flatten_append, List.flatten_append] at hu ⊢
  exact ⟨hu.app.2.1.app.1, fun z hz => by simp [hz]⟩
 have hgx : gx.Nodup := by rw [hgg] at hgn; exact ((List.nodup_append.1 (List.nodup_append.1 (List.nodup_cons.1 hgn).2).2.1).1)

 refine wp_seq ?_
 refine wp_midA (S := ⟨12, 17, 18, 15, 64, 40, #[.int .i64 0, .slice none 0 0], fun v => csA (projV v 0)⟩) (Φ := fun v_ L_ => ∃ N' lv Bo co os ok er B' cap' vs', v_ = .tuple #[.agg #[.int .i64 lv, .slice Bo os.length co], .bool ok, .int .i64 er] ∧ L_ = tPs (.slice Bo os.length co) os :: shT sb room B' cap' vs' N' ((tPs (.slice (some ⟨gv, 0, none⟩) xs.length cv) xs) :: (tBlk lb 40 #[.int .i64 ↑l, .slice (some ⟨gv, 0, none⟩) xs.length cv]) :: (tBlk rb 40 #[.int .i64 0, .slice none 0 0]) :: R) ∧ DropE N N' room l1 ky Lx gx lv os ok er) [[], [], [1], [], [1, 2, 3], [1, 2, 3, 4], [1, 2, 3, 4, 5], [1, 2, 3, 4, 5, 6], [], [8], [8, 9], [], [0, 1, 2, 3, 4, 5, 6, 7, 8, 9, 10, 11], [0, 1, 2, 3, 4, 5, 6, 7, 8, 9, 10, 11, 12], [0, 1, 2, 3, 4, 5, 6, 7, 8, 9, 10, 11, 12, 13], [0, 1, 2, 3, 4, 5, 6, 7, 8, 9, 10, 11, 12, 13], [0, 1, 2, 3, 4, 5, 6, 7, 8, 9, 10, 11, 12, 13], [], [0, 1, 2, 3, 4, 5, 6, 7, 8, 9, 10, 11, 12, 13, 14, 17], [0, 1, 2, 3, 4, 5, 6, 7, 8, 9, 10, 11, 12, 13, 14, 15, 17, 18], [0, 1, 2, 3, 4, 5, 6, 7, 8, 9, 10, 11, 12, 13, 14, 15, 16, 17, 18, 19]] [52, 53, 54, 55, 56, 57, 58, 59, 60, 61, 62, 63, 64, 51, 65, 66, 67, 15, 14] O (by kernel_rfl) ?_
 apply BuildA.det 52 (by kernel_rfl) (by rfl) (by rw [k.size]; rfl) rfl
 case h =>
  intro lx ax wx hE hI hl hA hF
  have hO := hI.pre (by rfl) hl
  exact Z03 rfl (hE.g e0)
 apply BuildA.det 53 (by kernel_rfl) (by rfl) (by rw [k.size]; rfl) rfl
 case h =>
  intro lx ax wx hE hI hl hA hF
  have hO := hI.pre (by rfl) hl
  simp [go_sem, ↓IntWalk.iteOmega, ev (hE.g e11)]
  with_reducible rfl
 apply BuildA.det 54 (by kernel_rfl) (by rfl) (by rw [k.size]; rfl) rfl
 case h =>
  intro lx ax wx hE hI hl hA hF
  have e53 := hF 1 (detL 1 53 _) (by decide) ml0
  have hO := hI.pre (by rfl) hl
  have q0 : wx.cell? ⟨lb, 1, none⟩ = some (.slice (some ⟨gv, 0, none⟩) xs.length cv) := (OwnT.blk hO 4 rfl).cell 1
  simp [go_sem, ↓IntWalk.iteOmega, ev e53, q0]
  with_reducible rfl
 apply BuildA.det 55 (by kernel_rfl) (by rfl) (by rw [k.size]; rfl) rfl
 case h =>
  intro lx ax wx hE hI hl hA hF
  have hO := hI.pre (by rfl) hl
  exact Z03 rfl (hE.g e13)
 apply BuildA.det 56 (by kernel_rfl) (by rfl) (by rw [k.size]; rfl) rfl
 case h =>
  intro lx ax wx hE hI hl hA hF
  have e54 := hF 2 (detL 2 54 _) (by decide) ml1
  have e55 := hF 3 (detL 3 55 _) (by decide) ml0
  have hO := hI.pre (by rfl) hl
  simp [go_sem, ↓IntWalk.iteOmega, ev e54, ev e55]
  with_reducible rfl
 apply BuildA.det 57 (by kernel_rfl) (by rfl) (by rw [k.size]; rfl) rfl
 case h =>
  intro lx ax wx hE hI hl hA hF
  have e56 := hF 4 (detL 4 56 _) (by decide) ml0
  have hO := hI.pre (by rfl) hl
  simp [go_sem, ↓IntWalk.iteOmega, ev e56]
  with_reducible rfl
 apply BuildA.det 58 (by kernel_rfl) (by rfl) (by rw [k.size]; rfl) rfl
 case h =>
  intro lx ax wx hE hI hl hA hF
  have e57 := hF 5 (detL 5 57 _) (by decide) ml0
  have hO := hI.pre (by rfl) hl
  have cy : wx.cell? ⟨gv, kn * 2 + 1, none⟩ = some (.int .u64 (y.2 : Int)) := by obtain ⟨_, _, e2, _, _, h, _⟩ := Z0o (OwnT.get hO 3 rfl : (tPs (.slice (some ⟨gv, 0, none⟩) xs.length cv) xs).holds wx); injection e2 with e2 _ e3; subst e2; obtain ⟨b, o, e, _, hc⟩ := h kn y hyk; injection e with e; injection e with e e'; subst e e'; have := hc 1 _ rfl; simpa using this
  simp [go_sem, ↓IntWalk.iteOmega, ev e57, cy]
  with_reducible rfl
 apply BuildA.det 59 (by kernel_rfl) (by rfl) (by rw [k.size]; rfl) rfl
 case h =>
  intro lx ax wx hE hI hl hA hF
  have e58 := hF 6 (detL 6 58 _) (by decide) ml0
  have hO := hI.pre (by rfl) hl
  exact Z1p rfl e58 (Z1z y.2 _ (by omega))
 apply BuildA.det 60 (by kernel_rfl) (by rfl) (by rw [k.size]; rfl) rfl
 case h =>
  intro lx ax wx hE hI hl hA hF
  have hO := hI.pre (by rfl) hl
  simp [go_sem, ↓IntWalk.iteOmega, ev (hE.g e11)]
  with_reducible rfl
 apply BuildA.det 61 (by kernel_rfl) (by rfl) (by rw [k.size]; rfl) rfl
 case h =>
  intro lx ax wx hE hI hl hA hF
  have e60 := hF 8 (detL 8 60 _) (by decide) ml0
  have hO := hI.pre (by rfl) hl
  have q0 : wx.cell? ⟨lb, 0, none⟩ = some (.int .i64 ↑l) := (OwnT.blk hO 4 rfl).cell 0
  simp [go_sem, ↓IntWalk.iteOmega, ev e60, q0]
  with_reducible rfl
 apply BuildA.det 62 (by kernel_rfl) (by rfl) (by rw [k.size]; rfl) rfl
 case h =>
  intro lx ax wx hE hI hl hA hF
  have e61 := hF 9 (detL 9 61 _) (by decide) ml0
  have hO := hI.pre (by rfl) hl
  exact Z16 (v := .int .i64 (l1 : Int)) (Z3y rfl e61 rfl (by omega)) (Z0p (by omega))
 apply BuildA.det 63 (by kernel_rfl) (by rfl) (by rw [k.size]; rfl) rfl
 case h =>
  intro lx ax wx hE hI hl hA hF
  have hO := hI.pre (by rfl) hl
  exact Z03 rfl (hE.g e3)
 refine BuildA.call (by kernel_rfl) rfl (by rw [k.size]; rfl) rfl ?_ ?_
 · intro lx ax wx hE hO hA hF
   have e52 := hF 0 (detL 0 52 _) (by decide) ml11
   have e59 := hF 7 (detL 7 59 _) (by decide) ml4
   have e62 := hF 10 (detL 10 62 _) (by decide) ml1
   have e63 := hF 11 (detL 11 63 _) (by decide) ml0
   refine ⟨_, _, by simp [go_sem, ↓IntWalk.iteOmega, ev e52, ev e59, ev e62, ev e63], fun X OX => (ih (R := X ++ ((tPs (.slice (some ⟨gv, 0, none⟩) xs.length cv) xs) :: (tBlk lb 40 #[.int .i64 ↑l, .slice (some ⟨gv, 0, none⟩) xs.length cv]) :: (tBlk rb 40 #[.int .i64 0, .slice none 0 0]) :: R)) (p := y.2) (q0 := (l1 : Int)) (ky := ky) wx (OX.perm (perm3 X _ _ _ _)) kx hux2.1 hgx (by omega) hN (fun z hz => hwf z (hux2.2 z hz)) (.inr rfl)).mono (by rintro e w' ⟨N', lv, o, os, ok, er, B', cap', vs', rfl, OY, hE⟩; obtain ⟨Bo, co, rfl, -⟩ := Z0o (OwnT.t0 OY); exact ⟨_, _, rfl, ⟨N', lv, Bo, co, os, ok, er, B', cap', vs', rfl, rfl, hE⟩, OY.perm (perm4 X _ _ _ _ _).symm⟩)⟩
 refine BuildA.rel 51 64 (fun v => v) (by rfl) (by kernel_rfl) (by rfl) (by rw [k.size]; rfl) rfl ?_ ?_
 · intro lx ax wx hE hI hA hF
   exact Z03 rfl rfl
 refine BuildA.rel 65 64 (fun v => projV v 0) (by rfl) (by kernel_rfl) (by rfl) (by rw [k.size]; rfl) rfl ?_ ?_
 · intro lx ax wx hE hI hA hF
   have e51 : ax.eval (.tmp 51) = _ := hF 13 (relL 13 51 64 (fun v => v)) (by decide) ml0
   obtain ⟨_, fic⟩ := hI.val (hA 12 (by decide))
   obtain ⟨N1, lv, Bo, co, os, ok, er, B1, cap1, vs1, hv, rfl, hPE⟩ := fic
   rw [hv]
   rw [hv] at e51
   simp [go_sem, ↓IntWalk.iteOmega, ev e51, projV]
 refine BuildA.rel 66 64 (fun v => projV v 1) (by rfl) (by kernel_rfl) (by rfl) (by rw [k.size]; rfl) rfl ?_ ?_
 · intro lx ax wx hE hI hA hF
   have e51 : ax.eval (.tmp 51) = _ := hF 13 (relL 13 51 64 (fun v => v)) (by decide) ml1
   obtain ⟨_, fic⟩ := hI.val (hA 12 (by decide))
   obtain ⟨N1, lv, Bo, co, os, ok, er, B1, cap1, vs1, hv, rfl, hPE⟩ := fic
   rw [hv]
   rw [hv] at e51
   simp [go_sem, ↓IntWalk.iteOmega, ev e51, projV]
 refine BuildA.rel 67 64 (fun v => projV v 2) (by rfl) (by kernel_rfl) (by rfl) (by rw [k.size]; rfl) rfl ?_ ?_
 · intro lx ax wx hE hI hA hF
   have e51 : ax.eval (.tmp 51) = _ := hF 13 (relL 13 51 64 (fun v => v)) (by decide) ml2
   obtain ⟨_, fic⟩ := hI.val (hA 12 (by decide))
   obtain ⟨N1, lv, Bo, co, os, ok, er, B1, cap1, vs1, hv, rfl, hPE⟩ := fic
   rw [hv]
   rw [hv] at e51
   simp [go_sem, ↓IntWalk.iteOmega, ev e51, projV]
 refine BuildA.alloc (by kernel_rfl) rfl (by rw [k.size]; rfl) rfl (fun a_ w_ => by simp [go_sem, ↓IntWalk.iteOmega]; first | done | kernel_rfl | rfl) ?_
 refine BuildA.store (by kernel_rfl) rfl rfl ?_ ?_
 · intro lx ax wx g_ L_ hE hA hF es hΦ O
   have e65 : ax.eval (.tmp 65) = _ := hF 14 (relL 14 65 64 (fun v => projV v 0)) (by decide) ml3
   obtain ⟨N1, lv, Bo, co, os, ok, er, B1, cap1, vs1, hv, rfl, hPE⟩ := hΦ
   rw [hv] at e65
   replace e65 : ax.eval (.tmp 65) = .agg #[.int .i64 lv, .slice Bo os.length co] := e65
   have hb := O.b0
   refine ⟨((wx.setCell ⟨g_, 0, none⟩ (.int .i64 lv)).setCell ⟨g_, 1, none⟩ (.slice Bo os.length co)), ?_, ?_⟩
   · have q0 : wx.cell? ⟨g_, 0, none⟩ = some (.int .i64 0) := hb.cell 0
     have z0 : wx.frozen? ⟨g_, 0, none⟩ = false := hb.frozen 0
     have q1 : wx.cell? ⟨g_, 1, none⟩ = some (.slice none 0 0) := hb.cell 1
     have z1 : wx.frozen? ⟨g_, 1, none⟩ = false := hb.frozen 1
     simp [go_sem, ↓IntWalk.iteOmega, ev es, ev e65, q0, z0, q1, z1]
   · have O2 := ((O.set 0 (.int .i64 lv)).set 1 (.slice Bo os.length co))
     rw [hv]
     exact O2
 refine BuildA.rel 14 64 (fun v => projV v 1) (by rfl) (by kernel_rfl) (by rfl) (by rw [k.size]; rfl) rfl ?_ ?_
 · intro lx ax wx hE hI hA hF
   have e66 : ax.eval (.tmp 66) = _ := hF 15 (relL 15 66 64 (fun v => projV v 1)) (by decide) ml3
   exact Z00 rfl e66
 apply BuildM.stop
 refine ⟨by kernel_rfl, ?_⟩
 clear O
 intro lx a38 w39 hE hI hL hF
 obtain ⟨bb_, L_, e15, fic, O⟩ := hI.end_ (hL 12 (Nat.le_of_ble_eq_true rfl)) (hL 17 (Nat.le_of_ble_eq_true rfl)) (hL 18 (Nat.le_of_ble_eq_true rfl))
 have e67 : a38.eval (.tmp 67) = _ := hF 16 (relL 16 67 64 (fun v => projV v 2)) ml3
 have e14 : a38.eval (.tmp 14) = _ := hF 19 (relL 19 14 64 (fun v => projV v 1)) ml0
 clear hF hI hL
 obtain ⟨N1, lv, Bo, co, os, ok, er, B1, cap1, vs1, hv, rfl, hPE⟩ := fic
 rw [hv] at e67
 replace e67 : a38.eval (.tmp 67) = .int .i64 er := e67
 rw [hv] at e14
 replace e14 : a38.eval (.tmp 14) = .bool ok := e14
 rw [hv] at O
 clear hv
 replace O : OwnT _ _ ((tBlk bb_ 40 #[.int .i64 lv, .slice Bo os.length co]) :: (tPs (.slice Bo os.length co) os) :: (tBlk sb 27 #[.slice B1 N1.length cap1, .int .i64 room]) :: (tRow 40 2 (.slice B1 N1.length cap1) N1.length (leafV vs1 N1)) :: (tPool vs1 N1) :: (tPs (.slice (some ⟨gv, 0, none⟩) xs.length cv) xs) :: (tBlk lb 40 #[.int .i64 ↑l, .slice (some ⟨gv, 0, none⟩) xs.length cv]) :: (tBlk rb 40 #[.int .i64 0, .slice none 0 0]) :: R) w39 := O
 simp only [List.length_cons, List.length_nil, Nat.zero_add, Nat.reduceAdd, List.drop_succ_cons, List.drop_zero, List.drop_nil, tailOps]
 apply tail_val (w' := w39) 12 [52, 53, 54, 55, 56, 57, 58, 59, 60, 61, 62, 63, 64, 51, 65, 66, 67, 15, 14, 12] hE k rfl (by rfl) (by rfl) (by rfl)
 case h =>
  exact Z00 rfl e67
 intro a40 hE e12 kp
 replace e14 := kt kp e14; replace e15 := kt kp e15; replace e0 := hE.g e0; replace e8 := hE.g e8; replace e11 := hE.g e11; replace e13 := hE.g e13
 replace k := k.env hE
 clear hE e3
 refine Z01 ?_
 rcases hPE with ⟨rfl, rfl, rfl, hln⟩ | ⟨rfl, rfl, hls, hM1, hrm⟩ | ⟨rfl, rfl, rfl, hls, hDR⟩
 · skip
   refine wp_seq ?_
   refine wp_seq ?_
   refine wp_region_lit ?_
   have hE := Env.refl a40 [68, 69, 70, 71, 72, 73]
   refine zm 68 hE k e12 ?_
   intro a41 hE e68 kp
   refine sd 69 hE k (Z0j rfl e68 rfl) ?_
   intro a42 hE e69 kp
   refine sd 70 hE k (Z03 rfl e69) ?_
   intro a43 hE e70 kp
   apply Z04 71 hE k rfl rfl rfl rfl rfl e70
   case h =>
    exact Z03 rfl (hE.g e14)
   intro a44 hE e71 kp
   replace e70 := kt kp e70
   apply Z04 72 hE k rfl rfl rfl rfl rfl e70
   case h =>
    exact Z20 rfl e71
   intro a45 hE e72 kp
   replace e70 := kt kp e70
   refine sd 73 hE k (Z08 rfl e70 e72) ?_
   intro a46 hE e73 kp
   refine wpList_nil ?_
   replace e0 := hE.g e0; replace e8 := hE.g e8; replace e11 := hE.g e11; replace e12 := hE.g e12; replace e13 := hE.g e13; replace e15 := hE.g e15
   replace k := k.env hE
   clear hE e14
   refine Z01 ?_
   refine Z0a e73 rfl ?_
   refine wp_seq ?_
   refine wp_region_lit ?_
   have hE := Env.refl a46 [74, 75, 9, 10]
   apply Z02 74 hE k rfl rfl rfl rfl
   case h =>
    simp [go_sem, ↓IntWalk.iteOmega]
    with_reducible rfl
   intro a47 hE e74 kp
   refine zm 75 hE k e12 ?_
   intro a48 hE e75 kp
   replace e74 := kt kp e74
   have q0 : w39.cell? ⟨rb, 0, none⟩ = some (.int .i64 0) := (OwnT.blk O 7 rfl).cell 0
   have z0 : w39.frozen? ⟨rb, 0, none⟩ = false := (OwnT.blk O 7 rfl).frozen 0
   have q1 : w39.cell? ⟨rb, 1, none⟩ = some (.slice none 0 0) := (OwnT.blk O 7 rfl).cell 1
   have z1 : w39.frozen? ⟨rb, 1, none⟩ = false := (OwnT.blk O 7 rfl).frozen 1
   refine Z0g (w' := ((w39.setCell ⟨rb, 0, none⟩ (.int .i64 0)).setCell ⟨rb, 1, none⟩ (.slice none 0 0))) hE rfl rfl (by simp [go_sem, ↓IntWalk.iteOmega, ev (hE.g e8), ev e74, q0, z0, q1, z1]) ?_
   replace O := OwnT.push 7 rfl (((OwnT.pull O 7 rfl).set 0 (.int .i64 0)).set 1 (.slice none 0 0))
   clear q0 z0 q1 z1
   generalize ((w39.setCell ⟨rb, 0, none⟩ (.int .i64 0)).setCell ⟨rb, 1, none⟩ (.slice none 0 0)) = w49 at O ⊢
   replace O : OwnT _ _ ((tBlk bb_ 40 #[.int .i64 lv, .slice Bo os.length co]) :: (tPs (.slice Bo os.length co) os) :: (tBlk sb 27 #[.slice B1 N1.length cap1, .int .i64 room]) :: (tRow 40 2 (.slice B1 N1.length cap1) N1.length (leafV vs1 N1)) :: (tPool vs1 N1) :: (tPs (.slice (some ⟨gv, 0, none⟩) xs.length cv) xs) :: (tBlk lb 40 #[.int .i64 ↑l, .slice (some ⟨gv, 0, none⟩) xs.length cv]) :: (tBlk rb 40 #[.int .i64 0, .slice none 0 0]) :: R) w49 := O
   refine sd 9 hE k (Z00 rfl rfl) ?_
   intro a50 hE e9 kp
   replace e75 := kt kp e75
   refine sd 10 hE k (Z00 rfl e75) ?_
   intro a51 hE e10 kp
   replace e9 := kt kp e9
   refine wpList_nil ?_
   replace e8 := hE.g e8
   replace k := k.env hE
   clear hE e0 e11 e12 e13 e15 e73
   refine Z01 ?_
   refine wp_ret ?_
   refine Z0l ?_
   have q0 : w49.cell? ⟨rb, 0, none⟩ = some (.int .i64 0) := (OwnT.blk O 7 rfl).cell 0
   have q1 : w49.cell? ⟨rb, 1, none⟩ = some (.slice none 0 0) := (OwnT.blk O 7 rfl).cell 1
   refine Z3f rfl k e8 e9 e10 (v := .agg #[.int .i64 0, .slice none 0 0]) (by simp [go_sem, ↓IntWalk.iteOmega, q0, q1]) ?_
   exact ⟨N1, _, _, [], false, 0, B1, cap1, vs1, rfl, OwnT.nilRow (OwnT.pickR (L := [_, _, _, _, _, _, _, _]) (R := R) O [2, 3, 4] (by decide)) 59 2, .inl ⟨rfl, rfl, rfl, by rw [hlkx]; exact hln⟩⟩
 · skip
   refine wp_seq ?_
   refine wp_seq ?_
   refine wp_region_lit ?_
   have hE := Env.refl a40 [68, 69, 70, 71, 72, 73]
   refine zm 68 hE k e12 ?_
   intro a52 hE e68 kp
   refine sd 69 hE k (Z0j rfl e68 rfl) ?_
   intro a53 hE e69 kp
   refine sd 70 hE k (Z03 rfl e69) ?_
   intro a54 hE e70 kp
   refine Z09 71 hE k rfl (by rfl) (by rfl) rfl rfl (.inl e70) ?_
   intro a55 hE e71 kp
   replace e70 := kt kp e70
   refine Z09 72 hE k rfl (by rfl) (by rfl) rfl rfl (.inl e70) ?_
   intro a56 hE e72 kp
   replace e70 := kt kp e70
   refine sd 73 hE k (Z0m rfl e70 rfl) ?_
   intro a57 hE e73 kp
   refine wpList_nil ?_
   replace e0 := hE.g e0; replace e8 := hE.g e8; replace e11 := hE.g e11; replace e12 := hE.g e12; replace e13 := hE.g e13; replace e15 := hE.g e15
   replace k := k.env hE
   clear hE e14
   refine Z01 ?_
   refine Z0a e73 rfl ?_
   refine wp_seq ?_
   refine wp_region_lit ?_
   have hE := Env.refl a57 [74, 75, 9, 10]
   apply Z02 74 hE k rfl rfl rfl rfl
   case h =>
    simp [go_sem, ↓IntWalk.iteOmega]
    with_reducible rfl
   intro a58 hE e74 kp
   refine zm 75 hE k e12 ?_
   intro a59 hE e75 kp
   replace e74 := kt kp e74
   have q0 : w39.cell? ⟨rb, 0, none⟩ = some (.int .i64 0) := (OwnT.blk O 7 rfl).cell 0
   have z0 : w39.frozen? ⟨rb, 0, none⟩ = false := (OwnT.blk O 7 rfl).frozen 0
   have q1 : w39.cell? ⟨rb, 1, none⟩ = some (.slice none 0 0) := (OwnT.blk O 7 rfl).cell 1
   have z1 : w39.frozen? ⟨rb, 1, none⟩ = false := (OwnT.blk O 7 rfl).frozen 1
   refine Z0g (w' := ((w39.setCell ⟨rb, 0, none⟩ (.int .i64 0)).setCell ⟨rb, 1, none⟩ (.slice none 0 0))) hE rfl rfl (by simp [go_sem, ↓IntWalk.iteOmega, ev (hE.g e8), ev e74, q0, z0, q1, z1]) ?_
   replace O := OwnT.push 7 rfl (((OwnT.pull O 7 rfl).set 0 (.int .i64 0)).set 1 (.slice none 0 0))
   clear q0 z0 q1 z1
   generalize ((w39.setCell ⟨rb, 0, none⟩ (.int .i64 0)).setCell ⟨rb, 1, none⟩ (.slice none 0 0)) = w60 at O ⊢
   replace O : OwnT _ _ ((tBlk bb_ 40 #[.int .i64 lv, .slice Bo os.length co]) :: (tPs (.slice Bo os.length co) os) :: (tBlk sb 27 #[.slice B1 N1.length cap1, .int .i64 room]) :: (tRow 40 2 (.slice B1 N1.length cap1) N1.length (leafV vs1 N1)) :: (tPool vs1 N1) :: (tPs (.slice (some ⟨gv, 0, none⟩) xs.length cv) xs) :: (tBlk lb 40 #[.int .i64 ↑l, .slice (some ⟨gv, 0, none⟩) xs.length cv]) :: (tBlk rb 40 #[.int .i64 0, .slice none 0 0]) :: R) w60 := O
   refine sd 9 hE k (Z00 rfl rfl) ?_
   intro a61 hE e9 kp
   replace e75 := kt kp e75
   refine sd 10 hE k (Z00 rfl e75) ?_
   intro a62 hE e10 kp
   replace e9 := kt kp e9
   refine wpList_nil ?_
   replace e8 := hE.g e8
   replace k := k.env hE
   clear hE e0 e11 e12 e13 e15 e73
   refine Z01 ?_
   refine wp_ret ?_
   refine Z0l ?_
   obtain ⟨M1, rfl, hM1⟩ := hM1
   have q0 : w60.cell? ⟨rb, 0, none⟩ = some (.int .i64 0) := (OwnT.blk O 7 rfl).cell 0
   have q1 : w60.cell? ⟨rb, 1, none⟩ = some (.slice none 0 0) := (OwnT.blk O 7 rfl).cell 1
   refine Z3f rfl k e8 e9 e10 (v := .agg #[.int .i64 0, .slice none 0 0]) (by simp [go_sem, ↓IntWalk.iteOmega, q0, q1]) ?_
   exact ⟨N ++ M1, _, _, [], false, 6, B1, cap1, vs1, rfl, OwnT.nilRow (OwnT.pickR (L := [_, _, _, _, _, _, _, _]) (R := R) O [2, 3, 4] (by decide)) 59 2, .inr (.inl ⟨rfl, rfl, by rw [hlkx]; exact hls, ⟨M1, rfl, by omega⟩, fun h => hrm (by omega)⟩)⟩
 · skip
   obtain ⟨_, _, e2q, hc1, hc2, -, hc4⟩ := Z0o (OwnT.get O 1 rfl : (tPs (.slice Bo os.length co) os).holds _)
   injection e2q with e2q _ e3q
   subst e2q e3q
   have hos := hDR.len
   have hap := hDR.app
   have hN1l : N1.length ≤ 600 := by obtain ⟨M1, rfl, hM1⟩ := hap; rw [List.length_append]; omega
   refine wp_seq ?_
   refine wp_seq ?_
   refine wp_region_lit ?_
   have hE := Env.refl a40 [68, 69, 70, 71, 72, 73]
   refine zm 68 hE k e12 ?_
   intro a63 hE e68 kp
   refine sd 69 hE k (Z0j rfl e68 rfl) ?_
   intro a64 hE e69 kp
   refine sd 70 hE k (Z03 rfl e69) ?_
   intro a65 hE e70 kp
   apply Z04 71 hE k rfl rfl rfl rfl rfl e70
   case h =>
    exact Z03 rfl (hE.g e14)
   intro a66 hE e71 kp
   replace e70 := kt kp e70
   apply Z04 72 hE k rfl rfl rfl rfl rfl e70
   case h =>
    exact Z20 rfl e71
   intro a67 hE e72 kp
   replace e70 := kt kp e70
   refine sd 73 hE k (Z08 rfl e70 e72) ?_
   intro a68 hE e73 kp
   refine wpList_nil ?_
   replace e0 := hE.g e0; replace e8 := hE.g e8; replace e11 := hE.g e11; replace e12 := hE.g e12; replace e13 := hE.g e13; replace e15 := hE.g e15
   replace k := k.env hE
   clear hE e14
   refine Z01 ?_
   refine Z06 e73 rfl ?_
   refine wp_skip ?_
   refine Z01 ?_
   replace O : OwnT _ _ ((tPs (.slice Bo os.length co) os) :: (tBlk sb 27 #[.slice B1 N1.length cap1, .int .i64 room]) :: (tRow 40 2 (.slice B1 N1.length cap1) N1.length (leafV vs1 N1)) :: (tPool vs1 N1) :: (tBlk bb_ 40 #[.int .i64 ↑l1, .slice Bo os.length co]) :: (tPs (.slice (some ⟨gv, 0, none⟩) xs.length cv) xs) :: (tBlk lb 40 #[.int .i64 ↑l, .slice (some ⟨gv, 0, none⟩) xs.length cv]) :: (tBlk rb 40 #[.int .i64 0, .slice none 0 0]) :: R) w39 := OwnT.pickR (L := [_, _, _, _, _, _, _, _]) (R := R) O [1, 2, 3, 4, 0, 5, 6, 7] (by decide)
   refine wp_seq ?_
   refine wp_region_lit ?_
   have hE := Env.refl a68 [77, 78, 79, 80, 81, 82, 76, 83, 84, 16, 12]
   refine zm 77 hE k e0 ?_
   intro a69 hE e77 kp
   apply Z02 78 hE k rfl rfl rfl rfl
   case h =>
    simp [go_sem, ↓IntWalk.iteOmega, ev (hE.g e15)]
    with_reducible rfl
   intro a70 hE e78 kp
   replace e77 := kt kp e77
   apply Z02 79 hE k rfl rfl rfl rfl
   case h =>
    have q0 : w39.cell? ⟨bb_, 0, none⟩ = some (.int .i64 ↑l1) := (OwnT.blk O 4 rfl).cell 0
    simp [go_sem, ↓IntWalk.iteOmega, ev e78, q0]
    with_reducible rfl
   intro a71 hE e79 kp
   replace e77 := kt kp e77
   apply Z02 80 hE k rfl rfl rfl rfl
   case h =>
    simp [go_sem, ↓IntWalk.iteOmega, ev (hE.g e15)]
    with_reducible rfl
   intro a72 hE e80 kp
   replace e77 := kt kp e77; replace e79 := kt kp e79
   apply Z02 81 hE k rfl rfl rfl rfl
   case h =>
    have q0 : w39.cell? ⟨bb_, 1, none⟩ = some (.slice Bo os.length co) := (OwnT.blk O 4 rfl).cell 1
    simp [go_sem, ↓IntWalk.iteOmega, ev e80, q0]
    with_reducible rfl
   intro a73 hE e81 kp
   replace e77 := kt kp e77; replace e79 := kt kp e79
   apply Z07 82 hE k rfl (by rfl) (by rfl) rfl
   case h =>
    simp [go_sem, ↓IntWalk.iteOmega, ev e77, ev e79, ev e81]
    with_reducible exact ⟨rfl, rfl⟩
   case hc => exact tadded (R := _ :: _ :: _ :: _ :: R) _ O (by omega) (by omega)
   clear O
   rintro e w75 ⟨M, es, er, o2, B2, cap2, vs2, rfl, hA, O⟩
   refine ⟨_, rfl, ?_⟩
   intro a74 hE e82 kp
   refine sd 76 hE k (Z03 rfl e82) ?_
   intro a76 hE e76 kp
   apply Z02 83 hE k rfl rfl rfl rfl
   case h =>
    simp [go_sem, ↓IntWalk.iteOmega, ev e76]
    with_reducible rfl
   intro a77 hE e83 kp
   replace e76 := kt kp e76
   apply Z02 84 hE k rfl rfl rfl rfl
   case h =>
    simp [go_sem, ↓IntWalk.iteOmega, ev e76]
    with_reducible rfl
   intro a78 hE e84 kp
   replace e83 := kt kp e83
   refine sd 16 hE k (Z00 rfl e83) ?_
   intro a79 hE e16 kp
   replace e84 := kt kp e84
   refine sd 12 hE k (Z00 rfl e84) ?_
   intro a80 hE e12 kp
   replace e16 := kt kp e16
   refine wpList_nil ?_
   replace e8 := hE.g e8; replace e11 := hE.g e11; replace e13 := hE.g e13
   replace k := k.env hE
   clear hE e0 e15 e73
   refine Z01 ?_
   have hpt : (parts os).length ≤ 1 := by unfold parts; rw [if_pos hos]; split <;> simp
   obtain ⟨hM2, hA⟩ := hA
   rcases hA with ⟨rfl, rfl, hrm⟩ | ⟨rfl, rfl, rfl⟩
   · skip
     refine wp_seq ?_
     refine wp_seq ?_
     refine wp_region_lit ?_
     have hE := Env.refl a80 [85, 86]
     refine zm 85 hE k e12 ?_
     intro a81 hE e85 kp
     refine sd 86 hE k (Z0j rfl e85 rfl) ?_
     intro a82 hE e86 kp
     refine wpList_nil ?_
     replace e8 := hE.g e8; replace e11 := hE.g e11; replace e12 := hE.g e12; replace e13 := hE.g e13; replace e16 := hE.g e16
     replace k := k.env hE
     clear hE
     refine Z01 ?_
     refine Z0a e86 rfl ?_
     refine wp_seq ?_
     refine wp_region_lit ?_
     have hE := Env.refl a82 [87, 88, 9, 10]
     apply Z02 87 hE k rfl rfl rfl rfl
     case h =>
      simp [go_sem, ↓IntWalk.iteOmega]
      with_reducible rfl
     intro a83 hE e87 kp
     refine zm 88 hE k e12 ?_
     intro a84 hE e88 kp
     replace e87 := kt kp e87
     have q0 : w75.cell? ⟨rb, 0, none⟩ = some (.int .i64 0) := (OwnT.blk O 8 rfl).cell 0
     have z0 : w75.frozen? ⟨rb, 0, none⟩ = false := (OwnT.blk O 8 rfl).frozen 0
     have q1 : w75.cell? ⟨rb, 1, none⟩ = some (.slice none 0 0) := (OwnT.blk O 8 rfl).cell 1
     have z1 : w75.frozen? ⟨rb, 1, none⟩ = false := (OwnT.blk O 8 rfl).frozen 1
     refine Z0g (w' := ((w75.setCell ⟨rb, 0, none⟩ (.int .i64 0)).setCell ⟨rb, 1, none⟩ (.slice none 0 0))) hE rfl rfl (by simp [go_sem, ↓IntWalk.iteOmega, ev (hE.g e8), ev e87, q0, z0, q1, z1]) ?_
     replace O := OwnT.push 8 rfl (((OwnT.pull O 8 rfl).set 0 (.int .i64 0)).set 1 (.slice none 0 0))
     clear q0 z0 q1 z1
     generalize ((w75.setCell ⟨rb, 0, none⟩ (.int .i64 0)).setCell ⟨rb, 1, none⟩ (.slice none 0 0)) = w85 at O ⊢
     replace O : OwnT _ _ ((tPs o2 ([] : List Pr)) :: (tPs (.slice Bo os.length co) os) :: (tBlk sb 27 #[.slice B2 (((N1 ++ M)).length) cap2, .int .i64 room]) :: (tRow 40 2 (.slice B2 ((N1 ++ M)).length cap2) ((N1 ++ M)).length (leafV vs2 ((N1 ++ M)))) :: (tPool vs2 ((N1 ++ M))) :: (tBlk bb_ 40 #[.int .i64 ↑l1, .slice Bo os.length co]) :: (tPs (.slice (some ⟨gv, 0, none⟩) xs.length cv) xs) :: (tBlk lb 40 #[.int .i64 ↑l, .slice (some ⟨gv, 0, none⟩) xs.length cv]) :: (tBlk rb 40 #[.int .i64 0, .slice none 0 0]) :: R) w85 := O
     refine sd 9 hE k (Z00 rfl rfl) ?_
     intro a86 hE e9 kp
     replace e88 := kt kp e88
     refine sd 10 hE k (Z00 rfl e88) ?_
     intro a87 hE e10 kp
     replace e9 := kt kp e9
     refine wpList_nil ?_
     replace e8 := hE.g e8
     replace k := k.env hE
     clear hE e11 e12 e13 e16 e86
     refine Z01 ?_
     refine wp_ret ?_
     refine Z0l ?_
     obtain ⟨M1, rfl, hM1⟩ := hap
     rw [List.length_append] at hrm
     have q0 : w85.cell? ⟨rb, 0, none⟩ = some (.int .i64 0) := (OwnT.blk O 8 rfl).cell 0
     have q1 : w85.cell? ⟨rb, 1, none⟩ = some (.slice none 0 0) := (OwnT.blk O 8 rfl).cell 1
     refine Z3f rfl k e8 e9 e10 (v := .agg #[.int .i64 0, .slice none 0 0]) (by simp [go_sem, ↓IntWalk.iteOmega, q0, q1]) ?_
     exact ⟨_, _, _, [], false, 6, B2, cap2, vs2, rfl, OwnT.nilRow (OwnT.pickR (L := [_, _, _, _, _, _, _, _, _]) (R := R) O [2, 3, 4] (by decide)) 59 2, .inr (.inl ⟨rfl, rfl, by rw [hlkx]; exact hls, ⟨M1 ++ M, by rw [List.append_assoc], by rw [List.length_append]; omega⟩, fun h => hrm (by omega)⟩)⟩
   · skip
     refine wp_seq ?_
     refine wp_seq ?_
     refine wp_region_lit ?_
     have hE := Env.refl a80 [85, 86]
     refine zm 85 hE k e12 ?_
     intro a88 hE e85 kp
     refine sd 86 hE k (Z05 (Z0j rfl e85 rfl) (decide_eq_false (by omega))) ?_
     intro a89 hE e86 kp
     refine wpList_nil ?_
     replace e8 := hE.g e8; replace e11 := hE.g e11; replace e12 := hE.g e12; replace e13 := hE.g e13; replace e16 := hE.g e16
     replace k := k.env hE
     clear hE
     refine Z01 ?_
     refine Z06 e86 rfl ?_
     refine wp_skip ?_
     refine Z01 ?_
     obtain ⟨es, hes⟩ : ∃ es, outs (parts os) N1.length = es := ⟨_, rfl⟩
     have hel : es.length ≤ 1 := by rw [← hes, Z2q]; exact hpt
     have hgl : ∀ q ∈ g, q ≤ N.length := fun q hq => (Tr.pages hT q hq).2
     have hfin := drop_node (by rw [← hxs]; exact h15) kA kB hL hgg hgn hgl hlo hhi hDR
     obtain ⟨ys, hys⟩ : ∃ ys, xs.take kn ++ es ++ xs.drop (kn + 1) = ys := ⟨_, rfl⟩
     have hyAB : A ++ (es ++ Bk) = ys := by rw [← hys, hxs, ← hAl, List.take_left, show A.length + 1 = A.length + 1 from rfl, List.drop_append, List.append_assoc]; simp
     rw [hes] at O hfin
     rw [hyAB, ← hl1] at hfin
     replace O : OwnT _ _ ((tPs (.slice (some ⟨gv, 0, none⟩) xs.length cv) xs) :: (tPs o2 es) :: (tBlk sb 27 #[.slice B2 (((N1 ++ newN l1 (parts os))).length) cap2, .int .i64 room]) :: (tRow 40 2 (.slice B2 ((N1 ++ newN l1 (parts os))).length cap2) ((N1 ++ newN l1 (parts os))).length (leafV vs2 ((N1 ++ newN l1 (parts os))))) :: (tPool vs2 ((N1 ++ newN l1 (parts os)))) :: (tBlk lb 40 #[.int .i64 ↑l, .slice (some ⟨gv, 0, none⟩) xs.length cv]) :: (tBlk rb 40 #[.int .i64 0, .slice none 0 0]) :: R) w75 := OwnT.pickR (L := [_, _, _, _, _, _, _, _, _]) (R := R) O [6, 0, 2, 3, 4, 7, 8] (by decide)
     refine wp_seq ?_
     refine wp_region_lit ?_
     have hE := Env.refl a89 [89, 90, 91, 92, 93, 94, 95, 96]
     apply Z02 89 hE k rfl rfl rfl rfl
     case h =>
      simp [go_sem, ↓IntWalk.iteOmega, ev (hE.g e11)]
      with_reducible rfl
     intro a90 hE e89 kp
     apply Z02 90 hE k rfl rfl rfl rfl
     case h =>
      have q0 : w75.cell? ⟨lb, 1, none⟩ = some (.slice (some ⟨gv, 0, none⟩) xs.length cv) := (OwnT.blk O 5 rfl).cell 1
      simp [go_sem, ↓IntWalk.iteOmega, ev e89, q0]
      with_reducible rfl
     intro a91 hE e90 kp
     refine zm 91 hE k e13 ?_
     intro a92 hE e91 kp
     replace e90 := kt kp e90
     refine zm 92 hE k e13 ?_
     intro a93 hE e92 kp
     replace e90 := kt kp e90; replace e91 := kt kp e91
     refine sd 93 hE k (Z0x rfl e92 rfl (by omega)) ?_
     intro a94 hE e93 kp
     replace e90 := kt kp e90; replace e91 := kt kp e91
     refine zm 94 hE k e16 ?_
     intro a95 hE e94 kp
     replace e90 := kt kp e90; replace e91 := kt kp e91; replace e93 := kt kp e93
     apply Z07 95 hE k rfl (by rfl) (by rfl) rfl
     case h =>
      simp [go_sem, ↓IntWalk.iteOmega, ev e90, ev e91, ev e93, ev e94]
      with_reducible exact ⟨rfl, rfl⟩
     case hc => exact Z46 _ o2 kn xs es _ O hkl (by omega) (by omega)
     clear O
     rintro e w97 ⟨v', rfl, O⟩
     rw [hys] at O
     obtain ⟨B3, c3, rfl⟩ := Z26 (OwnT.t0 O : World.ownsRow _ 0 59 2 v' ys.length _)
     refine ⟨_, rfl, ?_⟩
     intro a96 hE e95 kp
     apply Z02 96 hE k rfl rfl rfl rfl
     case h =>
      simp [go_sem, ↓IntWalk.iteOmega, ev (hE.g e11)]
      with_reducible rfl
     intro a98 hE e96 kp
     replace e95 := kt kp e95
     have q0 : w97.cell? ⟨lb, 1, none⟩ = some (.slice (some ⟨gv, 0, none⟩) xs.length cv) := (OwnT.blk O 5 rfl).cell 1
     have q1 : w97.frozen? ⟨lb, 1, none⟩ = false := (OwnT.blk O 5 rfl).frozen 1
     refine Z1k (off := 1) (v := .slice B3 ys.length c3) O 5 rfl hE rfl rfl (by simp [go_sem, ↓IntWalk.iteOmega, ev e95, ev e96, q0, q1]) ?_
     clear q0 q1
     clear O
     intro w99 O
     replace O : OwnT _ _ ((tPs (.slice B3 ys.length c3) ys) :: (tPs o2 es) :: (tBlk sb 27 #[.slice B2 (((N1 ++ newN l1 (parts os))).length) cap2, .int .i64 room]) :: (tRow 40 2 (.slice B2 ((N1 ++ newN l1 (parts os))).length cap2) ((N1 ++ newN l1 (parts os))).length (leafV vs2 ((N1 ++ newN l1 (parts os))))) :: (tPool vs2 ((N1 ++ newN l1 (parts os)))) :: (tBlk lb 40 #[.int .i64 ↑l, .slice B3 ys.length c3]) :: (tBlk rb 40 #[.int .i64 0, .slice none 0 0]) :: R) w99 := O
     refine wpList_nil ?_
     replace e8 := hE.g e8; replace e11 := hE.g e11
     replace k := k.env hE
     clear hE e12 e13 e16 e86 e95 e96
     refine Z01 (wp_seq ?_)
     refine wp_region_lit ?_
     have hE := Env.refl a98 [97, 9, 10]
     apply Z02 97 hE k rfl rfl rfl rfl
     case h =>
      have q0 : w99.cell? ⟨lb, 0, none⟩ = some (.int .i64 ↑l) := (OwnT.blk O 5 rfl).cell 0
      have q1 : w99.cell? ⟨lb, 1, none⟩ = some (.slice B3 ys.length c3) := (OwnT.blk O 5 rfl).cell 1
      simp [go_sem, ↓IntWalk.iteOmega, ev (hE.g e11), q0, q1]
      with_reducible rfl
     intro a100 hE e97 kp
     have q0 : w99.cell? ⟨rb, 0, none⟩ = some (.int .i64 0) := (OwnT.blk O 6 rfl).cell 0
     have z0 : w99.frozen? ⟨rb, 0, none⟩ = false := (OwnT.blk O 6 rfl).frozen 0
     have q1 : w99.cell? ⟨rb, 1, none⟩ = some (.slice none 0 0) := (OwnT.blk O 6 rfl).cell 1
     have z1 : w99.frozen? ⟨rb, 1, none⟩ = false := (OwnT.blk O 6 rfl).frozen 1
     refine Z0g (w' := ((w99.setCell ⟨rb, 0, none⟩ (.int .i64 ↑l)).setCell ⟨rb, 1, none⟩ (.slice B3 ys.length c3))) hE rfl rfl (by simp [go_sem, ↓IntWalk.iteOmega, ev (hE.g e8), ev e97, q0, z0, q1, z1]) ?_
     replace O := OwnT.push 6 rfl (((OwnT.pull O 6 rfl).set 0 (.int .i64 ↑l)).set 1 (.slice B3 ys.length c3))
     clear q0 z0 q1 z1
     generalize ((w99.setCell ⟨rb, 0, none⟩ (.int .i64 ↑l)).setCell ⟨rb, 1, none⟩ (.slice B3 ys.length c3)) = w101 at O ⊢
     replace O : OwnT _ _ ((tPs (.slice B3 ys.length c3) ys) :: (tPs o2 es) :: (tBlk sb 27 #[.slice B2 (((N1 ++ newN l1 (parts os))).length) cap2, .int .i64 room]) :: (tRow 40 2 (.slice B2 ((N1 ++ newN l1 (parts os))).length cap2) ((N1 ++ newN l1 (parts os))).length (leafV vs2 ((N1 ++ newN l1 (parts os))))) :: (tPool vs2 ((N1 ++ newN l1 (parts os)))) :: (tBlk lb 40 #[.int .i64 ↑l, .slice B3 ys.length c3]) :: (tBlk rb 40 #[.int .i64 ↑l, .slice B3 ys.length c3]) :: R) w101 := O
     refine sd 9 hE k (Z00 rfl rfl) ?_
     intro a102 hE e9 kp
     refine sd 10 hE k (Z00 rfl rfl) ?_
     intro a103 hE e10 kp
     replace e9 := kt kp e9
     refine wpList_nil ?_
     replace e8 := hE.g e8
     replace k := k.env hE
     clear hE e11
     refine Z01 ?_
     refine wp_ret ?_
     have q0 : w101.cell? ⟨rb, 0, none⟩ = some (.int .i64 ↑l) := (OwnT.blk O 6 rfl).cell 0
     have q1 : w101.cell? ⟨rb, 1, none⟩ = some (.slice B3 ys.length c3) := (OwnT.blk O 6 rfl).cell 1
     refine Z3f rfl k e8 e9 e10 (v := .agg #[.int .i64 ↑l, .slice B3 ys.length c3]) (by simp [go_sem, ↓IntWalk.iteOmega, q0, q1]) ?_
     exact ⟨_, _, _, ys, true, 0, B2, cap2, vs2, rfl, OwnT.pickR (L := [_, _, _, _, _, _, _]) (R := R) O [0, 2, 3, 4] (by decide), .inr (.inr ⟨rfl, rfl, rfl, by rw [hlkx]; exact hls, hfin⟩)⟩
theorem tdrop : ∀ l, DropOk l
 | 0 => fun w O hT hu hgn h7 hN hwf h0 => Z6x w O hT hu hgn h7 hN hwf h0 rfl
 | l + 1 => fun w O hT hu hgn h7 hN hwf h0 => Z6w w O hT hu hgn h7 hN hwf h0 rfl (tdrop l)
end Go.Proofs.Ytdeocidlkpbhcaa
