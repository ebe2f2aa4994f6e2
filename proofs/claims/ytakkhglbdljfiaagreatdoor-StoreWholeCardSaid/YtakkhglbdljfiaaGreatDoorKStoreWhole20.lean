/- store's laws: awake (printed by XStI.gen.py). -/
import Derived.Test.YtakkhglbdljfiaaGreatDoorKStoreWhole19
namespace Go.Proofs.YtakkhglbdljfiaaGreatDoor
attribute [local simp] BigFrame.eval_const BigFrame.eval_global BigFrame.eval_func
set_option linter.unusedVariables false
set_option linter.unusedSimpArgs false
open Go.RowKit Go.Maps

abbrev fm07 : Hd := fmtHd 9 3 2
theorem fm07_ok : fm07.Ok := by decide
theorem fm07_next : (nextHd fm07 1).Ok := by decide
def aw07 : List Sec := List.replicate 64 zsec
def S07 : List Sec := fmS aw07 noL fm07
theorem S07_len : S07.length = 64 := by unfold S07; rw [fm_len]; exact List.length_replicate
abbrev F07 : Int → Option Nd := putF (fun _ => none) 1 (node 5)
def T07 : List Sec := cmS S07 F07 (todo (pgs 64) F07 [1]) (1 - 0) (hdB (nextHd fm07 1))
theorem todo07 : (1 : Int) ∈ todo (pgs 64) F07 [1] := Z1u.2 ⟨⟨by decide, by decide⟩, by decide⟩
theorem first07 : FirstFree (pgs 64) (fun _ => false) (fun _ => none) 1 := ⟨by decide, by decide, rfl, fun d h1 h2 => by omega⟩
theorem lost07 : ([1] : List Int).any (lostB (pgs 64) (fun _ => false) F07) = false := by
 simp [lostB, freeB, putF]
theorem page07 : pgS T07 1 = pgB (node 5) := by
 unfold T07
 exact cm_new (c := 1) (nd := node 5) (by rw [S07_len]; decide) (by decide) (by decide) todo07 rfl (Z4p 5)
theorem fld_gen (g r a b c : Int) : ∀ w, (Instr.field 39 (.agg #[.int .u64 g, .int .i64 r, .int .i64 a, .int .i64 b, .int .i64 c]) 0).run Tryz.prog w = .ok (.int .u64 g) w := fun _ => by kernel_rfl
theorem Z6b (g r a b c : Int) : ∀ w, (Instr.field 39 (.agg #[.int .u64 g, .int .i64 r, .int .i64 a, .int .i64 b, .int .i64 c]) 1).run Tryz.prog w = .ok (.int .i64 r) w := fun _ => by kernel_rfl
theorem Z5w {P : Nat} (h : P ≤ 512) : StOk P (fun _ => false) (fun _ => none) [] [] (fun _ => none) :=
 ⟨h, (fun c hc => by cases hc), (fun c nd hc => by cases hc), (fun c nd hc => by cases hc), (fun _ _ => rfl), (fun c nd hc => by cases hc)⟩

set_option maxRecDepth 100000 in
set_option maxHeartbeats 8000000 in
theorem awake07 (W0 : World) : Calls Tryz.prog 7 #[] W0 fun e w' => e = .returned (.bool true) ∧ Ext W0 w' := by
 have O := OwnT.start W0
 refine Z0c Tryz.func7 rfl 112 rfl (by rfl) ?_
 intro a1 k hargs; clear hargs; have ok0 := Z5w (P := pgs 64) (by decide)
 refine wp_seq ?_; refine wp_region_lit ?_
 have hE := Env.refl a1 [0]; refine sd 0 hE k (Z01 rfl rfl) ?_; intro a2 hE e0 kp; refine wpList_nil ?_; replace k := k.env hE; clear hE e0; refine Z00 (wp_seq ?_); refine wp_region_lit ?_
 have hE := Env.refl a2 [14, 1]; apply Z06 14 hE k rfl (by rfl) (by rfl) rfl
 case h =>
  simp [go_sem, ↓IntWalk.iteOmega]
  with_reducible exact ⟨rfl, rfl⟩
 case hc => exact new_mn O
 clear O; rintro e w4 ⟨mb, rfl, O⟩
 refine ⟨_, rfl, ?_⟩
 intro a3 hE e14 kp; refine sd 1 hE k (Z01 rfl e14) ?_; intro a5 hE e1 kp; refine wpList_nil ?_; replace k := k.env hE; clear hE; refine Z00 (wp_seq ?_); refine wp_region_lit ?_
 have hE := Env.refl a5 [15, 16, 2]; refine zm 15 hE k e1 ?_; intro a6 hE e15 kp; apply Z06 16 hE k rfl (by rfl) (by rfl) rfl
 case h =>
  simp [go_sem, ↓IntWalk.iteOmega, ev e15]
  with_reducible exact ⟨rfl, rfl⟩
 case hc => exact dnew_any 64 64 _ O (by decide)
 clear O; rintro e w8 ⟨p, B, cap, bm, rfl, O⟩
 refine ⟨_, rfl, ?_⟩
 intro a7 hE e16 kp; refine sd 2 hE k (Z01 rfl e16) ?_; intro a9 hE e2 kp; refine wpList_nil ?_; replace k := k.env hE; clear hE e1; refine Z00 (wp_seq ?_); refine wp_region_lit ?_
 have hE := Env.refl a9 [18, 19, 20, 17, 21, 22, 3, 4]; refine zm 18 hE k e2 ?_; intro a10 hE e18 kp; apply Z06 19 hE k rfl (by rfl) (by rfl) rfl
 case h =>
  simp [go_sem, ↓IntWalk.iteOmega]
  with_reducible exact ⟨rfl, rfl⟩
 case hc => exact Z6i _
 rintro e w12 ⟨rfl, RE⟩
 replace O := OwnT.ext O RE; refine ⟨_, rfl, ?_⟩
 intro a11 hE e19 kp; replace e18 := kt kp e18; apply Z06 20 hE k rfl (by rfl) (by rfl) rfl
 case h =>
  simp [go_sem, ↓IntWalk.iteOmega, ev e18, ev e19]
  with_reducible exact ⟨rfl, rfl⟩
 case hc => exact Z3w (S := aw07) 9 3 2 _ O fm07_ok (by decide) mn0_ok (by decide) mn0_free
 clear O; rintro e w14 ⟨j, sb, kb, fb, hj, rfl, O⟩
 refine ⟨_, rfl, ?_⟩
 intro a13 hE e20 kp; refine sd 17 hE k (Z03 rfl e20) ?_; intro a15 hE e17 kp; apply Z02 21 hE k rfl rfl rfl rfl; case h =>
  simp [go_sem, ↓IntWalk.iteOmega, ev e17]
  with_reducible rfl
 intro a16 hE e21 kp; replace e17 := kt kp e17; apply Z02 22 hE k rfl rfl rfl rfl; case h =>
  simp [go_sem, ↓IntWalk.iteOmega, ev e17]
  with_reducible rfl
 intro a17 hE e22 kp; replace e21 := kt kp e21; refine sd 3 hE k (Z01 rfl e21) ?_; intro a18 hE e3 kp; replace e22 := kt kp e22; refine sd 4 hE k (Z01 rfl e22) ?_; intro a19 hE e4 kp; replace e3 := kt kp e3; refine wpList_nil ?_; replace e2 := hE.g e2; replace k := k.env hE; clear hE; refine Z00 (wp_seq ?_); refine wp_seq ?_; refine wp_region_lit ?_
 have hE := Env.refl a19 [23, 24, 25, 26, 27, 28]; refine zm 23 hE k e4 ?_; intro a20 hE e23 kp; refine sd 24 hE k (Z08 (Z0u rfl e23 rfl) (decide_eq_false (by omega))) ?_
 intro a21 hE e24 kp; refine sd 25 hE k (Z03 rfl e24) ?_; intro a22 hE e25 kp; apply Z04 26 hE k rfl rfl rfl rfl rfl e25
 case h =>
  exact Z03 rfl (hE.g e3)
 intro a23 hE e26 kp; replace e25 := kt kp e25; apply Z04 27 hE k rfl rfl rfl rfl rfl e25
 case h =>
  simp [go_sem, ↓IntWalk.iteOmega, ev e26]
  with_reducible rfl
 intro a24 hE e27 kp; replace e25 := kt kp e25; refine sd 28 hE k (Z0i rfl e25 e27) ?_; intro a25 hE e28 kp; refine wpList_nil ?_; replace e2 := hE.g e2; replace e3 := hE.g e3; replace k := k.env hE; clear hE e4; refine Z00 ?_; refine Z07 e28 rfl ?_
 refine wp_skip ?_; refine Z00 (wp_seq ?_); refine wp_region_lit ?_
 have hE := Env.refl a25 [30, 31, 32, 29, 33, 34, 5, 6]; refine zm 30 hE k e3 ?_; intro a26 hE e30 kp; apply Z06 31 hE k rfl (by rfl) (by rfl) rfl
 case h =>
  simp [go_sem, ↓IntWalk.iteOmega]
  with_reducible exact ⟨rfl, rfl⟩
 case hc => exact Z39 5 _
 rintro e w28 ⟨g, rfl, hrow, RE⟩
 replace O := OwnT.ext O RE; refine ⟨_, rfl, ?_⟩
 intro a27 hE e31 kp; replace e30 := kt kp e30; apply Z06 32 hE k rfl (by rfl) (by rfl) rfl
 case h =>
  simp [go_sem, ↓IntWalk.iteOmega, ev e30, ev e31]
  with_reducible exact ⟨rfl, rfl⟩
 case hc => exact sadd_at 5 1 1 rfl _ O ok0 hrow first07
 clear O; rintro e w30 ⟨m1, vs1, N1, rfl, O, ok1⟩
 clear hrow; refine ⟨_, rfl, ?_⟩
 intro a29 hE e32 kp; refine sd 29 hE k (Z03 rfl e32) ?_; intro a31 hE e29 kp; apply Z02 33 hE k rfl rfl rfl rfl; case h =>
  simp [go_sem, ↓IntWalk.iteOmega, ev e29]
  with_reducible rfl
 intro a32 hE e33 kp; replace e29 := kt kp e29; apply Z02 34 hE k rfl rfl rfl rfl; case h =>
  simp [go_sem, ↓IntWalk.iteOmega, ev e29]
  with_reducible rfl
 intro a33 hE e34 kp; replace e33 := kt kp e33; refine sd 5 hE k (Z01 rfl e33) ?_; intro a34 hE e5 kp; replace e34 := kt kp e34; refine sd 6 hE k (Z01 rfl e34) ?_; intro a35 hE e6 kp; replace e5 := kt kp e5; refine wpList_nil ?_; replace e2 := hE.g e2; replace e3 := hE.g e3; replace k := k.env hE; clear hE e28; refine Z00 (wp_seq ?_); refine wp_region_lit ?_
 have hE := Env.refl a35 [36, 37, 38, 35, 39, 40, 7, 8]; refine zm 36 hE k e3 ?_; intro a36 hE e36 kp; refine zm 37 hE k e5 ?_; intro a37 hE e37 kp; replace e36 := kt kp e36; apply Z06 38 hE k rfl (by rfl) (by rfl) rfl
 case h =>
  simp [go_sem, ↓IntWalk.iteOmega, ev e36, ev e37]
  with_reducible exact ⟨rfl, rfl⟩
 case hc => exact sread_add 1 5 _ O ok1 rfl
 clear O; rintro e w39 ⟨By, cy, rfl, O⟩
 refine ⟨_, rfl, ?_⟩
 intro a38 hE e38 kp; refine sd 35 hE k (Z03 rfl e38) ?_; intro a40 hE e35 kp; apply Z02 39 hE k rfl rfl rfl rfl; case h =>
  simp [go_sem, ↓IntWalk.iteOmega, ev e35]
  with_reducible rfl
 intro a41 hE e39 kp; replace e35 := kt kp e35; apply Z02 40 hE k rfl rfl rfl rfl; case h =>
  simp [go_sem, ↓IntWalk.iteOmega, ev e35]
  with_reducible rfl
 intro a42 hE e40 kp; replace e39 := kt kp e39; refine Z19 O (cs := #[.int .i64 0, .slice none 0 0]) (t := 47) 7 hE k rfl (by rfl) (by rfl) rfl (by simp [go_sem, ↓IntWalk.iteOmega]) ?_
 clear O; intro lb a43 w44 O hE e7 kp; replace e39 := kt kp e39; replace e40 := kt kp e40; have q0 : w44.cell? ⟨lb, 0, none⟩ = some (.int .i64 0) := (OwnT.blk O 0 rfl).cell 0
 have z0 : w44.frozen? ⟨lb, 0, none⟩ = false := (OwnT.blk O 0 rfl).frozen 0
 have q1 : w44.cell? ⟨lb, 1, none⟩ = some (.slice none 0 0) := (OwnT.blk O 0 rfl).cell 1
 have z1 : w44.frozen? ⟨lb, 1, none⟩ = false := (OwnT.blk O 0 rfl).frozen 1
 refine Z0y (w' := ((w44.setCell ⟨lb, 0, none⟩ (.int .i64 0)).setCell ⟨lb, 1, none⟩ (.slice By 1 cy))) hE rfl rfl (by simp [go_sem, ↓IntWalk.iteOmega, ev e7, ev e39, q0, z0, q1, z1]) ?_
 replace O := OwnT.push 0 rfl (((OwnT.pull O 0 rfl).set 0 (.int .i64 0)).set 1 (.slice By 1 cy))
 clear q0 z0 q1 z1; generalize ((w44.setCell ⟨lb, 0, none⟩ (.int .i64 0)).setCell ⟨lb, 1, none⟩ (.slice By 1 cy)) = w45 at O ⊢
 replace O : OwnT _ _ ([tBlk lb 47 #[.int .i64 0, .slice By 1 cy], tPs (.slice By 1 cy) (nodeP 5), tBlk sb 102 (stB p fm07 0 kb fb), tMap kb 512 (keptV ((fun _ => false))), tMap fb 512 m1, tPool vs1 N1, tDisc p mb B 64 cap bm S07 noL, tMn mb (mn0.useN j)]) w45 := O
 refine sd 8 hE k (Z01 rfl e40) ?_; intro a46 hE e8 kp; replace e7 := kt kp e7; refine wpList_nil ?_; replace e2 := hE.g e2; replace e3 := hE.g e3; replace e5 := hE.g e5; replace e6 := hE.g e6; replace k := k.env hE; clear hE; refine Z00 (wp_seq ?_); refine wp_region_lit ?_
 have hE := Env.refl a46 [41, 42, 43, 44, 45, 9]; refine zm 41 hE k e3 ?_; intro a47 hE e41 kp; refine zm 42 hE k e5 ?_; intro a48 hE e42 kp; replace e41 := kt kp e41; refine zm 43 hE k e5 ?_; intro a49 hE e43 kp; replace e41 := kt kp e41; replace e42 := kt kp e42; refine Z2f (m := 1) (c := 1) O (cs := #[.int .i64 1]) (t := 3) 44 hE k rfl (by rfl) (by rfl) rfl (by simp [go_sem, ↓IntWalk.iteOmega, ev e43]) ?_
 clear O; intro g8 a50 w51 O hE e44 kp; replace e41 := kt kp e41; replace e42 := kt kp e42; apply Z06 45 hE k rfl (by rfl) (by rfl) rfl
 case h =>
  simp [go_sem, ↓IntWalk.iteOmega, ev e41, ev e42, ev e44]
  with_reducible exact ⟨rfl, rfl⟩
 case hc => exact scommit_at (o := 0) (R := [tBlk g8 3 #[.int .i64 1], tBlk lb 47 #[.int .i64 0, .slice By 1 cy], tPs (.slice By 1 cy) (nodeP 5)]) (xs := [1]) 1 _ (OwnT.pick O [3, 4, 5, 6, 7, 8, 0, 1, 2] (by decide)) ok1 (fun W OW => row1_blk OW.t0) (by decide) (heads_fm (by decide) fm07_ok) (by decide) (mn0_ok.useN j) (by omega) fm07_next lost07 (.inr (by decide)) (mn0_free.useN j)
 clear O; rintro e w53 ⟨j2, m2, rfl, hj2, O, ok2, hh2⟩
 refine ⟨_, rfl, ?_⟩
 intro a52 hE e45 kp; refine sd 9 hE k (Z01 rfl e45) ?_; intro a54 hE e9 kp; refine wpList_nil ?_; replace e2 := hE.g e2; replace e3 := hE.g e3; replace e5 := hE.g e5; replace e6 := hE.g e6; replace e7 := hE.g e7; replace e8 := hE.g e8; replace k := k.env hE; clear hE; refine Z00 ?_; have hnw := hh2.newest (OwnT.disc (OwnT.pull O 4 rfl)).ok (by decide)
 obtain ⟨K2, hK2⟩ : ∃ K2, inP (pgs 64) [1] = K2 := ⟨_, rfl⟩
 rw [hK2] at O ok2
 refine wp_seq ?_; refine wp_region_lit ?_
 have hE := Env.refl a54 [47, 48, 46, 49, 50, 10, 11]; refine zm 47 hE k e2 ?_; intro a55 hE e47 kp; apply Z06 48 hE k rfl (by rfl) (by rfl) rfl
 case h =>
  simp [go_sem, ↓IntWalk.iteOmega, ev e47]
  with_reducible exact ⟨rfl, rfl⟩
 case hc => exact sopen_is (R := [tBlk sb 102 (stB p (nextHd fm07 1) 1 kb fb), tMap kb 512 (keptV K2), tMap fb 512 m2, tPool vs1 N1, tBlk g8 3 #[.int .i64 1], tBlk lb 47 #[.int .i64 0, .slice By 1 cy], tPs (.slice By 1 cy) (nodeP 5)]) _ (OwnT.pick O [4, 5, 0, 1, 2, 3, 6, 7, 8] (by decide)) (by decide) ((mn0_free.useN j).useN j2).1 hnw
 clear O; rintro e w57 ⟨ub, kb2, fb2, rfl, O⟩
 refine ⟨_, rfl, ?_⟩
 intro a56 hE e48 kp; refine sd 46 hE k (Z03 rfl e48) ?_; intro a58 hE e46 kp; apply Z02 49 hE k rfl rfl rfl rfl; case h =>
  simp [go_sem, ↓IntWalk.iteOmega, ev e46]
  with_reducible rfl
 intro a59 hE e49 kp; replace e46 := kt kp e46; apply Z02 50 hE k rfl rfl rfl rfl; case h =>
  simp [go_sem, ↓IntWalk.iteOmega, ev e46]
  with_reducible rfl
 intro a60 hE e50 kp; replace e49 := kt kp e49; refine sd 10 hE k (Z01 rfl e49) ?_; intro a61 hE e10 kp; replace e50 := kt kp e50; refine sd 11 hE k (Z01 rfl e50) ?_; intro a62 hE e11 kp; replace e10 := kt kp e10; refine wpList_nil ?_; replace e3 := hE.g e3; replace e5 := hE.g e5; replace e6 := hE.g e6; replace e7 := hE.g e7; replace e8 := hE.g e8; replace e9 := hE.g e9; replace k := k.env hE; clear hE e2; refine Z00 (wp_seq ?_); refine wp_seq ?_; refine wp_region_lit ?_
 have hE := Env.refl a62 [51, 52, 53, 54, 55, 56]; refine zm 51 hE k e11 ?_; intro a63 hE e51 kp; refine sd 52 hE k (Z08 (Z0u rfl e51 rfl) (decide_eq_false (by omega))) ?_
 intro a64 hE e52 kp; refine sd 53 hE k (Z03 rfl e52) ?_; intro a65 hE e53 kp; apply Z04 54 hE k rfl rfl rfl rfl rfl e53
 case h =>
  exact Z03 rfl (hE.g e10)
 intro a66 hE e54 kp; replace e53 := kt kp e53; apply Z04 55 hE k rfl rfl rfl rfl rfl e53
 case h =>
  simp [go_sem, ↓IntWalk.iteOmega, ev e54]
  with_reducible rfl
 intro a67 hE e55 kp; replace e53 := kt kp e53; refine sd 56 hE k (Z0i rfl e53 e55) ?_; intro a68 hE e56 kp; refine wpList_nil ?_; replace e3 := hE.g e3; replace e5 := hE.g e5; replace e6 := hE.g e6; replace e7 := hE.g e7; replace e8 := hE.g e8; replace e9 := hE.g e9; replace e10 := hE.g e10; replace k := k.env hE; clear hE e11; refine Z00 ?_; refine Z07 e56 rfl ?_
 refine wp_skip ?_; refine Z00 (wp_seq ?_); refine wp_region_lit ?_
 have hE := Env.refl a68 [58, 59, 57, 60, 61, 12, 13]; refine zm 58 hE k e10 ?_; intro a69 hE e58 kp; apply Z06 59 hE k rfl (by rfl) (by rfl) rfl
 case h =>
  simp [go_sem, ↓IntWalk.iteOmega, ev e58]
  with_reducible exact ⟨rfl, rfl⟩
 case hc => exact Z58 (M := (mn0.useN j).useN j2) 1 1 5 rfl _ (OwnT.stR O) (OwnT.disc (OwnT.pull O 4 rfl)) ok0 (by decide) rfl (OwnT.get O 5 rfl) ((mn0_free.useN j).useN j2).1 page07
 rintro e w71 ⟨Bk, ck, rfl, hk, RE⟩
 replace O := OwnT.ext O RE; refine ⟨_, rfl, ?_⟩
 intro a70 hE e59 kp; refine sd 57 hE k (Z03 rfl e59) ?_; intro a72 hE e57 kp; apply Z02 60 hE k rfl rfl rfl rfl; case h =>
  simp [go_sem, ↓IntWalk.iteOmega, ev e57]
  with_reducible rfl
 intro a73 hE e60 kp; replace e57 := kt kp e57; apply Z02 61 hE k rfl rfl rfl rfl; case h =>
  simp [go_sem, ↓IntWalk.iteOmega, ev e57]
  with_reducible rfl
 intro a74 hE e61 kp; replace e60 := kt kp e60; refine Z7j O (cs := #[.int .i64 0, .slice none 0 0]) (t := 47) 12 hE k rfl (by rfl) (by rfl) rfl (by simp [go_sem, ↓IntWalk.iteOmega]) ?_
 clear O; intro lk a75 w76 RX O hE e12 kp; replace hk := Row.ext hk RX
 clear RX; replace e60 := kt kp e60; replace e61 := kt kp e61; have q0 : w76.cell? ⟨lk, 0, none⟩ = some (.int .i64 0) := (OwnT.blk O 0 rfl).cell 0
 have z0 : w76.frozen? ⟨lk, 0, none⟩ = false := (OwnT.blk O 0 rfl).frozen 0
 have q1 : w76.cell? ⟨lk, 1, none⟩ = some (.slice none 0 0) := (OwnT.blk O 0 rfl).cell 1
 have z1 : w76.frozen? ⟨lk, 1, none⟩ = false := (OwnT.blk O 0 rfl).frozen 1
 have hbr := OwnT.blk O 0 rfl
 refine Z0y (w' := ((w76.setCell ⟨lk, 0, none⟩ (.int .i64 0)).setCell ⟨lk, 1, none⟩ (.slice Bk 1 ck))) hE rfl rfl (by simp [go_sem, ↓IntWalk.iteOmega, ev e12, ev e60, q0, z0, q1, z1]) ?_
 replace O := OwnT.push 0 rfl (((OwnT.pull O 0 rfl).set 0 (.int .i64 0)).set 1 (.slice Bk 1 ck))
 replace hk := Z62 (v0 := .int .i64 0) (v1 := .slice Bk 1 ck) hk hbr
 clear hbr; clear q0 z0 q1 z1; generalize ((w76.setCell ⟨lk, 0, none⟩ (.int .i64 0)).setCell ⟨lk, 1, none⟩ (.slice Bk 1 ck)) = w77 at O hk ⊢
 replace O : OwnT _ _ ([tBlk lk 47 #[.int .i64 0, .slice Bk 1 ck], tBlk ub 102 (stB p (nextHd fm07 1) 1 kb2 fb2), tMap kb2 512 (keptV ((fun _ => false))), tMap fb2 512 ((fun _ => none)), tPool ([]) ([]), tDisc p mb B 64 cap bm T07 noL, tMn mb ((mn0.useN j).useN j2), tBlk sb 102 (stB p (nextHd fm07 1) 1 kb fb), tMap kb 512 (keptV K2), tMap fb 512 m2, tPool vs1 N1, tBlk g8 3 #[.int .i64 1], tBlk lb 47 #[.int .i64 0, .slice By 1 cy], tPs (.slice By 1 cy) (nodeP 5)]) w77 := O
 refine sd 13 hE k (Z01 rfl e61) ?_; intro a78 hE e13 kp; replace e12 := kt kp e12; refine wpList_nil ?_; replace e3 := hE.g e3; replace e5 := hE.g e5; replace e6 := hE.g e6; replace e7 := hE.g e7; replace e8 := hE.g e8; replace e9 := hE.g e9; replace e10 := hE.g e10; replace k := k.env hE; clear hE e56; refine Z00 ?_; have hy : Row w77 By 2 pairC (nodeP 5) := by obtain ⟨B9, c9, e9, -, -, h9, -⟩ := ps_row (OwnT.get O 13 rfl); cases e9; exact h9
 have hcnt : ((pgs 64 : Nat) : Int) - 1 - ((kL (pgs 64) K2).length : Nat) - ((fL (pgs 64) (fun _ => none)).length : Nat) = 2 := by rw [← hK2]; decide
 have hsu := OwnT.stR O.tail
 have hss := OwnT.stR O.tail.tail.tail.tail.tail.tail.tail
 have hdd := OwnT.disc (OwnT.pull O 5 rfl)
 refine wp_seq ?_; refine Z1f (R := Ext) (w0 := w77) [[], [0], [0, 1], [0, 1, 2], rg 4, rg 5, rg 6, rg 7, rg 8, rg 9, rg 10, rg 11, rg 11, rg 13, rg 14, rg 15, rg 16, rg 17, rg 18, rg 19, rg 20, rg 21, rg 22, rg 23, rg 24, rg 25, rg 26, rg 27, rg 28, rg 29, rg 30, rg 31, rg 32, rg 33, rg 34, rg 35, rg 36, rg 36, rg 38, rg 39, rg 40, rg 41, rg 42, rg 43, rg 44, rg 45, rg 46, rg 47, rg 48, rg 49, rg 50] [62, 63, 64, 65, 66, 67, 68, 69, 70, 71, 72, 73, 74, 75, 76, 77, 78, 79, 80, 81, 82, 83, 84, 85, 86, 87, 88, 89, 90, 91, 92, 93, 94, 95, 96, 97, 98, 99, 100, 101, 102, 103, 104, 105, 106, 107, 108, 109, 110, 111, 0] Ext.refl (fun _ _ _ => Ext.trans) (Ext.drew _) (by kernel_rfl) ?_
 apply bd 62 k rfl rfl rfl; case h =>
  intro ax wx hE hR hF; exact Z03 rfl (hE.g e5)
 apply bd 63 k rfl rfl rfl; case h =>
  intro ax wx hE hR hF; have e62 := zhF hF 0 62 ml0; exact Z08 (Z2c rfl e62 rfl) (decide_eq_true (by omega))
 apply bd 64 k rfl rfl rfl; case h =>
  intro ax wx hE hR hF; have e63 := zhF hF 1 63 ml0; exact Z03 rfl e63
 apply bdg 65 k rfl rfl rfl rfl; case h =>
  intro ax wx hE hR hF; have e64 := zhF hF 2 64 ml0; refine ⟨e64, ?_⟩; exact Z03 rfl (hE.g e6)
 apply bdg 66 k rfl rfl rfl rfl; case h =>
  intro ax wx hE hR hF; have e65 := zhF hF 3 65 ml0; have e64 := zhF hF 2 64 ml1; refine ⟨e64, ?_⟩; exact Z08 (Z2c rfl e65 rfl) (decide_eq_true (by omega))
 apply bd 67 k rfl rfl rfl; case h =>
  intro ax wx hE hR hF; have e64 := zhF hF 2 64 ml2; have e66 := zhF hF 4 66 ml0; exact Z0e rfl e64 e66
 apply bd 68 k rfl rfl rfl; case h =>
  intro ax wx hE hR hF; have e67 := zhF hF 5 67 ml0; exact Z03 rfl e67
 apply bdg 69 k rfl rfl rfl rfl; case h =>
  intro ax wx hE hR hF; have e68 := zhF hF 6 68 ml0; refine ⟨e68, ?_⟩; exact Z03 rfl (hE.g e8)
 apply bdg 70 k rfl rfl rfl rfl; case h =>
  intro ax wx hE hR hF; have e69 := zhF hF 7 69 ml0; have e68 := zhF hF 6 68 ml1; refine ⟨e68, ?_⟩; exact Z08 (Z2c rfl e69 rfl) (decide_eq_true (by omega))
 apply bd 71 k rfl rfl rfl; case h =>
  intro ax wx hE hR hF; have e68 := zhF hF 6 68 ml2; have e70 := zhF hF 8 70 ml0; exact Z0e rfl e68 e70
 apply bd 72 k rfl rfl rfl; case h =>
  intro ax wx hE hR hF; have e71 := zhF hF 9 71 ml0; exact Z03 rfl e71
 apply bdg 73 k rfl rfl rfl rfl; case h =>
  intro ax wx hE hR hF; have e72 := zhF hF 10 72 ml0; refine ⟨e72, ?_⟩; have q0 : wx.cell? ⟨lb, 0, none⟩ = some (.int .i64 0) := (OwnT.blk (OwnT.ext O hR) 12 rfl).cell 0
  have q1 : wx.cell? ⟨lb, 1, none⟩ = some (.slice By 1 cy) := (OwnT.blk (OwnT.ext O hR) 12 rfl).cell 1
  simp [go_sem, ↓IntWalk.iteOmega, ev (hE.g e7), q0, q1]
  with_reducible rfl
 apply Build.callnewg 74 (fun v w => ∃ g, v = .agg #[.int .i64 0, .slice (some ⟨g, 0, none⟩) 1 1] ∧ Row w (some ⟨g, 0, none⟩) 2 pairC (nodeP 5)) (fun v w w' hR h => by obtain ⟨g, e, h⟩ := h; exact ⟨g, e, h.ext hR⟩) Ext.refl (by rfl) (by rw [k.size]; rfl) rfl rfl
 case h =>
  intro ax wx hE hR hF; have e72 := zhF hF 10 72 ml1; refine ⟨e72, ?_⟩; simp [go_sem, ↓IntWalk.iteOmega]
  with_reducible exact ⟨rfl, rfl⟩
 case hc => exact fun wx hR => (Z39 5 wx).mono (fun e w' ⟨g, h1, h2, h3⟩ => ⟨_, h1, h3, g, rfl, h2⟩)
 apply Build.callxg 75 Ext.refl (by rfl) (by rw [k.size]; rfl) rfl rfl
 case h =>
  intro ax wx hE hR hF; have e73 := zhF hF 11 73 ml1; have f74 := hF 12 _ (by decide) ml0
  have e72 := zhF hF 10 72 ml2; refine ⟨e72, ?_⟩; obtain ⟨g9, e74, hg9⟩ := f74
  refine ⟨_, _, ?_, Z2h (cy := cy) (cz := 1) (a := 5) (hy.ext hR) hg9⟩
  simp [go_sem, ↓IntWalk.iteOmega, ev e73, ev e74]
 apply bd 76 k rfl rfl rfl; case h =>
  intro ax wx hE hR hF; have e72 := zhF hF 10 72 ml3; have e75 := zhF hF 13 75 ml0; exact Z0e rfl e72 e75
 apply bd 77 k rfl rfl rfl; case h =>
  intro ax wx hE hR hF; have e76 := zhF hF 14 76 ml0; exact Z03 rfl e76
 apply bdg 78 k rfl rfl rfl rfl; case h =>
  intro ax wx hE hR hF; have e77 := zhF hF 15 77 ml0; refine ⟨e77, ?_⟩; exact Z03 rfl (hE.g e9)
 apply bdg 79 k rfl rfl rfl rfl; case h =>
  intro ax wx hE hR hF; have e78 := zhF hF 16 78 ml0; have e77 := zhF hF 15 77 ml1; refine ⟨e77, ?_⟩; exact Z08 (Z2c rfl e78 rfl) (decide_eq_true (by omega))
 apply bd 80 k rfl rfl rfl; case h =>
  intro ax wx hE hR hF; have e77 := zhF hF 15 77 ml2; have e79 := zhF hF 17 79 ml0; exact Z0e rfl e77 e79
 apply bd 81 k rfl rfl rfl; case h =>
  intro ax wx hE hR hF; have e80 := zhF hF 18 80 ml0; exact Z03 rfl e80
 apply bdg 82 k rfl rfl rfl rfl; case h =>
  intro ax wx hE hR hF; have e81 := zhF hF 19 81 ml0; refine ⟨e81, ?_⟩; exact Z03 rfl (hE.g e10)
 apply Build.callg 83 Ext.refl (by rfl) (by rw [k.size]; rfl) rfl rfl
 case h =>
  intro ax wx hE hR hF; have e82 := zhF hF 20 82 ml0; have e81 := zhF hF 19 81 ml1; refine ⟨e81, ?_⟩; simp [go_sem, ↓IntWalk.iteOmega, ev e82]
  with_reducible exact ⟨rfl, rfl⟩
 case hc => intro wx hR; exact (show Calls _ _ _ _ (fun e w' => e = .returned (.agg #[.int .u64 2, .int .i64 1, .int .i64 9, .int .i64 3, .int .i64 2]) ∧ Ext wx w') from (Z2g wx (hsu.ext hR)).mono (fun e w' h => ⟨h.1.trans (rfl), h.2⟩))
 apply bdg 84 k rfl rfl rfl rfl; case h =>
  intro ax wx hE hR hF; have e83 := zhF hF 21 83 ml0; have e81 := zhF hF 19 81 ml2; refine ⟨e81, ?_⟩; simp [go_sem, ↓IntWalk.iteOmega, ev e83, fld_gen]
  with_reducible rfl
 apply bdg 85 k rfl rfl rfl rfl; case h =>
  intro ax wx hE hR hF; have e84 := zhF hF 22 84 ml0; have e81 := zhF hF 19 81 ml3; refine ⟨e81, ?_⟩; exact Z08 (Z2c rfl e84 rfl) (decide_eq_true rfl)
 apply bd 86 k rfl rfl rfl; case h =>
  intro ax wx hE hR hF; have e81 := zhF hF 19 81 ml4; have e85 := zhF hF 23 85 ml0; exact Z0e rfl e81 e85
 apply bd 87 k rfl rfl rfl; case h =>
  intro ax wx hE hR hF; have e86 := zhF hF 24 86 ml0; exact Z03 rfl e86
 apply bdg 88 k rfl rfl rfl rfl; case h =>
  intro ax wx hE hR hF; have e87 := zhF hF 25 87 ml0; refine ⟨e87, ?_⟩; exact Z03 rfl (hE.g e10)
 apply Build.callg 89 Ext.refl (by rfl) (by rw [k.size]; rfl) rfl rfl
 case h =>
  intro ax wx hE hR hF; have e88 := zhF hF 26 88 ml0; have e87 := zhF hF 25 87 ml1; refine ⟨e87, ?_⟩; simp [go_sem, ↓IntWalk.iteOmega, ev e88]
  with_reducible exact ⟨rfl, rfl⟩
 case hc => intro wx hR; exact (show Calls _ _ _ _ (fun e w' => e = .returned (.agg #[.int .u64 2, .int .i64 1, .int .i64 9, .int .i64 3, .int .i64 2]) ∧ Ext wx w') from (Z2g wx (hsu.ext hR)).mono (fun e w' h => ⟨h.1.trans (rfl), h.2⟩))
 apply bdg 90 k rfl rfl rfl rfl; case h =>
  intro ax wx hE hR hF; have e89 := zhF hF 27 89 ml0; have e87 := zhF hF 25 87 ml2; refine ⟨e87, ?_⟩; simp [go_sem, ↓IntWalk.iteOmega, ev e89, Z6b]
  with_reducible rfl
 apply bdg 91 k rfl rfl rfl rfl; case h =>
  intro ax wx hE hR hF; have e90 := zhF hF 28 90 ml0; have e87 := zhF hF 25 87 ml3; refine ⟨e87, ?_⟩; exact Z08 (Z2c rfl e90 rfl) (decide_eq_true rfl)
 apply bd 92 k rfl rfl rfl; case h =>
  intro ax wx hE hR hF; have e87 := zhF hF 25 87 ml4; have e91 := zhF hF 29 91 ml0; exact Z0e rfl e87 e91
 apply bd 93 k rfl rfl rfl; case h =>
  intro ax wx hE hR hF; have e92 := zhF hF 30 92 ml0; exact Z03 rfl e92
 apply bdg 94 k rfl rfl rfl rfl; case h =>
  intro ax wx hE hR hF; have e93 := zhF hF 31 93 ml0; refine ⟨e93, ?_⟩; exact Z03 rfl (hE.g e13)
 apply bdg 95 k rfl rfl rfl rfl; case h =>
  intro ax wx hE hR hF; have e94 := zhF hF 32 94 ml0; have e93 := zhF hF 31 93 ml1; refine ⟨e93, ?_⟩; exact Z08 (Z2c rfl e94 rfl) (decide_eq_true (by omega))
 apply bd 96 k rfl rfl rfl; case h =>
  intro ax wx hE hR hF; have e93 := zhF hF 31 93 ml2; have e95 := zhF hF 33 95 ml0; exact Z0e rfl e93 e95
 apply bd 97 k rfl rfl rfl; case h =>
  intro ax wx hE hR hF; have e96 := zhF hF 34 96 ml0; exact Z03 rfl e96
 apply bdg 98 k rfl rfl rfl rfl; case h =>
  intro ax wx hE hR hF; have e97 := zhF hF 35 97 ml0; refine ⟨e97, ?_⟩; have q0 : wx.cell? ⟨lk, 0, none⟩ = some (.int .i64 0) := (OwnT.blk (OwnT.ext O hR) 0 rfl).cell 0
  have q1 : wx.cell? ⟨lk, 1, none⟩ = some (.slice Bk 1 ck) := (OwnT.blk (OwnT.ext O hR) 0 rfl).cell 1
  simp [go_sem, ↓IntWalk.iteOmega, ev (hE.g e12), q0, q1]
  with_reducible rfl
 apply Build.callnewg 99 (fun v w => ∃ g, v = .agg #[.int .i64 0, .slice (some ⟨g, 0, none⟩) 1 1] ∧ Row w (some ⟨g, 0, none⟩) 2 pairC (nodeP 5)) (fun v w w' hR h => by obtain ⟨g, e, h⟩ := h; exact ⟨g, e, h.ext hR⟩) Ext.refl (by rfl) (by rw [k.size]; rfl) rfl rfl
 case h =>
  intro ax wx hE hR hF; have e97 := zhF hF 35 97 ml1; refine ⟨e97, ?_⟩; simp [go_sem, ↓IntWalk.iteOmega]
  with_reducible exact ⟨rfl, rfl⟩
 case hc => exact fun wx hR => (Z39 5 wx).mono (fun e w' ⟨g, h1, h2, h3⟩ => ⟨_, h1, h3, g, rfl, h2⟩)
 apply Build.callxg 100 Ext.refl (by rfl) (by rw [k.size]; rfl) rfl rfl
 case h =>
  intro ax wx hE hR hF; have e98 := zhF hF 36 98 ml1; have f99 := hF 37 _ (by decide) ml0
  have e97 := zhF hF 35 97 ml2; refine ⟨e97, ?_⟩; obtain ⟨g9, e99, hg9⟩ := f99
  refine ⟨_, _, ?_, Z2h (cy := ck) (cz := 1) (a := 5) (hk.ext hR) hg9⟩
  simp [go_sem, ↓IntWalk.iteOmega, ev e98, ev e99]
 apply bd 101 k rfl rfl rfl; case h =>
  intro ax wx hE hR hF; have e97 := zhF hF 35 97 ml3; have e100 := zhF hF 38 100 ml0; exact Z0e rfl e97 e100
 apply bd 102 k rfl rfl rfl; case h =>
  intro ax wx hE hR hF; have e101 := zhF hF 39 101 ml0; exact Z03 rfl e101
 apply bdg 103 k rfl rfl rfl rfl; case h =>
  intro ax wx hE hR hF; have e102 := zhF hF 40 102 ml0; refine ⟨e102, ?_⟩; exact Z03 rfl (hE.g e3)
 apply Build.callg 104 Ext.refl (by rfl) (by rw [k.size]; rfl) rfl rfl
 case h =>
  intro ax wx hE hR hF; have e103 := zhF hF 41 103 ml0; have e102 := zhF hF 40 102 ml1; refine ⟨e102, ?_⟩; simp [go_sem, ↓IntWalk.iteOmega, ev e103]
  with_reducible exact ⟨rfl, rfl⟩
 case hc => intro wx hR; exact (show Calls _ _ _ _ (fun e w' => e = .returned (.int .i64 4) ∧ Ext wx w') from ((Z1o wx (hss.ext hR) (hdd.ext hR)).mono (fun e w' h => (⟨h.1, h.2 ▸ Ext.refl _⟩ : _ ∧ Ext wx w'))).mono (fun e w' h => ⟨h.1.trans (rfl), h.2⟩))
 apply bdg 105 k rfl rfl rfl rfl; case h =>
  intro ax wx hE hR hF; have e104 := zhF hF 42 104 ml0; have e102 := zhF hF 40 102 ml2; refine ⟨e102, ?_⟩; exact Z08 (Z2c rfl e104 rfl) (decide_eq_true (by omega))
 apply bd 106 k rfl rfl rfl; case h =>
  intro ax wx hE hR hF; have e102 := zhF hF 40 102 ml3; have e105 := zhF hF 43 105 ml0; exact Z0e rfl e102 e105
 apply bd 107 k rfl rfl rfl; case h =>
  intro ax wx hE hR hF; have e106 := zhF hF 44 106 ml0; exact Z03 rfl e106
 apply bdg 108 k rfl rfl rfl rfl; case h =>
  intro ax wx hE hR hF; have e107 := zhF hF 45 107 ml0; refine ⟨e107, ?_⟩; exact Z03 rfl (hE.g e3)
 apply Build.callg 109 Ext.refl (by rfl) (by rw [k.size]; rfl) rfl rfl
 case h =>
  intro ax wx hE hR hF; have e108 := zhF hF 46 108 ml0; have e107 := zhF hF 45 107 ml1; refine ⟨e107, ?_⟩; simp [go_sem, ↓IntWalk.iteOmega, ev e108]
  with_reducible exact ⟨rfl, rfl⟩
 case hc => intro wx hR; exact (show Calls _ _ _ _ (fun e w' => e = .returned (.int .i64 2) ∧ Ext wx w') from (scount_any wx (hss.ext hR) (hdd.ext hR) ok2 rfl).mono (fun e w' h => ⟨h.1.trans (congrArg (fun z => Ending.returned (Value.int .i64 z)) hcnt), h.2⟩))
 apply bdg 110 k rfl rfl rfl rfl; case h =>
  intro ax wx hE hR hF; have e109 := zhF hF 47 109 ml0; have e107 := zhF hF 45 107 ml2; refine ⟨e107, ?_⟩; exact Z08 (Z2c rfl e109 rfl) (decide_eq_true (by omega))
 apply bd 111 k rfl rfl rfl; case h =>
  intro ax wx hE hR hF; have e107 := zhF hF 45 107 ml3; have e110 := zhF hF 48 110 ml0; exact Z0e rfl e107 e110
 apply bd 0 k rfl rfl rfl; case h =>
  intro ax wx hE hR hF; have e111 := zhF hF 49 111 ml0; exact Z01 rfl e111
 apply Build.stop
 refine ⟨by kernel_rfl, .inl ⟨rfl, ?_⟩⟩
 intro a79 w80 hE R hF; have e0 : a79.eval (.tmp 0) = _ := hF 50 (det 0 _) ml0
 clear hF; replace O := OwnT.ext O R; replace hk := Row.ext hk R
 clear R; replace k := k.env hE; clear hE e3 e5 e6 e7 e8 e9 e10 e12 e13; refine Z00 ?_; refine wp_ret ?_
 refine Z0d rfl k e0 ?_
 exact ⟨rfl, O.below⟩
end Go.Proofs.YtakkhglbdljfiaaGreatDoor

/- The store's pages counted; rows of new pages (plain). -/
namespace Go.Proofs.YtakkhglbdljfiaaGreatDoor
set_option linter.unusedVariables false
set_option linter.unusedSimpArgs false
open Go.RowKit Go.Maps

theorem riseN_succ (P : Nat) (p : Int → Bool) : riseN (P + 1) p = riseN P p ++ (if p (P : Nat) then [((P : Nat) : Int)] else []) := by
  unfold riseN
  rw [List.range_succ, List.map_append, List.filter_append]
  congr 1
  show ([((P : Nat) : Int)]).filter p = _
  rw [List.filter_cons]
  rfl
theorem Z1i (P : Nat) (p : Int → Bool) : (riseN (P + 1) p).length = (riseN P p).length + (if p (P : Nat) then 1 else 0) := by
  rw [riseN_succ, List.length_append]
  split <;> rfl
/-- The free pages. -/
def freeL (P : Nat) (K : Int → Bool) (F : Int → Option Nd) : List Int := riseN P fun c => decide (1 ≤ c) && freeB K F c
section
variable {P : Nat} {K : Int → Bool} {F : Int → Option Nd} {ps : List Int} {g : Nat → Int} {c : Int}
theorem count3 (hK : K 0 = false) (hF : F 0 = none) (hd : ∀ c, K c = true → F c = none) : ∀ P : Nat, (kL (P + 1) K).length + (fL (P + 1) F).length + (freeL (P + 1) K F).length = P
  | 0 => by
    unfold kL fL freeL
    rw [Z1i, Z1i, Z1i]
    simp [riseN, hK, hF]
  | P + 1 => by
    have ih := count3 hK hF hd P
    unfold kL fL freeL at *
    rw [Z1i, Z1i (P + 1), Z1i (P + 1)]
    have h1 : decide ((1 : Int) ≤ ((P + 1 : Nat) : Int)) = true := decide_eq_true (by omega)
    have hdc := hd ((P + 1 : Nat) : Int)
    unfold freeB at *
    cases hk : K ((P + 1 : Nat) : Int) with
    | true =>
      rw [hdc hk]
      simp only [h1, Option.isSome_none, Bool.not_true, Bool.and_false, if_true]
      simp only [Bool.false_eq_true, if_false]
      omega
    | false =>
      cases hf : F ((P + 1 : Nat) : Int) with
      | none =>
        simp only [h1, Option.isSome_none, Bool.not_false, Bool.and_true, if_true]
        simp only [Bool.false_eq_true, if_false]
        omega
      | some nd =>
        simp only [h1, Option.isSome_some, Bool.not_true, Bool.not_false, Bool.and_true, Bool.and_false, if_true]
        simp only [Bool.false_eq_true, if_false]
        omega
/-- Committed pages are not new. -/
structure Apart7 (K : Int → Bool) (F : Int → Option Nd) : Prop where
  k0 : K 0 = false
  f0 : F 0 = none
  no : ∀ c, K c = true → F c = none
theorem StOk.apart {vs : List Value} {N : List Nd} {m : Int → Option Value} (s : StOk P K F vs N m) (h : ∀ c, K c = true → F c = none) : Apart7 K F := by
  refine ⟨?_, ?_, h⟩
  · cases h0 : K 0 with
    | false => rfl
    | true => exact absurd (s.kr 0 h0).1 (by decide)
  · cases h0 : F 0 with
    | none => rfl
    | some nd => exact absurd (s.fr 0 nd h0).1 (by decide)
theorem Apart7.count (h : Apart7 K F) (hP : 1 ≤ P) : (kL P K).length + (fL P F).length + (freeL P K F).length = P - 1 := by
  obtain ⟨q, rfl⟩ : ∃ q, P = q + 1 := ⟨P - 1, by omega⟩
  exact count3 h.k0 h.f0 h.no q
theorem freeL_none (h : NoFree P K F) : freeL P K F = [] := by
  unfold freeL riseN
  rw [List.filter_eq_nil_iff]
  intro a ha hb
  obtain ⟨i, hi, rfl⟩ := List.mem_map.1 ha
  rw [Bool.and_eq_true, decide_eq_true_iff] at hb
  have := h i (by omega) (List.mem_range.1 hi)
  rw [hb.2] at this
  cases this
theorem Apart7.full (h : Apart7 K F) (hP : 1 ≤ P) (hn : NoFree P K F) : (kL P K).length + (fL P F).length = P - 1 := by
  have := h.count hP
  rw [freeL_none hn, List.length_nil, Nat.add_zero] at this
  exact this
theorem fL_put (hF : F c = none) (h1 : 0 ≤ c) (nd : Nd) : ∀ P : Nat, (fL P (putF F c nd)).length = (fL P F).length + (if c < (P : Nat) then 1 else 0)
  | 0 => by rw [if_neg (by omega)]; rfl
  | P + 1 => by
    have ih := fL_put hF h1 nd P
    unfold fL at *
    rw [Z1i, Z1i, ih]
    have e : putF F c nd ((P : Nat) : Int) = if ((P : Nat) : Int) = c then some nd else F ((P : Nat) : Int) := rfl
    by_cases hc : ((P : Nat) : Int) = c
    · rw [e, if_pos hc, if_neg (show ¬ c < ((P : Nat) : Int) by omega), if_pos (show c < ((P + 1 : Nat) : Int) by omega), hc, hF]
      simp
    · rw [e, if_neg hc]
      by_cases hl : c < ((P : Nat) : Int)
      · rw [if_pos hl, if_pos (show c < ((P + 1 : Nat) : Int) by omega)]
        omega
      · rw [if_neg hl, if_neg (show ¬ c < ((P + 1 : Nat) : Int) by omega)]
        exact Nat.add_right_comm _ _ _
/-- The new pages are those of a row, with the laws' nodes. -/
structure Adds (P : Nat) (K : Int → Bool) (F : Int → Option Nd) (ps : List Int) (g : Nat → Int) : Prop where
  at_ : ∀ (j : Nat) c, ps[j]? = some c → F c = some (node (g j))
  free : ∀ c ∈ ps, K c = false ∧ 1 ≤ c ∧ c < (P : Nat)
  only : ∀ c, (F c).isSome = true → c ∈ ps
  len : (fL P F).length = ps.length
theorem Adds.nil (P : Nat) (K : Int → Bool) (g : Nat → Int) : Adds P K (fun _ => none) [] g := by
  refine ⟨fun j c h => (by simp at h), fun c h => (by cases h), fun c h => (by cases h), ?_⟩
  have : fL P (fun _ => none) = [] := by
    unfold fL riseN
    rw [List.filter_eq_nil_iff]
    simp
  rw [this]
theorem freeB_is (h : freeB K F c = true) : F c = none ∧ K c = false := by
  unfold freeB at h
  rw [Bool.and_eq_true, Bool.not_eq_true', Bool.not_eq_true', Option.isSome_eq_false_iff, Option.isNone_iff_eq_none] at h
  exact h
theorem Adds.put {d : Nat} (h : Adds P K F ps g) (hf : FirstFree P K F d) : Adds P K (putF F (d : Nat) (node (g ps.length))) (ps ++ [((d : Nat) : Int)]) g := by
  obtain ⟨h1, h2, h3, _⟩ := hf
  obtain ⟨hF, hK⟩ := freeB_is h3
  have hn : ∀ c ∈ ps, c ≠ ((d : Nat) : Int) := fun c hc e => by
    obtain ⟨j, hj⟩ := List.getElem?_of_mem hc
    have := h.at_ j c hj
    rw [e, hF] at this
    cases this
  refine ⟨fun j c hc => ?_, fun c hc => ?_, fun c hc => ?_, ?_⟩
  · by_cases hj : j < ps.length
    · rw [List.getElem?_append_left hj] at hc
      unfold putF
      rw [if_neg (hn c (List.mem_of_getElem? hc))]
      exact h.at_ j c hc
    · rw [List.getElem?_append_right (by omega)] at hc
      have e : j - ps.length = 0 := by have := (List.getElem?_eq_some_iff.1 hc).1; simp at this; omega
      rw [e] at hc
      obtain rfl : ((d : Nat) : Int) = c := by simpa using hc
      unfold putF
      rw [if_pos rfl, show j = ps.length by omega]
  · rcases List.mem_append.1 hc with hc | hc
    · exact h.free c hc
    · obtain rfl := List.mem_singleton.1 hc
      exact ⟨hK, by omega, by omega⟩
  · unfold putF at hc
    split at hc
    · rename_i e
      exact List.mem_append.2 (.inr (List.mem_singleton.2 e))
    · exact List.mem_append.2 (.inl (h.only c hc))
  · rw [fL_put hF (by omega), h.len, if_pos (by omega), List.length_append]
    rfl
theorem Adds.apart (h : Adds P K F ps g) : ∀ c, K c = true → F c = none := fun c hc => by
  cases hf : F c with
  | none => rfl
  | some nd =>
    have := (h.free c (h.only c (by rw [hf]; rfl))).1
    rw [hc] at this
    cases this
theorem Adds.lost (h : Adds P K F ps g) : ps.any (lostB P K F) = false := by
  rw [List.any_eq_false]
  intro c hc
  obtain ⟨_, h1, h2⟩ := h.free c hc
  obtain ⟨j, hj⟩ := List.getElem?_of_mem hc
  have hf := h.at_ j c hj
  unfold lostB freeB
  rw [decide_eq_true (show 1 ≤ c ∧ c < (P : Nat) from ⟨h1, h2⟩), hf]
  simp
theorem Adds.kept (h : Adds P K F ps g) : (kL P (inP P ps)).length = ps.length := by
  rw [← h.len]
  unfold kL fL
  congr 1
  refine Z7l fun i hi => ?_
  unfold inP
  cases hf : F ((i : Nat) : Int) with
  | none =>
    refine decide_eq_false fun hh => ?_
    obtain ⟨j, hj⟩ := List.getElem?_of_mem hh.1
    have := h.at_ j _ hj
    rw [hf] at this
    cases this
  | some nd =>
    have hm := h.only ((i : Nat) : Int) (by rw [hf]; rfl)
    exact decide_eq_true ⟨hm, (h.free _ hm).2⟩
theorem Adds.todo (h : Adds P K F ps g) (hc : c ∈ ps) : c ∈ todo P F ps := by
  obtain ⟨j, hj⟩ := List.getElem?_of_mem hc
  obtain ⟨_, h1, h2⟩ := h.free c hc
  exact Z1u.2 ⟨⟨⟨by omega, h2⟩, by rw [h.at_ j c hj]; rfl⟩, hc⟩
/-- What a commit of them leaves. -/
theorem Adds.page {S : List Sec} {o : Nat} {hb : List UInt8} {j : Nat} (h : Adds P K F ps g) (hS : 16 * P ≤ S.length) (ho : o < 16) (hj : ps[j]? = some c) : pgS (cmS S F (Go.Proofs.YtakkhglbdljfiaaGreatDoor.todo P F ps) o hb) c.toNat = pgB (node (g j)) := by
  have hm := List.mem_of_getElem? hj
  obtain ⟨_, h1, h2⟩ := h.free c hm
  have e : ((c.toNat : Nat) : Int) = c := Int.toNat_of_nonneg (by omega)
  exact cm_new (nd := node (g j)) (by omega) ho (by omega) (by rw [e]; exact h.todo hm) (by rw [e]; exact h.at_ j c hj) (Z4p _)
end
/-- A row of numbers of one's own. -/
theorem row1_own {w : World} {T : TypeId} {B : Option Addr} {n c : Nat} {xs : List Int} (h : w.ownsRow 0 T 1 (.slice B n c) n (xs.map (Value.int .i64))) (hn : xs.length = n) : Row1 w B (Value.int .i64) xs := by
  intro i x hx
  have hi := (List.getElem?_eq_some_iff.1 hx).1
  obtain ⟨g, cap', cur, e, hb, _, _, _, h5⟩ := Z47 h (by omega)
  injection e with e1
  subst e1
  refine ⟨g, 0, rfl, hb.lt, ?_⟩
  rw [Nat.zero_add, hb.cell, ← Array.getElem?_toList]
  have h6 := congrArg (fun l => l[i]?) h5
  simp only [Nat.mul_one] at h6
  rw [List.getElem?_take_of_lt (by omega), List.getElem?_map, hx] at h6
  exact h6
theorem Z64 {w : World} {T : TypeId} {B : Option Addr} {n c z : Nat} {xs : List Value} {v : Value} (h : w.ownsRow 0 T 1 (.slice B n c) n xs) (hz : xs[z]? = some v) (hzn : z < n) : ∃ g, B = some ⟨g, 0, none⟩ ∧ w.cell? ⟨g, z, none⟩ = some v := by
  obtain ⟨g, cap', cur, e, hb, _, _, _, h5⟩ := Z47 h (by omega)
  injection e with e1
  subst e1
  refine ⟨g, rfl, ?_⟩
  rw [hb.cell, ← hz, ← h5, Nat.mul_one, List.getElem?_take_of_lt hzn]
  simp
theorem Z4i {w : World} {T : TypeId} {g n c z : Nat} {xs : List Value} {v : Value} (h : w.ownsRow 0 T 1 (.slice (some ⟨g, 0, none⟩) n c) n xs) (hz : xs[z]? = some v) (hzn : z < n) : w.cell? ⟨g, z, none⟩ = some v := by
  obtain ⟨g', e, hc⟩ := Z64 h hz hzn
  injection e with e
  injection e with e
  subst e
  exact hc
theorem elemI8 : ElemI Tryz.prog 40 3 1 8 := ⟨Tryz.underlying40, by
  have h : (Tryz.prog.info? 3).map (fun i => (i.zero, i.size, i.bytes)) = some (some (.int .i64 0), 1, 8) := by kernel_rfl
  obtain ⟨i, h1, h2, h3, h4⟩ := info_parts h
  exact ⟨i, _, h1, h2, h3, h4, rfl⟩⟩
def intsV (l : List Int) : List Value := l.map (Value.int .i64)
theorem intsV_app (l : List Int) (x : Int) : intsV (l ++ [x]) = intsV l ++ [Value.int .i64 x] := by simp [intsV]
theorem Z3b {l : List Int} {j : Nat} {c : Int} (h : l[j]? = some c) : (intsV l)[j]? = some (.int .i64 c) := by unfold intsV; rw [List.getElem?_map, h]; rfl
theorem kL_no (P : Nat) : kL P (fun _ => false) = [] := by
  unfold kL riseN
  rw [List.filter_eq_nil_iff]
  simp
theorem looL_no7 (n : Nat) : looL n noL = [] := by
  unfold looL riseN
  rw [List.filter_eq_nil_iff]
  simp
section
variable {H : Nat} {A0 : World} {R : List Thing} {sb p kb fb mb n cap bm : Nat} {B : Option Addr} {S : List Sec} {L : Int → Option Sec} {h : Hd} {at_ : Int} {K : Int → Bool} {m : Int → Option Value} {F : Int → Option Nd} {vs : List Value} {N : List Nd} {M : Mn}
theorem sadd_free (nn : Int) {g : Nat} (w : World) (O : OwnT H A0 (stL sb p h at_ kb fb K m vs N (tDisc p mb B n cap bm S L :: R)) w) (ok : StOk (pgs n) K F vs N m) (hrow : Row w (some ⟨g, 0, none⟩) 2 pairC (nodeP nn)) (hnf : ¬ NoFree (pgs n) K F) :
    Calls Tryz.prog 13 #[.pointer (some ⟨sb, 0, none⟩), .agg #[.int .i64 0, .slice (some ⟨g, 0, none⟩) 1 1]] w fun e w' =>
      ∃ (d : Nat) (m' : Int → Option Value) (vs' : List Value) (N' : List Nd), e = .returned (.tuple #[.int .i64 d, .int .i64 0]) ∧ FirstFree (pgs n) K F d ∧ OwnT H A0 (stL sb p h at_ kb fb K m' vs' N' (tDisc p mb B n cap bm S L :: R)) w' ∧ StOk (pgs n) K (putF F (d : Nat) (node nn)) vs' N' m' := by
  refine (Z6q nn w O ok hrow).mono ?_
  rintro e w' (⟨d, m', vs', N', hd, rfl, O', ok'⟩ | ⟨hn, _⟩)
  · exact ⟨d, m', vs', N', rfl, hd, O', ok'⟩
  · exact (hnf hn).elim
end

/-- What settles: each sector as it was, or as it was loose. -/
theorem setK_sc {q : List UInt8} {L : Int → Option Sec} {i : Nat} : ∀ (xs : List Int) (j : Nat) (S : List Sec), (∀ x ∈ xs, 0 ≤ x ∧ ∃ s, L x = some s) → i < S.length → sc (setK q L xs j S) i = sc S i ∨ L i = some (sc (setK q L xs j S) i)
  | [], _, _, _, _ => .inl rfl
  | x :: r, j, S, h, hi => by
    unfold setK
    obtain ⟨h0, s, hs⟩ := h x (by simp)
    obtain ⟨x, rfl⟩ := Int.eq_ofNat_of_zero_le h0
    rcases setK_sc r (j + 1) (if staysB q j then S.set (x : Int).toNat ((L x).getD []) else S) (fun y hy => h y (by simp [hy])) (by split <;> simpa using hi) with h1 | h1
    · rw [h1]
      split
      · by_cases e : x = i
        · subst e
          refine .inr ?_
          unfold sc
          rw [hs, Int.toNat_natCast, List.getD, List.getElem?_set_self hi]
          rfl
        · refine .inl ?_
          unfold sc
          rw [Int.toNat_natCast, List.getD, List.getElem?_set_ne e, List.getD]
      · exact .inl rfl
    · exact .inr h1
section
variable {P n : Nat} {S : List Sec} {L : Int → Option Sec} {q : List UInt8} {K : Int → Bool} {F : Int → Option Nd} {g : Nat → Int} {h : Hd} {o at_ : Nat} {ps xs : List Int}
theorem Z4f (h : S.length = n) {i : Nat} (hi : i < n) : sc (setK q L (looL n L) 0 S) i = sc S i ∨ L i = some (sc (setK q L (looL n L) 0 S) i) :=
  setK_sc (looL n L) 0 S (fun x hx => by
    have := Z1j.1 hx
    exact ⟨this.1.1, Option.isSome_iff_exists.1 this.2⟩) (by omega)
theorem pgS_same {T : List Sec} {c : Nat} (h : ∀ j, j < 16 → sc T (16 * c + j) = sc S (16 * c + j)) : pgS T c = pgS S c := by
  rw [Z6s, Z6s]
  congr 1
  exact List.map_congr_left (fun j hj => h j (List.mem_range.1 hj))
/-- A head and just its pages lie whole on a device. -/
structure Held (P : Nat) (S : List Sec) (h : Hd) (o at_ : Nat) (ps : List Int) : Prop where
  hd : HeadsAt S h o
  gen : h.g = at_ + 1
  r0 : at_ = 0 → h.r = 0
  r1 : 0 < at_ → ps[0]? = some h.r
  pg : ∀ (j : Nat) c, ps[j]? = some c → (1 ≤ c ∧ c < (P : Nat)) ∧ pgS S c.toNat = pgB (node (100 * ((at_ : Int) - 1) + j))
theorem HeadsAt.same {T : List Sec} (hh : HeadsAt S h o) (h0 : sc T 0 = sc S 0) (h1 : sc T 1 = sc S 1) : HeadsAt T h o := by
  obtain ⟨a1, a2, a3, a4⟩ := hh
  have e : ∀ i, i = 0 ∨ i = 1 → sc T i = sc S i := fun i hi => by rcases hi with rfl | rfl <;> assumption
  refine ⟨a1, a2, (e o a1).trans a3, ?_⟩
  rw [e (1 - o) (by omega)]
  exact a4
/-- Other pages have been written. -/
theorem Held.other {T : List Sec} (hh : Held P S h o at_ ps) (h0 : sc T 0 = sc S 0) (h1 : sc T 1 = sc S 1) (hp : ∀ c ∈ ps, ∀ j, j < 16 → sc T (16 * c.toNat + j) = sc S (16 * c.toNat + j)) : Held P T h o at_ ps :=
  ⟨hh.hd.same h0 h1, hh.gen, hh.r0, hh.r1, fun j c hj => ⟨(hh.pg j c hj).1, (pgS_same (hp c (List.mem_of_getElem? hj))).trans (hh.pg j c hj).2⟩⟩
theorem Held.settle_pend {L' : Int → Option Sec} (hh : Held P S h o at_ ps) (hS : S.length = n) (hP : 16 * P ≤ n) (hk : ∀ c ∈ ps, K c = true) (hA : Adds P K F xs g) (hp : Pend F (todo P F xs) noL L') : Held P (setK q L' (looL n L') 0 S) h o at_ ps := by
  have key : ∀ i, i < n → (∀ c : Int, c ∈ xs → ¬ (16 * c ≤ i ∧ i < 16 * c + 16)) → sc (setK q L' (looL n L') 0 S) i = sc S i := fun i hi hno => by
    rcases Z4f (q := q) (L := L') hS hi with e | e
    · exact e
    · rcases hp i _ e with e | ⟨c, nd, hc, _, h1, h2⟩
      · cases e
      · exact absurd ⟨h1, h2⟩ (hno c (Z1u.1 hc).2)
  have hx : ∀ c ∈ xs, 1 ≤ c := fun c hc => (hA.free c hc).2.1
  by_cases hps : ps = []
  · subst hps
    by_cases hn : 2 ≤ n
    · exact hh.other (key 0 (by omega) (fun c hc hx2 => by have := hx c hc; omega)) (key 1 (by omega) (fun c hc hx2 => by have := hx c hc; omega)) (fun c hc => by cases hc)
    · have e : looL n L' = [] := by
        rw [← List.length_eq_zero_iff]
        by_cases e : (looL n L').length = 0
        · exact e
        · obtain ⟨x, hx1⟩ := List.exists_mem_of_length_pos (by omega : 0 < (looL n L').length)
          have hm := Z1j.1 hx1
          obtain ⟨s, hs⟩ := Option.isSome_iff_exists.1 hm.2
          rcases hp x s hs with e2 | ⟨c, nd, hc, _, h1, h2⟩
          · cases e2
          · have := hx c (Z1u.1 hc).2
            omega
      rw [e]
      exact hh
  · obtain ⟨c0, hc0⟩ := List.exists_mem_of_ne_nil ps hps
    obtain ⟨j0, hj0⟩ := List.getElem?_of_mem hc0
    have hb := (hh.pg j0 c0 hj0).1
    refine hh.other (key 0 (by omega) (fun c hc hx2 => by have := hx c hc; omega)) (key 1 (by omega) (fun c hc hx2 => by have := hx c hc; omega)) (fun c hc j hj => ?_)
    obtain ⟨jc, hjc⟩ := List.getElem?_of_mem hc
    have hbc := (hh.pg jc c hjc).1
    refine key _ (by omega) (fun d hd hx2 => ?_)
    have h1 := (hA.free d hd).1
    have e : d = c := by omega
    rw [e, hk c hc] at h1
    cases h1
/-- The pages are written, and flushed. -/
abbrev wrS7 (P : Nat) (S : List Sec) (F : Int → Option Nd) (xs : List Int) : List Sec := nowL S (wrF F noL (todo P F xs))
theorem Held.flushed (hh : Held P S h o at_ ps) (hS : S.length = n) (hP : 16 * P ≤ n) (hP1 : 1 ≤ P) (hk : ∀ c ∈ ps, K c = true) (hA : Adds P K F xs g) : Held P (wrS7 P S F xs) h o at_ ps := by
  have htd : ∀ c ∈ todo P F xs, 1 ≤ c := fun c hc => (hA.free c (Z1u.1 hc).2).2.1
  refine hh.other (hd_old (by omega) (by decide) htd) (hd_old (by omega) (by decide) htd) (fun c hc j hj => ?_)
  obtain ⟨jc, hjc⟩ := List.getElem?_of_mem hc
  have hbc := (hh.pg jc c hjc).1
  have hno : ((c.toNat : Nat) : Int) ∉ todo P F xs := fun hm => by
    have h1 := (hA.free _ (Z1u.1 hm).2).1
    rw [Int.toNat_of_nonneg (by omega), hk c hc] at h1
    cases h1
  rw [Z4g (by omega)]
  unfold nowAt
  rw [wrF_out hno hj]
  rfl
theorem Z76 {j : Nat} {c : Int} (hS : S.length = n) (hP : 16 * P ≤ n) (hA : Adds P K F xs g) (hj : xs[j]? = some c) : pgS (wrS7 P S F xs) c.toNat = pgB (node (g j)) := by
  have hm := List.mem_of_getElem? hj
  obtain ⟨_, h1, h2⟩ := hA.free c hm
  have e : ((c.toNat : Nat) : Int) = c := Int.toNat_of_nonneg (by omega)
  exact pg_new (nd := node (g j)) (by omega) (by rw [e]; exact hA.todo hm) (by rw [e]; exact hA.at_ j c hj) (Z4p _)
/-- The next head is there: all of the next commit is. -/
theorem Held.next {T : List Sec} {root : Int} (hh : Held P S h o at_ ps) (hS : S.length = n) (hn : 16 * P ≤ n) (hP1 : 1 ≤ P) (hA : Adds P K F xs (fun j => 100 * (at_ : Int) + j)) (ok : (nextHd h root).Ok) (hr : xs[0]? = some root)
    (hT : ∀ i, i < n → i ≠ 1 - o → sc T i = sc (wrS7 P S F xs) i) (hT1 : sc T (1 - o) = hdB (nextHd h root)) : Held P T (nextHd h root) (1 - o) (at_ + 1) xs := by
  obtain ⟨a1, a2, a3, a4⟩ := hh.hd
  have htd : ∀ c ∈ todo P F xs, 1 ≤ c := fun c hc => (hA.free c (Z1u.1 hc).2).2.1
  refine ⟨⟨by omega, ok, hT1, .inr ⟨h, ?_, a2, ?_⟩⟩, ?_, fun e => by omega, fun _ => hr, fun j c hj => ?_⟩
  · rw [show 1 - (1 - o) = o by omega, hT o (by omega) (by omega), hd_old (by omega) (by omega) htd]
    exact a3
  · show h.g < h.g + 1
    omega
  · show h.g + 1 = _
    have := hh.gen
    omega
  · have hm := List.mem_of_getElem? hj
    obtain ⟨_, h1, h2⟩ := hA.free c hm
    refine ⟨⟨h1, h2⟩, ?_⟩
    rw [pgS_same (S := wrS7 P S F xs) (fun i hi => hT _ (by omega) (by omega)), Z76 hS hn hA hj]
    congr 2
    omega
theorem Held.settle_head {L' : Int → Option Sec} {root : Int} (hh : Held P S h o at_ ps) (hS : S.length = n) (hn : 16 * P ≤ n) (hP1 : 1 ≤ P) (hk : ∀ c ∈ ps, K c = true) (hA : Adds P K F xs (fun j => 100 * (at_ : Int) + j)) (ok : (nextHd h root).Ok) (hr : xs[0]? = some root)
    (hp : ∀ i s, L' i = some s → i = 1 - (o : Int) ∧ s = hdB (nextHd h root)) : Held P (setK q L' (looL n L') 0 (wrS7 P S F xs)) h o at_ ps ∨ Held P (setK q L' (looL n L') 0 (wrS7 P S F xs)) (nextHd h root) (1 - o) (at_ + 1) xs := by
  have ho := hh.hd.1
  have hl : (wrS7 P S F xs).length = n := by rw [Z26]; exact hS
  have hoth : ∀ i, i < n → i ≠ 1 - o → sc (setK q L' (looL n L') 0 (wrS7 P S F xs)) i = sc (wrS7 P S F xs) i := fun i hi hne => by
    rcases Z4f (q := q) (L := L') hl hi with e | e
    · exact e
    · have := (hp i _ e).1
      omega
  rcases Z4f (q := q) (L := L') hl (show 1 - o < n by omega) with e | e
  · have hall : ∀ i, i < n → sc (setK q L' (looL n L') 0 (wrS7 P S F xs)) i = sc (wrS7 P S F xs) i := fun i hi => by
      by_cases hne : i = 1 - o
      · subst hne; exact e
      · exact hoth i hi hne
    have hf := hh.flushed hS hn hP1 hk hA
    refine .inl (hf.other (hall 0 (by omega)) (hall 1 (by omega)) (fun c hc j hj => hall _ ?_))
    obtain ⟨jc, hjc⟩ := List.getElem?_of_mem hc
    have := (hh.pg jc c hjc).1
    omega
  · exact .inr (hh.next hS hn hP1 hA ok hr hoth (hp _ _ e).2)
/-- Behind a whole commit. -/
theorem Held.commit {root : Int} (hh : Held P S h o at_ ps) (hS : S.length = n) (hn : 16 * P ≤ n) (hP1 : 1 ≤ P) (hA : Adds P K F xs (fun j => 100 * (at_ : Int) + j)) (ok : (nextHd h root).Ok) (hr : xs[0]? = some root) :
    Held P (cmS S F (todo P F xs) (1 - o) (hdB (nextHd h root))) (nextHd h root) (1 - o) (at_ + 1) xs := by
  have ho := hh.hd.1
  refine hh.next hS hn hP1 hA ok hr (fun i hi hne => ?_) ?_
  · unfold cmS
    exact Z7y (by rw [Z26]; omega) hne
  · exact cm_hd (by omega) (Z2i _)
/-- Whatever stays, it is the last commit that was sure, or the next one. -/
def Sound7 (P n : Nat) (Qs : List (List Int)) (sure : Nat) (S : List Sec) (L : Int → Option Sec) : Prop :=
  ∀ q : List UInt8, ∃ (at_ : Nat) (h : Hd) (o : Nat) (ps : List Int), (at_ = sure ∨ at_ = sure + 1) ∧ Qs[at_]? = some ps ∧ Held P (setK q L (looL n L) 0 S) h o at_ ps
theorem Held.sound {Qs : List (List Int)} (hh : Held P S h o at_ ps) (hq : Qs[at_]? = some ps) : Sound7 P n Qs at_ S noL := fun q => by
  refine ⟨at_, h, o, ps, .inl rfl, hq, ?_⟩
  rw [looL_no7]
  exact hh
end
/-! A pool of rows of numbers. -/
def tPoolI (vs : List Value) (Q : List (List Int)) : Thing where
  foot := vs.flatMap fun v => v.ownBlock.toList
  holds := fun w => vs.length = Q.length ∧ ∀ (i : Nat) v l, vs[i]? = some v → Q[i]? = some l → ∃ B c, v = .slice B l.length c ∧ w.ownsRow 0 3 1 (.slice B l.length c) l.length (intsV l)
  keep := fun w w' hs hk h => ⟨h.1, fun i v l hv hl => by
    obtain ⟨B, c, rfl, ho⟩ := h.2 i v l hv hl
    exact ⟨B, c, rfl, (tRow 3 1 (.slice B l.length c) l.length (intsV l)).keep w w' hs (fun j hj => hk j (List.mem_flatMap.2 ⟨_, List.mem_of_getElem? hv, hj⟩)) ho⟩⟩
  lt := fun w h i hi => by
    obtain ⟨v, hv, hi⟩ := List.mem_flatMap.1 hi
    obtain ⟨j, hj⟩ := List.getElem?_of_mem hv
    obtain ⟨l, hl⟩ : ∃ l, Q[j]? = some l := ⟨_, List.getElem?_eq_getElem (by rw [← h.1]; exact (List.getElem?_eq_some_iff.1 hj).1)⟩
    obtain ⟨B, c, rfl, ho⟩ := h.2 j v l hj hl
    exact (tRow 3 1 (.slice B l.length c) l.length (intsV l)).lt w ho i hi
section
variable {H : Nat} {A w : World} {R : List Thing}
theorem poolI_nil (h : OwnT H A R w) : OwnT H A (tPoolI [] [] :: R) w :=
  h.cons (Ext.refl w) _ ⟨rfl, fun i v nd hv => by simp at hv⟩ (fun i hi => by cases hi)
theorem OwnT.poolIAdd {vs : List Value} {Q : List (List Int)} {B : Option Addr} {c : Nat} {l : List Int} (h : OwnT H A (tRow 3 1 (.slice B l.length c) l.length (intsV l) :: tPoolI vs Q :: R) w) : OwnT H A (tPoolI (vs ++ [.slice B l.length c]) (Q ++ [l]) :: R) w := by
  obtain ⟨h1, h2, _⟩ := h.all
  refine h.merge ⟨by rw [List.length_append, List.length_append, h2.1]; rfl, fun i u nd hu hn => ?_⟩ (fun i hi => ?_)
  · by_cases hi : i < Q.length
    · rw [List.getElem?_append_left (by rw [h2.1]; exact hi)] at hu
      rw [List.getElem?_append_left hi] at hn
      exact h2.2 i u nd hu hn
    · rw [List.getElem?_append_right (by rw [h2.1]; omega)] at hu
      rw [List.getElem?_append_right (by omega)] at hn
      have e1 : i - Q.length = 0 := by
        have := (List.getElem?_eq_some_iff.1 hn).1
        simp at this
        omega
      rw [e1] at hn
      rw [h2.1, e1] at hu
      obtain rfl : Value.slice B l.length c = u := by simpa using hu
      obtain rfl : l = nd := by simpa using hn
      exact ⟨B, c, rfl, h1⟩
  · show i ∈ (tRow 3 1 (.slice B l.length c) l.length (intsV l)).foot ∨ _
    have hi : i ∈ (vs ++ [Value.slice B l.length c]).flatMap fun v : Value => v.ownBlock.toList := hi
    rw [List.flatMap_append] at hi
    rcases List.mem_append.1 hi with hi | hi
    · exact .inr hi
    · exact .inl (by simpa [tRow] using hi)
end
theorem elemIS8 : ElemI Tryz.prog 69 40 1 24 := ⟨Tryz.underlying69, by
  have h : (Tryz.prog.info? 40).map (fun i => (i.zero, i.size, i.bytes)) = some (some (.slice none 0 0), 1, 24) := by kernel_rfl
  obtain ⟨i, h1, h2, h3, h4⟩ := info_parts h
  exact ⟨i, _, h1, h2, h3, h4, rfl⟩⟩
theorem conv_gen7 (m : Nat) (w : World) (h : m ≤ 1000000) : (convert 37 3 (.int .u64 ((m : Nat) : Int))).run Tryz.prog w = .ok (.int .i64 ((m : Nat) : Int)) w := by
  simp [convert, run_underlying Tryz.underlying3, run_underlying Tryz.underlying37, Conv.intToInt, IntWalk.i64_in _ (show -9223372036854775808 ≤ (m : Int) ∧ (m : Int) ≤ 9223372036854775807 by omega)]
theorem OwnT.asRowN {g k n : Nat} {T : TypeId} {H : Nat} {A w : World} {L : List Thing} {cs : List Value} (h : OwnT H A (tBlk g T cs.toArray :: L) w) (hn : cs.length = n * k) (hm : n ≤ maxLen) : OwnT H A (tRow T k (.slice (some ⟨g, 0, none⟩) n n) n cs :: L) w :=
  h.call (F := []) (Chg.refl [] w) (by simp) (tRow T k (.slice (some ⟨g, 0, none⟩) n n) n cs) (row_of h.b0 (Nat.le_refl _) hm (by simpa using hn) (by rw [← hn]; simp)) (fun i hi => .inl (by simpa [tRow, tBlk, Value.ownBlock] using hi))
section
variable {H : Nat} {A0 : World} {R : List Thing} {sb p kb fb mb n cap bm : Nat} {B : Option Addr} {S : List Sec} {h : Hd} {K : Int → Bool} {m : Int → Option Value} {F : Int → Option Nd} {vs : List Value} {N : List Nd} {M : Mn}
/-- A commit, whatever comes of the power. -/
theorem Z60 {A : Option Addr} {ca : Nat} {xs ps : List Int} {c0 : Int} {o at_ : Nat} (root : Int) (w : World) (O : OwnT H A0 (stL sb p h (o : Nat) kb fb K m vs N (tDisc p mb B n cap bm S noL :: tMn mb M :: R)) w) (ok : StOk (pgs n) K F vs N m) (hrow : ∀ W, OwnT H A0 R W → Row1 W A (Value.int .i64) xs) (hn : xs.length ≤ 1000000) (hh : Held (pgs n) S h o at_ ps) (hP1 : 1 ≤ pgs n) (hk : ∀ c ∈ ps, K c = true) (hA : Adds (pgs n) K F xs (fun j => 100 * (at_ : Int) + (j : Int))) (hM : M.Ok c0) (hc : c0 ≤ 800000000000) (hok : (nextHd h root).Ok) (hr : xs[0]? = some root) :
    Calls Tryz.prog 19 #[.pointer (some ⟨sb, 0, none⟩), .int .i64 root, .slice A xs.length ca] w fun e w' => ∃ (c : Int) (j : Nat) (h' : Hd) (o' : Nat) (K' : Int → Bool) (m' : Int → Option Value) (S' : List Sec) (L' : Int → Option Sec), e = .returned (.int .i64 c) ∧ j ≤ 9100 ∧
      OwnT H A0 (stL sb p h' (o' : Nat) kb fb K' m' vs N (tDisc p mb B n cap bm S' L' :: tMn mb (M.useN j) :: R)) w' ∧
      ((c = 0 ∧ L' = noL ∧ Held (pgs n) S' h' o' (at_ + 1) xs ∧ K' = inP (pgs n) xs ∧ h' = nextHd h root ∧ StOk (pgs n) K' (fun _ => none) vs N m') ∨
       (c = 4 ∧ ∀ q : List UInt8, Held (pgs n) (setK q L' (looL n L') 0 S') h o at_ ps ∨ Held (pgs n) (setK q L' (looL n L') 0 S') (nextHd h root) (1 - o) (at_ + 1) xs)) := by
  have hd := (OwnT.disc (OwnT.pull O 4 rfl)).ok
  have hl := hd.len
  have ho := hh.hd.1
  have hx := hh.hd.2.1.2.2.2.2.1
  have hx2 := hh.hd.2.1.2.2.2.2.2.1
  have hP : 16 * pgs n ≤ n := by unfold pgs; omega
  have e1 : (1 : Int) - ((o : Nat) : Int) = ((1 - o : Nat) : Int) := by omega
  refine (Z5a root w O ok hrow hn (by omega) rfl (by omega) (by omega) hM hc hok hA.lost (.inr (List.mem_of_getElem? hr))).mono ?_
  rintro e w' ⟨c, j, rfl, hj, ⟨rfl, m', O', ok'⟩ | ⟨rfl, _, S', L', O', hS | hS⟩⟩
  · rw [e1] at O'
    exact ⟨0, j, _, _, _, m', _, _, rfl, hj, O', .inl ⟨rfl, rfl, hh.commit hl hP hP1 hA hok hr, rfl, rfl, ok'⟩⟩
  · obtain ⟨rfl, hp⟩ := hS
    exact ⟨4, j, _, _, _, _, _, _, rfl, hj, O', .inr ⟨rfl, fun q => .inl (hh.settle_pend hl hP hk hA hp)⟩⟩
  · obtain ⟨rfl, hp⟩ := hS
    exact ⟨4, j, _, _, _, _, _, _, rfl, hj, O', .inr ⟨rfl, fun q => hh.settle_head hl hP hP1 hk hA hok hr hp⟩⟩
end
end Go.Proofs.YtakkhglbdljfiaaGreatDoor
