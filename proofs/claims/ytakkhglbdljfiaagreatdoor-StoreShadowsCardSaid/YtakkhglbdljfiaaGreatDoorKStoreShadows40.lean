/- store's laws: awake (printed by XStI.gen.py). -/
import Derived.Test.YtakkhglbdljfiaaGreatDoorKStoreShadows39
namespace Go.Proofs.YtakkhglbdljfiaaGreatDoor
attribute [local simp] BigFrame.eval_const BigFrame.eval_global BigFrame.eval_func
set_option linter.unusedVariables false
set_option linter.unusedSimpArgs false
open Go.RowKit Go.Maps

abbrev fm07 : Hd := fmtHd 9 3 2
theorem fm07_ok : fm07.Ok := by decide
theorem fm07_next : (nextHd fm07 1).Ok := by decide
def aw07 : List Sec := List.replicate 64 zsec
def S07 : List Sec := fmS aw07 noL fm07
theorem S07_len : S07.length = 64 := by unfold S07; rw [fm_len]; exact List.length_replicate
abbrev F07 : Int → Option Nd := putF (fun _ => none) 1 (node 5)
def T07 : List Sec := cmS S07 F07 (todo (pgs 64) F07 [1]) (1 - 0) (hdB (nextHd fm07 1))
theorem todo07 : (1 : Int) ∈ todo (pgs 64) F07 [1] := Z5z.2 ⟨⟨by decide, by decide⟩, by decide⟩
theorem first07 : FirstFree (pgs 64) (fun _ => false) (fun _ => none) 1 := ⟨by decide, by decide, rfl, fun d h1 h2 => by omega⟩
theorem lost07 : ([1] : List Int).any (lostB (pgs 64) (fun _ => false) F07) = false := by
 simp [lostB, freeB, putF]
theorem page07 : pgS T07 1 = pgB (node 5) := by
 unfold T07
 exact cm_new (c := 1) (nd := node 5) (by rw [S07_len]; decide) (by decide) (by decide) todo07 rfl (Z6p 5)
theorem fld_gen (g r a b c : Int) : ∀ w, (Instr.field 39 (.agg #[.int .u64 g, .int .i64 r, .int .i64 a, .int .i64 b, .int .i64 c]) 0).run Tryz.prog w = .ok (.int .u64 g) w := fun _ => by kernel_rfl
theorem fld_root (g r a b c : Int) : ∀ w, (Instr.field 39 (.agg #[.int .u64 g, .int .i64 r, .int .i64 a, .int .i64 b, .int .i64 c]) 1).run Tryz.prog w = .ok (.int .i64 r) w := fun _ => by kernel_rfl
theorem Z83 {P : Nat} (h : P ≤ 512) : StOk P (fun _ => false) (fun _ => none) [] [] (fun _ => none) :=
 ⟨h, (fun c hc => by cases hc), (fun c nd hc => by cases hc), (fun c nd hc => by cases hc), (fun _ _ => rfl), (fun c nd hc => by cases hc)⟩

set_option maxRecDepth 100000 in
set_option maxHeartbeats 8000000 in
theorem awake07 (W0 : World) : Calls Tryz.prog 7 #[] W0 fun e w' => e = .returned (.bool true) ∧ Ext W0 w' := by
 have O := OwnT.start W0
 refine Z0c Tryz.func7 rfl 112 rfl (by rfl) ?_
 intro a1 k hargs
 clear hargs
 have ok0 := Z83 (P := pgs 64) (by decide)
 refine wp_seq ?_
 refine wp_region_lit ?_
 have hE := Env.refl a1 [0]
 refine sd 0 hE k (Z01 rfl rfl) ?_
 intro a2 hE e0 kp
 refine wpList_nil ?_
 replace k := k.env hE
 clear hE e0
 refine Z00 (wp_seq ?_)
 refine wp_region_lit ?_
 have hE := Env.refl a2 [14, 1]
 apply Z06 14 hE k rfl (by rfl) (by rfl) rfl
 case h =>
  simp [go_sem, ↓IntWalk.iteOmega]
  with_reducible exact ⟨rfl, rfl⟩
 case hc => exact new_mn O
 clear O
 rintro e w4 ⟨mb, rfl, O⟩
 refine ⟨_, rfl, ?_⟩
 intro a3 hE e14 kp
 refine sd 1 hE k (Z01 rfl e14) ?_
 intro a5 hE e1 kp
 refine wpList_nil ?_
 replace k := k.env hE
 clear hE
 refine Z00 (wp_seq ?_)
 refine wp_region_lit ?_
 have hE := Env.refl a5 [15, 16, 2]
 refine zm 15 hE k e1 ?_
 intro a6 hE e15 kp
 apply Z06 16 hE k rfl (by rfl) (by rfl) rfl
 case h =>
  simp [go_sem, ↓IntWalk.iteOmega, ev e15]
  with_reducible exact ⟨rfl, rfl⟩
 case hc => exact dnew_any 64 64 _ O (by decide)
 clear O
 rintro e w8 ⟨p, B, cap, bm, rfl, O⟩
 refine ⟨_, rfl, ?_⟩
 intro a7 hE e16 kp
 refine sd 2 hE k (Z01 rfl e16) ?_
 intro a9 hE e2 kp
 refine wpList_nil ?_
 replace k := k.env hE
 clear hE e1
 refine Z00 (wp_seq ?_)
 refine wp_region_lit ?_
 have hE := Env.refl a9 [18, 19, 20, 17, 21, 22, 3, 4]
 refine zm 18 hE k e2 ?_
 intro a10 hE e18 kp
 apply Z06 19 hE k rfl (by rfl) (by rfl) rfl
 case h =>
  simp [go_sem, ↓IntWalk.iteOmega]
  with_reducible exact ⟨rfl, rfl⟩
 case hc => exact Z6a _
 rintro e w12 ⟨rfl, RE⟩
 replace O := OwnT.ext O RE
 refine ⟨_, rfl, ?_⟩
 intro a11 hE e19 kp
 replace e18 := kt kp e18
 apply Z06 20 hE k rfl (by rfl) (by rfl) rfl
 case h =>
  simp [go_sem, ↓IntWalk.iteOmega, ev e18, ev e19]
  with_reducible exact ⟨rfl, rfl⟩
 case hc => exact Z3s (S := aw07) 9 3 2 _ O fm07_ok (by decide) mn0_ok (by decide) mn0_free
 clear O
 rintro e w14 ⟨j, sb, kb, fb, hj, rfl, O⟩
 refine ⟨_, rfl, ?_⟩
 intro a13 hE e20 kp
 refine sd 17 hE k (Z03 rfl e20) ?_
 intro a15 hE e17 kp
 apply Z02 21 hE k rfl rfl rfl rfl
 case h =>
  simp [go_sem, ↓IntWalk.iteOmega, ev e17]
  with_reducible rfl
 intro a16 hE e21 kp
 replace e17 := kt kp e17
 apply Z02 22 hE k rfl rfl rfl rfl
 case h =>
  simp [go_sem, ↓IntWalk.iteOmega, ev e17]
  with_reducible rfl
 intro a17 hE e22 kp
 replace e21 := kt kp e21
 refine sd 3 hE k (Z01 rfl e21) ?_
 intro a18 hE e3 kp
 replace e22 := kt kp e22
 refine sd 4 hE k (Z01 rfl e22) ?_
 intro a19 hE e4 kp
 replace e3 := kt kp e3
 refine wpList_nil ?_
 replace e2 := hE.g e2
 replace k := k.env hE
 clear hE
 refine Z00 (wp_seq ?_)
 refine wp_seq ?_
 refine wp_region_lit ?_
 have hE := Env.refl a19 [23, 24, 25, 26, 27, 28]
 refine zm 23 hE k e4 ?_
 intro a20 hE e23 kp
 refine sd 24 hE k (Z08 (Z0s rfl e23 rfl) (decide_eq_false (by omega))) ?_
 intro a21 hE e24 kp
 refine sd 25 hE k (Z03 rfl e24) ?_
 intro a22 hE e25 kp
 apply Z04 26 hE k rfl rfl rfl rfl rfl e25
 case h =>
  exact Z03 rfl (hE.g e3)
 intro a23 hE e26 kp
 replace e25 := kt kp e25
 apply Z04 27 hE k rfl rfl rfl rfl rfl e25
 case h =>
  simp [go_sem, ↓IntWalk.iteOmega, ev e26]
  with_reducible rfl
 intro a24 hE e27 kp
 replace e25 := kt kp e25
 refine sd 28 hE k (Z0g rfl e25 e27) ?_
 intro a25 hE e28 kp
 refine wpList_nil ?_
 replace e2 := hE.g e2; replace e3 := hE.g e3
 replace k := k.env hE
 clear hE e4
 refine Z00 ?_
 refine Z07 e28 rfl ?_
 refine wp_skip ?_
 refine Z00 (wp_seq ?_)
 refine wp_region_lit ?_
 have hE := Env.refl a25 [30, 31, 32, 29, 33, 34, 5, 6]
 refine zm 30 hE k e3 ?_
 intro a26 hE e30 kp
 apply Z06 31 hE k rfl (by rfl) (by rfl) rfl
 case h =>
  simp [go_sem, ↓IntWalk.iteOmega]
  with_reducible exact ⟨rfl, rfl⟩
 case hc => exact Z2j 5 _
 rintro e w28 ⟨g, rfl, hrow, RE⟩
 replace O := OwnT.ext O RE
 refine ⟨_, rfl, ?_⟩
 intro a27 hE e31 kp
 replace e30 := kt kp e30
 apply Z06 32 hE k rfl (by rfl) (by rfl) rfl
 case h =>
  simp [go_sem, ↓IntWalk.iteOmega, ev e30, ev e31]
  with_reducible exact ⟨rfl, rfl⟩
 case hc => exact sadd_at 5 1 1 rfl _ O ok0 hrow first07
 clear O
 rintro e w30 ⟨m1, vs1, N1, rfl, O, ok1⟩
 clear hrow
 refine ⟨_, rfl, ?_⟩
 intro a29 hE e32 kp
 refine sd 29 hE k (Z03 rfl e32) ?_
 intro a31 hE e29 kp
 apply Z02 33 hE k rfl rfl rfl rfl
 case h =>
  simp [go_sem, ↓IntWalk.iteOmega, ev e29]
  with_reducible rfl
 intro a32 hE e33 kp
 replace e29 := kt kp e29
 apply Z02 34 hE k rfl rfl rfl rfl
 case h =>
  simp [go_sem, ↓IntWalk.iteOmega, ev e29]
  with_reducible rfl
 intro a33 hE e34 kp
 replace e33 := kt kp e33
 refine sd 5 hE k (Z01 rfl e33) ?_
 intro a34 hE e5 kp
 replace e34 := kt kp e34
 refine sd 6 hE k (Z01 rfl e34) ?_
 intro a35 hE e6 kp
 replace e5 := kt kp e5
 refine wpList_nil ?_
 replace e2 := hE.g e2; replace e3 := hE.g e3
 replace k := k.env hE
 clear hE e28
 refine Z00 (wp_seq ?_)
 refine wp_region_lit ?_
 have hE := Env.refl a35 [36, 37, 38, 35, 39, 40, 7, 8]
 refine zm 36 hE k e3 ?_
 intro a36 hE e36 kp
 refine zm 37 hE k e5 ?_
 intro a37 hE e37 kp
 replace e36 := kt kp e36
 apply Z06 38 hE k rfl (by rfl) (by rfl) rfl
 case h =>
  simp [go_sem, ↓IntWalk.iteOmega, ev e36, ev e37]
  with_reducible exact ⟨rfl, rfl⟩
 case hc => exact sread_add 1 5 _ O ok1 rfl
 clear O
 rintro e w39 ⟨By, cy, rfl, O⟩
 refine ⟨_, rfl, ?_⟩
 intro a38 hE e38 kp
 refine sd 35 hE k (Z03 rfl e38) ?_
 intro a40 hE e35 kp
 apply Z02 39 hE k rfl rfl rfl rfl
 case h =>
  simp [go_sem, ↓IntWalk.iteOmega, ev e35]
  with_reducible rfl
 intro a41 hE e39 kp
 replace e35 := kt kp e35
 apply Z02 40 hE k rfl rfl rfl rfl
 case h =>
  simp [go_sem, ↓IntWalk.iteOmega, ev e35]
  with_reducible rfl
 intro a42 hE e40 kp
 replace e39 := kt kp e39
 refine Z1a O (cs := #[.int .i64 0, .slice none 0 0]) (t := 47) 7 hE k rfl (by rfl) (by rfl) rfl (by simp [go_sem, ↓IntWalk.iteOmega]) ?_
 clear O
 intro lb a43 w44 O hE e7 kp
 replace e39 := kt kp e39; replace e40 := kt kp e40
 have q0 : w44.cell? ⟨lb, 0, none⟩ = some (.int .i64 0) := (OwnT.blk O 0 rfl).cell 0
 have z0 : w44.frozen? ⟨lb, 0, none⟩ = false := (OwnT.blk O 0 rfl).frozen 0
 have q1 : w44.cell? ⟨lb, 1, none⟩ = some (.slice none 0 0) := (OwnT.blk O 0 rfl).cell 1
 have z1 : w44.frozen? ⟨lb, 1, none⟩ = false := (OwnT.blk O 0 rfl).frozen 1
 refine Z0y (w' := ((w44.setCell ⟨lb, 0, none⟩ (.int .i64 0)).setCell ⟨lb, 1, none⟩ (.slice By 1 cy))) hE rfl rfl (by simp [go_sem, ↓IntWalk.iteOmega, ev e7, ev e39, q0, z0, q1, z1]) ?_
 replace O := OwnT.push 0 rfl (((OwnT.pull O 0 rfl).set 0 (.int .i64 0)).set 1 (.slice By 1 cy))
 clear q0 z0 q1 z1
 generalize ((w44.setCell ⟨lb, 0, none⟩ (.int .i64 0)).setCell ⟨lb, 1, none⟩ (.slice By 1 cy)) = w45 at O ⊢
 replace O : OwnT _ _ ([tBlk lb 47 #[.int .i64 0, .slice By 1 cy], tPs (.slice By 1 cy) (nodeP 5), tBlk sb 102 (stB p fm07 0 kb fb), tMap kb 512 (keptV ((fun _ => false))), tMap fb 512 m1, tPool vs1 N1, tDisc p mb B 64 cap bm S07 noL, tMn mb (mn0.useN j)]) w45 := O
 refine sd 8 hE k (Z01 rfl e40) ?_
 intro a46 hE e8 kp
 replace e7 := kt kp e7
 refine wpList_nil ?_
 replace e2 := hE.g e2; replace e3 := hE.g e3; replace e5 := hE.g e5; replace e6 := hE.g e6
 replace k := k.env hE
 clear hE
 refine Z00 (wp_seq ?_)
 refine wp_region_lit ?_
 have hE := Env.refl a46 [41, 42, 43, 44, 45, 9]
 refine zm 41 hE k e3 ?_
 intro a47 hE e41 kp
 refine zm 42 hE k e5 ?_
 intro a48 hE e42 kp
 replace e41 := kt kp e41
 refine zm 43 hE k e5 ?_
 intro a49 hE e43 kp
 replace e41 := kt kp e41; replace e42 := kt kp e42
 refine Z4a (m := 1) (c := 1) O (cs := #[.int .i64 1]) (t := 3) 44 hE k rfl (by rfl) (by rfl) rfl (by simp [go_sem, ↓IntWalk.iteOmega, ev e43]) ?_
 clear O
 intro g8 a50 w51 O hE e44 kp
 replace e41 := kt kp e41; replace e42 := kt kp e42
 apply Z06 45 hE k rfl (by rfl) (by rfl) rfl
 case h =>
  simp [go_sem, ↓IntWalk.iteOmega, ev e41, ev e42, ev e44]
  with_reducible exact ⟨rfl, rfl⟩
 case hc => exact Z54 (o := 0) (R := [tBlk g8 3 #[.int .i64 1], tBlk lb 47 #[.int .i64 0, .slice By 1 cy], tPs (.slice By 1 cy) (nodeP 5)]) (xs := [1]) 1 _ (OwnT.pick O [3, 4, 5, 6, 7, 8, 0, 1, 2] (by decide)) ok1 (fun W OW => row1_blk OW.t0) (by decide) (heads_fm (by decide) fm07_ok) (by decide) (mn0_ok.useN j) (by omega) fm07_next lost07 (.inr (by decide)) (mn0_free.useN j)
 clear O
 rintro e w53 ⟨j2, m2, rfl, hj2, O, ok2, hh2⟩
 refine ⟨_, rfl, ?_⟩
 intro a52 hE e45 kp
 refine sd 9 hE k (Z01 rfl e45) ?_
 intro a54 hE e9 kp
 refine wpList_nil ?_
 replace e2 := hE.g e2; replace e3 := hE.g e3; replace e5 := hE.g e5; replace e6 := hE.g e6; replace e7 := hE.g e7; replace e8 := hE.g e8
 replace k := k.env hE
 clear hE
 refine Z00 ?_
 have hnw := hh2.newest (OwnT.disc (OwnT.pull O 4 rfl)).ok (by decide)
 obtain ⟨K2, hK2⟩ : ∃ K2, inP (pgs 64) [1] = K2 := ⟨_, rfl⟩
 rw [hK2] at O ok2
 refine wp_seq ?_
 refine wp_region_lit ?_
 have hE := Env.refl a54 [47, 48, 46, 49, 50, 10, 11]
 refine zm 47 hE k e2 ?_
 intro a55 hE e47 kp
 apply Z06 48 hE k rfl (by rfl) (by rfl) rfl
 case h =>
  simp [go_sem, ↓IntWalk.iteOmega, ev e47]
  with_reducible exact ⟨rfl, rfl⟩
 case hc => exact sopen_is (R := [tBlk sb 102 (stB p (nextHd fm07 1) 1 kb fb), tMap kb 512 (keptV K2), tMap fb 512 m2, tPool vs1 N1, tBlk g8 3 #[.int .i64 1], tBlk lb 47 #[.int .i64 0, .slice By 1 cy], tPs (.slice By 1 cy) (nodeP 5)]) _ (OwnT.pick O [4, 5, 0, 1, 2, 3, 6, 7, 8] (by decide)) (by decide) ((mn0_free.useN j).useN j2).1 hnw
 clear O
 rintro e w57 ⟨ub, kb2, fb2, rfl, O⟩
 refine ⟨_, rfl, ?_⟩
 intro a56 hE e48 kp
 refine sd 46 hE k (Z03 rfl e48) ?_
 intro a58 hE e46 kp
 apply Z02 49 hE k rfl rfl rfl rfl
 case h =>
  simp [go_sem, ↓IntWalk.iteOmega, ev e46]
  with_reducible rfl
 intro a59 hE e49 kp
 replace e46 := kt kp e46
 apply Z02 50 hE k rfl rfl rfl rfl
 case h =>
  simp [go_sem, ↓IntWalk.iteOmega, ev e46]
  with_reducible rfl
 intro a60 hE e50 kp
 replace e49 := kt kp e49
 refine sd 10 hE k (Z01 rfl e49) ?_
 intro a61 hE e10 kp
 replace e50 := kt kp e50
 refine sd 11 hE k (Z01 rfl e50) ?_
 intro a62 hE e11 kp
 replace e10 := kt kp e10
 refine wpList_nil ?_
 replace e3 := hE.g e3; replace e5 := hE.g e5; replace e6 := hE.g e6; replace e7 := hE.g e7; replace e8 := hE.g e8; replace e9 := hE.g e9
 replace k := k.env hE
 clear hE e2
 refine Z00 (wp_seq ?_)
 refine wp_seq ?_
 refine wp_region_lit ?_
 have hE := Env.refl a62 [51, 52, 53, 54, 55, 56]
 refine zm 51 hE k e11 ?_
 intro a63 hE e51 kp
 refine sd 52 hE k (Z08 (Z0s rfl e51 rfl) (decide_eq_false (by omega))) ?_
 intro a64 hE e52 kp
 refine sd 53 hE k (Z03 rfl e52) ?_
 intro a65 hE e53 kp
 apply Z04 54 hE k rfl rfl rfl rfl rfl e53
 case h =>
  exact Z03 rfl (hE.g e10)
 intro a66 hE e54 kp
 replace e53 := kt kp e53
 apply Z04 55 hE k rfl rfl rfl rfl rfl e53
 case h =>
  simp [go_sem, ↓IntWalk.iteOmega, ev e54]
  with_reducible rfl
 intro a67 hE e55 kp
 replace e53 := kt kp e53
 refine sd 56 hE k (Z0g rfl e53 e55) ?_
 intro a68 hE e56 kp
 refine wpList_nil ?_
 replace e3 := hE.g e3; replace e5 := hE.g e5; replace e6 := hE.g e6; replace e7 := hE.g e7; replace e8 := hE.g e8; replace e9 := hE.g e9; replace e10 := hE.g e10
 replace k := k.env hE
 clear hE e11
 refine Z00 ?_
 refine Z07 e56 rfl ?_
 refine wp_skip ?_
 refine Z00 (wp_seq ?_)
 refine wp_region_lit ?_
 have hE := Env.refl a68 [58, 59, 57, 60, 61, 12, 13]
 refine zm 58 hE k e10 ?_
 intro a69 hE e58 kp
 apply Z06 59 hE k rfl (by rfl) (by rfl) rfl
 case h =>
  simp [go_sem, ↓IntWalk.iteOmega, ev e58]
  with_reducible exact ⟨rfl, rfl⟩
 case hc => exact Z52 (M := (mn0.useN j).useN j2) 1 1 5 rfl _ (OwnT.stR O) (OwnT.disc (OwnT.pull O 4 rfl)) ok0 (by decide) rfl (OwnT.get O 5 rfl) ((mn0_free.useN j).useN j2).1 page07
 rintro e w71 ⟨Bk, ck, rfl, hk, RE⟩
 replace O := OwnT.ext O RE
 refine ⟨_, rfl, ?_⟩
 intro a70 hE e59 kp
 refine sd 57 hE k (Z03 rfl e59) ?_
 intro a72 hE e57 kp
 apply Z02 60 hE k rfl rfl rfl rfl
 case h =>
  simp [go_sem, ↓IntWalk.iteOmega, ev e57]
  with_reducible rfl
 intro a73 hE e60 kp
 replace e57 := kt kp e57
 apply Z02 61 hE k rfl rfl rfl rfl
 case h =>
  simp [go_sem, ↓IntWalk.iteOmega, ev e57]
  with_reducible rfl
 intro a74 hE e61 kp
 replace e60 := kt kp e60
 refine Z79 O (cs := #[.int .i64 0, .slice none 0 0]) (t := 47) 12 hE k rfl (by rfl) (by rfl) rfl (by simp [go_sem, ↓IntWalk.iteOmega]) ?_
 clear O
 intro lk a75 w76 RX O hE e12 kp
 replace hk := Row.ext hk RX
 clear RX
 replace e60 := kt kp e60; replace e61 := kt kp e61
 have q0 : w76.cell? ⟨lk, 0, none⟩ = some (.int .i64 0) := (OwnT.blk O 0 rfl).cell 0
 have z0 : w76.frozen? ⟨lk, 0, none⟩ = false := (OwnT.blk O 0 rfl).frozen 0
 have q1 : w76.cell? ⟨lk, 1, none⟩ = some (.slice none 0 0) := (OwnT.blk O 0 rfl).cell 1
 have z1 : w76.frozen? ⟨lk, 1, none⟩ = false := (OwnT.blk O 0 rfl).frozen 1
 have hbr := OwnT.blk O 0 rfl
 refine Z0y (w' := ((w76.setCell ⟨lk, 0, none⟩ (.int .i64 0)).setCell ⟨lk, 1, none⟩ (.slice Bk 1 ck))) hE rfl rfl (by simp [go_sem, ↓IntWalk.iteOmega, ev e12, ev e60, q0, z0, q1, z1]) ?_
 replace O := OwnT.push 0 rfl (((OwnT.pull O 0 rfl).set 0 (.int .i64 0)).set 1 (.slice Bk 1 ck))
 replace hk := Z5t (v0 := .int .i64 0) (v1 := .slice Bk 1 ck) hk hbr
 clear hbr
 clear q0 z0 q1 z1
 generalize ((w76.setCell ⟨lk, 0, none⟩ (.int .i64 0)).setCell ⟨lk, 1, none⟩ (.slice Bk 1 ck)) = w77 at O hk ⊢
 replace O : OwnT _ _ ([tBlk lk 47 #[.int .i64 0, .slice Bk 1 ck], tBlk ub 102 (stB p (nextHd fm07 1) 1 kb2 fb2), tMap kb2 512 (keptV ((fun _ => false))), tMap fb2 512 ((fun _ => none)), tPool ([]) ([]), tDisc p mb B 64 cap bm T07 noL, tMn mb ((mn0.useN j).useN j2), tBlk sb 102 (stB p (nextHd fm07 1) 1 kb fb), tMap kb 512 (keptV K2), tMap fb 512 m2, tPool vs1 N1, tBlk g8 3 #[.int .i64 1], tBlk lb 47 #[.int .i64 0, .slice By 1 cy], tPs (.slice By 1 cy) (nodeP 5)]) w77 := O
 refine sd 13 hE k (Z01 rfl e61) ?_
 intro a78 hE e13 kp
 replace e12 := kt kp e12
 refine wpList_nil ?_
 replace e3 := hE.g e3; replace e5 := hE.g e5; replace e6 := hE.g e6; replace e7 := hE.g e7; replace e8 := hE.g e8; replace e9 := hE.g e9; replace e10 := hE.g e10
 replace k := k.env hE
 clear hE e56
 refine Z00 ?_
 have hy : Row w77 By 2 pairC (nodeP 5) := by obtain ⟨B9, c9, e9, -, -, h9, -⟩ := Z85 (OwnT.get O 13 rfl); cases e9; exact h9
 have hcnt : ((pgs 64 : Nat) : Int) - 1 - ((kL (pgs 64) K2).length : Nat) - ((fL (pgs 64) (fun _ => none)).length : Nat) = 2 := by rw [← hK2]; decide
 have hsu := OwnT.stR O.tail
 have hss := OwnT.stR O.tail.tail.tail.tail.tail.tail.tail
 have hdd := OwnT.disc (OwnT.pull O 5 rfl)
 refine wp_seq ?_
 refine Z1s (R := Ext) (w0 := w77) [[], [0], [0, 1], [0, 1, 2], [0, 1, 2, 3], [0, 1, 2, 3, 4], [0, 1, 2, 3, 4, 5], [0, 1, 2, 3, 4, 5, 6], [0, 1, 2, 3, 4, 5, 6, 7], [0, 1, 2, 3, 4, 5, 6, 7, 8], [0, 1, 2, 3, 4, 5, 6, 7, 8, 9], [0, 1, 2, 3, 4, 5, 6, 7, 8, 9, 10], [0, 1, 2, 3, 4, 5, 6, 7, 8, 9, 10], [0, 1, 2, 3, 4, 5, 6, 7, 8, 9, 10, 11, 12], [0, 1, 2, 3, 4, 5, 6, 7, 8, 9, 10, 11, 12, 13], [0, 1, 2, 3, 4, 5, 6, 7, 8, 9, 10, 11, 12, 13, 14], [0, 1, 2, 3, 4, 5, 6, 7, 8, 9, 10, 11, 12, 13, 14, 15], [0, 1, 2, 3, 4, 5, 6, 7, 8, 9, 10, 11, 12, 13, 14, 15, 16], [0, 1, 2, 3, 4, 5, 6, 7, 8, 9, 10, 11, 12, 13, 14, 15, 16, 17], [0, 1, 2, 3, 4, 5, 6, 7, 8, 9, 10, 11, 12, 13, 14, 15, 16, 17, 18], [0, 1, 2, 3, 4, 5, 6, 7, 8, 9, 10, 11, 12, 13, 14, 15, 16, 17, 18, 19], [0, 1, 2, 3, 4, 5, 6, 7, 8, 9, 10, 11, 12, 13, 14, 15, 16, 17, 18, 19, 20], [0, 1, 2, 3, 4, 5, 6, 7, 8, 9, 10, 11, 12, 13, 14, 15, 16, 17, 18, 19, 20, 21], [0, 1, 2, 3, 4, 5, 6, 7, 8, 9, 10, 11, 12, 13, 14, 15, 16, 17, 18, 19, 20, 21, 22], [0, 1, 2, 3, 4, 5, 6, 7, 8, 9, 10, 11, 12, 13, 14, 15, 16, 17, 18, 19, 20, 21, 22, 23], [0, 1, 2, 3, 4, 5, 6, 7, 8, 9, 10, 11, 12, 13, 14, 15, 16, 17, 18, 19, 20, 21, 22, 23, 24], [0, 1, 2, 3, 4, 5, 6, 7, 8, 9, 10, 11, 12, 13, 14, 15, 16, 17, 18, 19, 20, 21, 22, 23, 24, 25], [0, 1, 2, 3, 4, 5, 6, 7, 8, 9, 10, 11, 12, 13, 14, 15, 16, 17, 18, 19, 20, 21, 22, 23, 24, 25, 26], [0, 1, 2, 3, 4, 5, 6, 7, 8, 9, 10, 11, 12, 13, 14, 15, 16, 17, 18, 19, 20, 21, 22, 23, 24, 25, 26, 27], [0, 1, 2, 3, 4, 5, 6, 7, 8, 9, 10, 11, 12, 13, 14, 15, 16, 17, 18, 19, 20, 21, 22, 23, 24, 25, 26, 27, 28], [0, 1, 2, 3, 4, 5, 6, 7, 8, 9, 10, 11, 12, 13, 14, 15, 16, 17, 18, 19, 20, 21, 22, 23, 24, 25, 26, 27, 28, 29], [0, 1, 2, 3, 4, 5, 6, 7, 8, 9, 10, 11, 12, 13, 14, 15, 16, 17, 18, 19, 20, 21, 22, 23, 24, 25, 26, 27, 28, 29, 30], [0, 1, 2, 3, 4, 5, 6, 7, 8, 9, 10, 11, 12, 13, 14, 15, 16, 17, 18, 19, 20, 21, 22, 23, 24, 25, 26, 27, 28, 29, 30, 31], [0, 1, 2, 3, 4, 5, 6, 7, 8, 9, 10, 11, 12, 13, 14, 15, 16, 17, 18, 19, 20, 21, 22, 23, 24, 25, 26, 27, 28, 29, 30, 31, 32], [0, 1, 2, 3, 4, 5, 6, 7, 8, 9, 10, 11, 12, 13, 14, 15, 16, 17, 18, 19, 20, 21, 22, 23, 24, 25, 26, 27, 28, 29, 30, 31, 32, 33], [0, 1, 2, 3, 4, 5, 6, 7, 8, 9, 10, 11, 12, 13, 14, 15, 16, 17, 18, 19, 20, 21, 22, 23, 24, 25, 26, 27, 28, 29, 30, 31, 32, 33, 34], [0, 1, 2, 3, 4, 5, 6, 7, 8, 9, 10, 11, 12, 13, 14, 15, 16, 17, 18, 19, 20, 21, 22, 23, 24, 25, 26, 27, 28, 29, 30, 31, 32, 33, 34, 35], [0, 1, 2, 3, 4, 5, 6, 7, 8, 9, 10, 11, 12, 13, 14, 15, 16, 17, 18, 19, 20, 21, 22, 23, 24, 25, 26, 27, 28, 29, 30, 31, 32, 33, 34, 35], [0, 1, 2, 3, 4, 5, 6, 7, 8, 9, 10, 11, 12, 13, 14, 15, 16, 17, 18, 19, 20, 21, 22, 23, 24, 25, 26, 27, 28, 29, 30, 31, 32, 33, 34, 35, 36, 37], [0, 1, 2, 3, 4, 5, 6, 7, 8, 9, 10, 11, 12, 13, 14, 15, 16, 17, 18, 19, 20, 21, 22, 23, 24, 25, 26, 27, 28, 29, 30, 31, 32, 33, 34, 35, 36, 37, 38], [0, 1, 2, 3, 4, 5, 6, 7, 8, 9, 10, 11, 12, 13, 14, 15, 16, 17, 18, 19, 20, 21, 22, 23, 24, 25, 26, 27, 28, 29, 30, 31, 32, 33, 34, 35, 36, 37, 38, 39], [0, 1, 2, 3, 4, 5, 6, 7, 8, 9, 10, 11, 12, 13, 14, 15, 16, 17, 18, 19, 20, 21, 22, 23, 24, 25, 26, 27, 28, 29, 30, 31, 32, 33, 34, 35, 36, 37, 38, 39, 40], [0, 1, 2, 3, 4, 5, 6, 7, 8, 9, 10, 11, 12, 13, 14, 15, 16, 17, 18, 19, 20, 21, 22, 23, 24, 25, 26, 27, 28, 29, 30, 31, 32, 33, 34, 35, 36, 37, 38, 39, 40, 41], [0, 1, 2, 3, 4, 5, 6, 7, 8, 9, 10, 11, 12, 13, 14, 15, 16, 17, 18, 19, 20, 21, 22, 23, 24, 25, 26, 27, 28, 29, 30, 31, 32, 33, 34, 35, 36, 37, 38, 39, 40, 41, 42], [0, 1, 2, 3, 4, 5, 6, 7, 8, 9, 10, 11, 12, 13, 14, 15, 16, 17, 18, 19, 20, 21, 22, 23, 24, 25, 26, 27, 28, 29, 30, 31, 32, 33, 34, 35, 36, 37, 38, 39, 40, 41, 42, 43], [0, 1, 2, 3, 4, 5, 6, 7, 8, 9, 10, 11, 12, 13, 14, 15, 16, 17, 18, 19, 20, 21, 22, 23, 24, 25, 26, 27, 28, 29, 30, 31, 32, 33, 34, 35, 36, 37, 38, 39, 40, 41, 42, 43, 44], [0, 1, 2, 3, 4, 5, 6, 7, 8, 9, 10, 11, 12, 13, 14, 15, 16, 17, 18, 19, 20, 21, 22, 23, 24, 25, 26, 27, 28, 29, 30, 31, 32, 33, 34, 35, 36, 37, 38, 39, 40, 41, 42, 43, 44, 45], [0, 1, 2, 3, 4, 5, 6, 7, 8, 9, 10, 11, 12, 13, 14, 15, 16, 17, 18, 19, 20, 21, 22, 23, 24, 25, 26, 27, 28, 29, 30, 31, 32, 33, 34, 35, 36, 37, 38, 39, 40, 41, 42, 43, 44, 45, 46], [0, 1, 2, 3, 4, 5, 6, 7, 8, 9, 10, 11, 12, 13, 14, 15, 16, 17, 18, 19, 20, 21, 22, 23, 24, 25, 26, 27, 28, 29, 30, 31, 32, 33, 34, 35, 36, 37, 38, 39, 40, 41, 42, 43, 44, 45, 46, 47], [0, 1, 2, 3, 4, 5, 6, 7, 8, 9, 10, 11, 12, 13, 14, 15, 16, 17, 18, 19, 20, 21, 22, 23, 24, 25, 26, 27, 28, 29, 30, 31, 32, 33, 34, 35, 36, 37, 38, 39, 40, 41, 42, 43, 44, 45, 46, 47, 48], [0, 1, 2, 3, 4, 5, 6, 7, 8, 9, 10, 11, 12, 13, 14, 15, 16, 17, 18, 19, 20, 21, 22, 23, 24, 25, 26, 27, 28, 29, 30, 31, 32, 33, 34, 35, 36, 37, 38, 39, 40, 41, 42, 43, 44, 45, 46, 47, 48, 49]] [62, 63, 64, 65, 66, 67, 68, 69, 70, 71, 72, 73, 74, 75, 76, 77, 78, 79, 80, 81, 82, 83, 84, 85, 86, 87, 88, 89, 90, 91, 92, 93, 94, 95, 96, 97, 98, 99, 100, 101, 102, 103, 104, 105, 106, 107, 108, 109, 110, 111, 0] Ext.refl (fun _ _ _ => Ext.trans) (Ext.drew _) (by kernel_rfl) ?_
 apply bd 62 k rfl rfl rfl
 case h =>
  intro ax wx hE hR hF
  exact Z03 rfl (hE.g e5)
 apply bd 63 k rfl rfl rfl
 case h =>
  intro ax wx hE hR hF
  have e62 := zhF hF 0 62 ml0
  exact Z08 (Z28 rfl e62 rfl) (decide_eq_true (by omega))
 apply bd 64 k rfl rfl rfl
 case h =>
  intro ax wx hE hR hF
  have e63 := zhF hF 1 63 ml0
  exact Z03 rfl e63
 apply bdg 65 k rfl rfl rfl rfl
 case h =>
  intro ax wx hE hR hF
  have e64 := zhF hF 2 64 ml0
  refine ⟨e64, ?_⟩
  exact Z03 rfl (hE.g e6)
 apply bdg 66 k rfl rfl rfl rfl
 case h =>
  intro ax wx hE hR hF
  have e65 := zhF hF 3 65 ml0
  have e64 := zhF hF 2 64 ml1
  refine ⟨e64, ?_⟩
  exact Z08 (Z28 rfl e65 rfl) (decide_eq_true (by omega))
 apply bd 67 k rfl rfl rfl
 case h =>
  intro ax wx hE hR hF
  have e64 := zhF hF 2 64 ml2
  have e66 := zhF hF 4 66 ml0
  exact Z0d rfl e64 e66
 apply bd 68 k rfl rfl rfl
 case h =>
  intro ax wx hE hR hF
  have e67 := zhF hF 5 67 ml0
  exact Z03 rfl e67
 apply bdg 69 k rfl rfl rfl rfl
 case h =>
  intro ax wx hE hR hF
  have e68 := zhF hF 6 68 ml0
  refine ⟨e68, ?_⟩
  exact Z03 rfl (hE.g e8)
 apply bdg 70 k rfl rfl rfl rfl
 case h =>
  intro ax wx hE hR hF
  have e69 := zhF hF 7 69 ml0
  have e68 := zhF hF 6 68 ml1
  refine ⟨e68, ?_⟩
  exact Z08 (Z28 rfl e69 rfl) (decide_eq_true (by omega))
 apply bd 71 k rfl rfl rfl
 case h =>
  intro ax wx hE hR hF
  have e68 := zhF hF 6 68 ml2
  have e70 := zhF hF 8 70 ml0
  exact Z0d rfl e68 e70
 apply bd 72 k rfl rfl rfl
 case h =>
  intro ax wx hE hR hF
  have e71 := zhF hF 9 71 ml0
  exact Z03 rfl e71
 apply bdg 73 k rfl rfl rfl rfl
 case h =>
  intro ax wx hE hR hF
  have e72 := zhF hF 10 72 ml0
  refine ⟨e72, ?_⟩
  have q0 : wx.cell? ⟨lb, 0, none⟩ = some (.int .i64 0) := (OwnT.blk (OwnT.ext O hR) 12 rfl).cell 0
  have q1 : wx.cell? ⟨lb, 1, none⟩ = some (.slice By 1 cy) := (OwnT.blk (OwnT.ext O hR) 12 rfl).cell 1
  simp [go_sem, ↓IntWalk.iteOmega, ev (hE.g e7), q0, q1]
  with_reducible rfl
 apply Build.callnewg 74 (fun v w => ∃ g, v = .agg #[.int .i64 0, .slice (some ⟨g, 0, none⟩) 1 1] ∧ Row w (some ⟨g, 0, none⟩) 2 pairC (nodeP 5)) (fun v w w' hR h => by obtain ⟨g, e, h⟩ := h; exact ⟨g, e, h.ext hR⟩) Ext.refl (by rfl) (by rw [k.size]; rfl) rfl rfl
 case h =>
  intro ax wx hE hR hF
  have e72 := zhF hF 10 72 ml1
  refine ⟨e72, ?_⟩
  simp [go_sem, ↓IntWalk.iteOmega]
  with_reducible exact ⟨rfl, rfl⟩
 case hc => exact fun wx hR => (Z2j 5 wx).mono (fun e w' ⟨g, h1, h2, h3⟩ => ⟨_, h1, h3, g, rfl, h2⟩)
 apply Build.callxg 75 Ext.refl (by rfl) (by rw [k.size]; rfl) rfl rfl
 case h =>
  intro ax wx hE hR hF
  have e73 := zhF hF 11 73 ml1
  have f74 := hF 12 _ (by decide) ml0
  have e72 := zhF hF 10 72 ml2
  refine ⟨e72, ?_⟩
  obtain ⟨g9, e74, hg9⟩ := f74
  refine ⟨_, _, ?_, Z2b (cy := cy) (cz := 1) (a := 5) (hy.ext hR) hg9⟩
  simp [go_sem, ↓IntWalk.iteOmega, ev e73, ev e74]
 apply bd 76 k rfl rfl rfl
 case h =>
  intro ax wx hE hR hF
  have e72 := zhF hF 10 72 ml3
  have e75 := zhF hF 13 75 ml0
  exact Z0d rfl e72 e75
 apply bd 77 k rfl rfl rfl
 case h =>
  intro ax wx hE hR hF
  have e76 := zhF hF 14 76 ml0
  exact Z03 rfl e76
 apply bdg 78 k rfl rfl rfl rfl
 case h =>
  intro ax wx hE hR hF
  have e77 := zhF hF 15 77 ml0
  refine ⟨e77, ?_⟩
  exact Z03 rfl (hE.g e9)
 apply bdg 79 k rfl rfl rfl rfl
 case h =>
  intro ax wx hE hR hF
  have e78 := zhF hF 16 78 ml0
  have e77 := zhF hF 15 77 ml1
  refine ⟨e77, ?_⟩
  exact Z08 (Z28 rfl e78 rfl) (decide_eq_true (by omega))
 apply bd 80 k rfl rfl rfl
 case h =>
  intro ax wx hE hR hF
  have e77 := zhF hF 15 77 ml2
  have e79 := zhF hF 17 79 ml0
  exact Z0d rfl e77 e79
 apply bd 81 k rfl rfl rfl
 case h =>
  intro ax wx hE hR hF
  have e80 := zhF hF 18 80 ml0
  exact Z03 rfl e80
 apply bdg 82 k rfl rfl rfl rfl
 case h =>
  intro ax wx hE hR hF
  have e81 := zhF hF 19 81 ml0
  refine ⟨e81, ?_⟩
  exact Z03 rfl (hE.g e10)
 apply Build.callg 83 Ext.refl (by rfl) (by rw [k.size]; rfl) rfl rfl
 case h =>
  intro ax wx hE hR hF
  have e82 := zhF hF 20 82 ml0
  have e81 := zhF hF 19 81 ml1
  refine ⟨e81, ?_⟩
  simp [go_sem, ↓IntWalk.iteOmega, ev e82]
  with_reducible exact ⟨rfl, rfl⟩
 case hc => intro wx hR; exact (show Calls _ _ _ _ (fun e w' => e = .returned (.agg #[.int .u64 2, .int .i64 1, .int .i64 9, .int .i64 3, .int .i64 2]) ∧ Ext wx w') from (Z6d wx (hsu.ext hR)).mono (fun e w' h => ⟨h.1.trans (rfl), h.2⟩))
 apply bdg 84 k rfl rfl rfl rfl
 case h =>
  intro ax wx hE hR hF
  have e83 := zhF hF 21 83 ml0
  have e81 := zhF hF 19 81 ml2
  refine ⟨e81, ?_⟩
  simp [go_sem, ↓IntWalk.iteOmega, ev e83, fld_gen]
  with_reducible rfl
 apply bdg 85 k rfl rfl rfl rfl
 case h =>
  intro ax wx hE hR hF
  have e84 := zhF hF 22 84 ml0
  have e81 := zhF hF 19 81 ml3
  refine ⟨e81, ?_⟩
  exact Z08 (Z28 rfl e84 rfl) (decide_eq_true rfl)
 apply bd 86 k rfl rfl rfl
 case h =>
  intro ax wx hE hR hF
  have e81 := zhF hF 19 81 ml4
  have e85 := zhF hF 23 85 ml0
  exact Z0d rfl e81 e85
 apply bd 87 k rfl rfl rfl
 case h =>
  intro ax wx hE hR hF
  have e86 := zhF hF 24 86 ml0
  exact Z03 rfl e86
 apply bdg 88 k rfl rfl rfl rfl
 case h =>
  intro ax wx hE hR hF
  have e87 := zhF hF 25 87 ml0
  refine ⟨e87, ?_⟩
  exact Z03 rfl (hE.g e10)
 apply Build.callg 89 Ext.refl (by rfl) (by rw [k.size]; rfl) rfl rfl
 case h =>
  intro ax wx hE hR hF
  have e88 := zhF hF 26 88 ml0
  have e87 := zhF hF 25 87 ml1
  refine ⟨e87, ?_⟩
  simp [go_sem, ↓IntWalk.iteOmega, ev e88]
  with_reducible exact ⟨rfl, rfl⟩
 case hc => intro wx hR; exact (show Calls _ _ _ _ (fun e w' => e = .returned (.agg #[.int .u64 2, .int .i64 1, .int .i64 9, .int .i64 3, .int .i64 2]) ∧ Ext wx w') from (Z6d wx (hsu.ext hR)).mono (fun e w' h => ⟨h.1.trans (rfl), h.2⟩))
 apply bdg 90 k rfl rfl rfl rfl
 case h =>
  intro ax wx hE hR hF
  have e89 := zhF hF 27 89 ml0
  have e87 := zhF hF 25 87 ml2
  refine ⟨e87, ?_⟩
  simp [go_sem, ↓IntWalk.iteOmega, ev e89, fld_root]
  with_reducible rfl
 apply bdg 91 k rfl rfl rfl rfl
 case h =>
  intro ax wx hE hR hF
  have e90 := zhF hF 28 90 ml0
  have e87 := zhF hF 25 87 ml3
  refine ⟨e87, ?_⟩
  exact Z08 (Z28 rfl e90 rfl) (decide_eq_true rfl)
 apply bd 92 k rfl rfl rfl
 case h =>
  intro ax wx hE hR hF
  have e87 := zhF hF 25 87 ml4
  have e91 := zhF hF 29 91 ml0
  exact Z0d rfl e87 e91
 apply bd 93 k rfl rfl rfl
 case h =>
  intro ax wx hE hR hF
  have e92 := zhF hF 30 92 ml0
  exact Z03 rfl e92
 apply bdg 94 k rfl rfl rfl rfl
 case h =>
  intro ax wx hE hR hF
  have e93 := zhF hF 31 93 ml0
  refine ⟨e93, ?_⟩
  exact Z03 rfl (hE.g e13)
 apply bdg 95 k rfl rfl rfl rfl
 case h =>
  intro ax wx hE hR hF
  have e94 := zhF hF 32 94 ml0
  have e93 := zhF hF 31 93 ml1
  refine ⟨e93, ?_⟩
  exact Z08 (Z28 rfl e94 rfl) (decide_eq_true (by omega))
 apply bd 96 k rfl rfl rfl
 case h =>
  intro ax wx hE hR hF
  have e93 := zhF hF 31 93 ml2
  have e95 := zhF hF 33 95 ml0
  exact Z0d rfl e93 e95
 apply bd 97 k rfl rfl rfl
 case h =>
  intro ax wx hE hR hF
  have e96 := zhF hF 34 96 ml0
  exact Z03 rfl e96
 apply bdg 98 k rfl rfl rfl rfl
 case h =>
  intro ax wx hE hR hF
  have e97 := zhF hF 35 97 ml0
  refine ⟨e97, ?_⟩
  have q0 : wx.cell? ⟨lk, 0, none⟩ = some (.int .i64 0) := (OwnT.blk (OwnT.ext O hR) 0 rfl).cell 0
  have q1 : wx.cell? ⟨lk, 1, none⟩ = some (.slice Bk 1 ck) := (OwnT.blk (OwnT.ext O hR) 0 rfl).cell 1
  simp [go_sem, ↓IntWalk.iteOmega, ev (hE.g e12), q0, q1]
  with_reducible rfl
 apply Build.callnewg 99 (fun v w => ∃ g, v = .agg #[.int .i64 0, .slice (some ⟨g, 0, none⟩) 1 1] ∧ Row w (some ⟨g, 0, none⟩) 2 pairC (nodeP 5)) (fun v w w' hR h => by obtain ⟨g, e, h⟩ := h; exact ⟨g, e, h.ext hR⟩) Ext.refl (by rfl) (by rw [k.size]; rfl) rfl rfl
 case h =>
  intro ax wx hE hR hF
  have e97 := zhF hF 35 97 ml1
  refine ⟨e97, ?_⟩
  simp [go_sem, ↓IntWalk.iteOmega]
  with_reducible exact ⟨rfl, rfl⟩
 case hc => exact fun wx hR => (Z2j 5 wx).mono (fun e w' ⟨g, h1, h2, h3⟩ => ⟨_, h1, h3, g, rfl, h2⟩)
 apply Build.callxg 100 Ext.refl (by rfl) (by rw [k.size]; rfl) rfl rfl
 case h =>
  intro ax wx hE hR hF
  have e98 := zhF hF 36 98 ml1
  have f99 := hF 37 _ (by decide) ml0
  have e97 := zhF hF 35 97 ml2
  refine ⟨e97, ?_⟩
  obtain ⟨g9, e99, hg9⟩ := f99
  refine ⟨_, _, ?_, Z2b (cy := ck) (cz := 1) (a := 5) (hk.ext hR) hg9⟩
  simp [go_sem, ↓IntWalk.iteOmega, ev e98, ev e99]
 apply bd 101 k rfl rfl rfl
 case h =>
  intro ax wx hE hR hF
  have e97 := zhF hF 35 97 ml3
  have e100 := zhF hF 38 100 ml0
  exact Z0d rfl e97 e100
 apply bd 102 k rfl rfl rfl
 case h =>
  intro ax wx hE hR hF
  have e101 := zhF hF 39 101 ml0
  exact Z03 rfl e101
 apply bdg 103 k rfl rfl rfl rfl
 case h =>
  intro ax wx hE hR hF
  have e102 := zhF hF 40 102 ml0
  refine ⟨e102, ?_⟩
  exact Z03 rfl (hE.g e3)
 apply Build.callg 104 Ext.refl (by rfl) (by rw [k.size]; rfl) rfl rfl
 case h =>
  intro ax wx hE hR hF
  have e103 := zhF hF 41 103 ml0
  have e102 := zhF hF 40 102 ml1
  refine ⟨e102, ?_⟩
  simp [go_sem, ↓IntWalk.iteOmega, ev e103]
  with_reducible exact ⟨rfl, rfl⟩
 case hc => intro wx hR; exact (show Calls _ _ _ _ (fun e w' => e = .returned (.int .i64 4) ∧ Ext wx w') from ((Z1n wx (hss.ext hR) (hdd.ext hR)).mono (fun e w' h => (⟨h.1, h.2 ▸ Ext.refl _⟩ : _ ∧ Ext wx w'))).mono (fun e w' h => ⟨h.1.trans (rfl), h.2⟩))
 apply bdg 105 k rfl rfl rfl rfl
 case h =>
  intro ax wx hE hR hF
  have e104 := zhF hF 42 104 ml0
  have e102 := zhF hF 40 102 ml2
  refine ⟨e102, ?_⟩
  exact Z08 (Z28 rfl e104 rfl) (decide_eq_true (by omega))
 apply bd 106 k rfl rfl rfl
 case h =>
  intro ax wx hE hR hF
  have e102 := zhF hF 40 102 ml3
  have e105 := zhF hF 43 105 ml0
  exact Z0d rfl e102 e105
 apply bd 107 k rfl rfl rfl
 case h =>
  intro ax wx hE hR hF
  have e106 := zhF hF 44 106 ml0
  exact Z03 rfl e106
 apply bdg 108 k rfl rfl rfl rfl
 case h =>
  intro ax wx hE hR hF
  have e107 := zhF hF 45 107 ml0
  refine ⟨e107, ?_⟩
  exact Z03 rfl (hE.g e3)
 apply Build.callg 109 Ext.refl (by rfl) (by rw [k.size]; rfl) rfl rfl
 case h =>
  intro ax wx hE hR hF
  have e108 := zhF hF 46 108 ml0
  have e107 := zhF hF 45 107 ml1
  refine ⟨e107, ?_⟩
  simp [go_sem, ↓IntWalk.iteOmega, ev e108]
  with_reducible exact ⟨rfl, rfl⟩
 case hc => intro wx hR; exact (show Calls _ _ _ _ (fun e w' => e = .returned (.int .i64 2) ∧ Ext wx w') from (Z1z wx (hss.ext hR) (hdd.ext hR) ok2 rfl).mono (fun e w' h => ⟨h.1.trans (congrArg (fun z => Ending.returned (Value.int .i64 z)) hcnt), h.2⟩))
 apply bdg 110 k rfl rfl rfl rfl
 case h =>
  intro ax wx hE hR hF
  have e109 := zhF hF 47 109 ml0
  have e107 := zhF hF 45 107 ml2
  refine ⟨e107, ?_⟩
  exact Z08 (Z28 rfl e109 rfl) (decide_eq_true (by omega))
 apply bd 111 k rfl rfl rfl
 case h =>
  intro ax wx hE hR hF
  have e107 := zhF hF 45 107 ml3
  have e110 := zhF hF 48 110 ml0
  exact Z0d rfl e107 e110
 apply bd 0 k rfl rfl rfl
 case h =>
  intro ax wx hE hR hF
  have e111 := zhF hF 49 111 ml0
  exact Z01 rfl e111
 apply Build.stop
 refine ⟨by kernel_rfl, .inl ⟨rfl, ?_⟩⟩
 intro a79 w80 hE R hF
 have e0 : a79.eval (.tmp 0) = _ := hF 50 (det 0 _) ml0
 clear hF
 replace O := OwnT.ext O R
 replace hk := Row.ext hk R
 clear R
 replace k := k.env hE
 clear hE e3 e5 e6 e7 e8 e9 e10 e12 e13
 refine Z00 ?_
 refine wp_ret ?_
 refine Z0i rfl k e0 ?_
 exact ⟨rfl, O.below⟩
end Go.Proofs.YtakkhglbdljfiaaGreatDoor
