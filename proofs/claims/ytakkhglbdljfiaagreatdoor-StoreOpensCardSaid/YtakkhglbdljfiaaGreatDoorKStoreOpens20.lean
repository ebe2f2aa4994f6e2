/- store's laws: awake (printed by XStI.gen.py). -/
import Derived.Test.YtakkhglbdljfiaaGreatDoorKStoreOpens19
import Derived.Test.YtakkhglbdljfiaaGreatDoorKStoreOpens00
import Derived.Laws.StructEq
import Derived.Test.YtakkhglbdljfiaaGreatDoorKStoreOpens12
namespace Go.Proofs.YtakkhglbdljfiaaGreatDoor
attribute [local simp] BigFrame.eval_const BigFrame.eval_global BigFrame.eval_func
set_option linter.unusedVariables false
set_option linter.unusedSimpArgs false
open Go.RowKit Go.Maps

abbrev fm07 : Hd := fmtHd 9 3 2
theorem fm07_ok : fm07.Ok := by decide
theorem fm07_next : (nextHd fm07 1).Ok := by decide
def aw07 : List Sec := List.replicate 64 zsec
def S07 : List Sec := fmS aw07 noL fm07
theorem S07_len : S07.length = 64 := by unfold S07; rw [fm_len]; exact List.length_replicate
abbrev F07 : Int → Option Nd := putF (fun _ => none) 1 (node 5)
def T07 : List Sec := cmS S07 F07 (todo (pgs 64) F07 [1]) (1 - 0) (hdB (nextHd fm07 1))
theorem todo07 : (1 : Int) ∈ todo (pgs 64) F07 [1] := Z6z.2 ⟨⟨by decide, by decide⟩, by decide⟩
theorem first07 : FirstFree (pgs 64) (fun _ => false) (fun _ => none) 1 := ⟨by decide, by decide, rfl, fun d h1 h2 => by omega⟩
theorem lost07 : ([1] : List Int).any (lostB (pgs 64) (fun _ => false) F07) = false := by
 simp [lostB, freeB, putF]
theorem page07 : pgS T07 1 = pgB (node 5) := by
 unfold T07
 exact cm_new (c := 1) (nd := node 5) (by rw [S07_len]; decide) (by decide) (by decide) todo07 rfl (Z7p 5)
theorem fld_gen (g r a b c : Int) : ∀ w, (Instr.field 39 (.agg #[.int .u64 g, .int .i64 r, .int .i64 a, .int .i64 b, .int .i64 c]) 0).run Tryz.prog w = .ok (.int .u64 g) w := fun _ => by kernel_rfl
theorem fld_root (g r a b c : Int) : ∀ w, (Instr.field 39 (.agg #[.int .u64 g, .int .i64 r, .int .i64 a, .int .i64 b, .int .i64 c]) 1).run Tryz.prog w = .ok (.int .i64 r) w := fun _ => by kernel_rfl
theorem stok_nil {P : Nat} (h : P ≤ 512) : StOk P (fun _ => false) (fun _ => none) [] [] (fun _ => none) :=
 ⟨h, (fun c hc => by cases hc), (fun c nd hc => by cases hc), (fun c nd hc => by cases hc), (fun _ _ => rfl), (fun c nd hc => by cases hc)⟩

set_option maxRecDepth 100000 in
set_option maxHeartbeats 8000000 in
theorem awake07 (W0 : World) : Calls Tryz.prog 7 #[] W0 fun e w' => e = .returned (.bool true) ∧ Ext W0 w' := by
 have O := OwnT.start W0
 refine Z0f Tryz.func7 rfl 112 rfl (by rfl) ?_
 intro a1 k hargs; clear hargs; have ok0 := stok_nil (P := pgs 64) (by decide)
 refine wp_seq ?_; refine wp_region_lit ?_
 have hE := Env.refl a1 [0]; refine sd 0 hE k (Z01 rfl rfl) ?_; intro a2 hE e0 kp; refine wpList_nil ?_; replace k := k.env hE; clear hE e0; refine Z00 (wp_seq ?_); refine wp_region_lit ?_
 have hE := Env.refl a2 [14, 1]; apply Z06 14 hE k rfl (by rfl) (by rfl) rfl
 case h =>
  simp [go_sem, ↓IntWalk.iteOmega]
  with_reducible exact ⟨rfl, rfl⟩
 case hc => exact new_mn O
 clear O; rintro e w4 ⟨mb, rfl, O⟩
 refine ⟨_, rfl, ?_⟩
 intro a3 hE e14 kp; refine sd 1 hE k (Z01 rfl e14) ?_; intro a5 hE e1 kp; refine wpList_nil ?_; replace k := k.env hE; clear hE; refine Z00 (wp_seq ?_); refine wp_region_lit ?_
 have hE := Env.refl a5 [15, 16, 2]; refine zm 15 hE k e1 ?_; intro a6 hE e15 kp; apply Z06 16 hE k rfl (by rfl) (by rfl) rfl
 case h =>
  simp [go_sem, ↓IntWalk.iteOmega, ev e15]
  with_reducible exact ⟨rfl, rfl⟩
 case hc => exact dnew_any 64 64 _ O (by decide)
 clear O; rintro e w8 ⟨p, B, cap, bm, rfl, O⟩
 refine ⟨_, rfl, ?_⟩
 intro a7 hE e16 kp; refine sd 2 hE k (Z01 rfl e16) ?_; intro a9 hE e2 kp; refine wpList_nil ?_; replace k := k.env hE; clear hE e1; refine Z00 (wp_seq ?_); refine wp_region_lit ?_
 have hE := Env.refl a9 [18, 19, 20, 17, 21, 22, 3, 4]; refine zm 18 hE k e2 ?_; intro a10 hE e18 kp; apply Z06 19 hE k rfl (by rfl) (by rfl) rfl
 case h =>
  simp [go_sem, ↓IntWalk.iteOmega]
  with_reducible exact ⟨rfl, rfl⟩
 case hc => exact slots_any _
 rintro e w12 ⟨rfl, RE⟩
 replace O := OwnT.ext O RE; refine ⟨_, rfl, ?_⟩
 intro a11 hE e19 kp; replace e18 := kt kp e18; apply Z06 20 hE k rfl (by rfl) (by rfl) rfl
 case h =>
  simp [go_sem, ↓IntWalk.iteOmega, ev e18, ev e19]
  with_reducible exact ⟨rfl, rfl⟩
 case hc => exact Z48 (S := aw07) 9 3 2 _ O fm07_ok (by decide) mn0_ok (by decide) mn0_free
 clear O; rintro e w14 ⟨j, sb, kb, fb, hj, rfl, O⟩
 refine ⟨_, rfl, ?_⟩
 intro a13 hE e20 kp; refine sd 17 hE k (Z02 rfl e20) ?_; intro a15 hE e17 kp; apply Z04 21 hE k rfl rfl rfl rfl; case h =>
  simp [go_sem, ↓IntWalk.iteOmega, ev e17]
  with_reducible rfl
 intro a16 hE e21 kp; replace e17 := kt kp e17; apply Z04 22 hE k rfl rfl rfl rfl; case h =>
  simp [go_sem, ↓IntWalk.iteOmega, ev e17]
  with_reducible rfl
 intro a17 hE e22 kp; replace e21 := kt kp e21; refine sd 3 hE k (Z01 rfl e21) ?_; intro a18 hE e3 kp; replace e22 := kt kp e22; refine sd 4 hE k (Z01 rfl e22) ?_; intro a19 hE e4 kp; replace e3 := kt kp e3; refine wpList_nil ?_; replace e2 := hE.g e2; replace k := k.env hE; clear hE; refine Z00 (wp_seq ?_); refine wp_seq ?_; refine wp_region_lit ?_
 have hE := Env.refl a19 [23, 24, 25, 26, 27, 28]; refine zm 23 hE k e4 ?_; intro a20 hE e23 kp; refine sd 24 hE k (Z08 (Z0x rfl e23 rfl) (decide_eq_false (by omega))) ?_
 intro a21 hE e24 kp; refine sd 25 hE k (Z02 rfl e24) ?_; intro a22 hE e25 kp; apply Z03 26 hE k rfl rfl rfl rfl rfl e25
 case h =>
  exact Z02 rfl (hE.g e3)
 intro a23 hE e26 kp; replace e25 := kt kp e25; apply Z03 27 hE k rfl rfl rfl rfl rfl e25
 case h =>
  simp [go_sem, ↓IntWalk.iteOmega, ev e26]
  with_reducible rfl
 intro a24 hE e27 kp; replace e25 := kt kp e25; refine sd 28 hE k (Z07 rfl e25 e27) ?_; intro a25 hE e28 kp; refine wpList_nil ?_; replace e2 := hE.g e2; replace e3 := hE.g e3; replace k := k.env hE; clear hE e4; refine Z00 ?_; refine Z0b e28 rfl ?_
 refine wp_skip ?_; refine Z00 (wp_seq ?_); refine wp_region_lit ?_
 have hE := Env.refl a25 [30, 31, 32, 29, 33, 34, 5, 6]; refine zm 30 hE k e3 ?_; intro a26 hE e30 kp; apply Z06 31 hE k rfl (by rfl) (by rfl) rfl
 case h =>
  simp [go_sem, ↓IntWalk.iteOmega]
  with_reducible exact ⟨rfl, rfl⟩
 case hc => exact Z4q 5 _
 rintro e w28 ⟨g, rfl, hrow, RE⟩
 replace O := OwnT.ext O RE; refine ⟨_, rfl, ?_⟩
 intro a27 hE e31 kp; replace e30 := kt kp e30; apply Z06 32 hE k rfl (by rfl) (by rfl) rfl
 case h =>
  simp [go_sem, ↓IntWalk.iteOmega, ev e30, ev e31]
  with_reducible exact ⟨rfl, rfl⟩
 case hc => exact sadd_at 5 1 1 rfl _ O ok0 hrow first07
 clear O; rintro e w30 ⟨m1, vs1, N1, rfl, O, ok1⟩
 clear hrow; refine ⟨_, rfl, ?_⟩
 intro a29 hE e32 kp; refine sd 29 hE k (Z02 rfl e32) ?_; intro a31 hE e29 kp; apply Z04 33 hE k rfl rfl rfl rfl; case h =>
  simp [go_sem, ↓IntWalk.iteOmega, ev e29]
  with_reducible rfl
 intro a32 hE e33 kp; replace e29 := kt kp e29; apply Z04 34 hE k rfl rfl rfl rfl; case h =>
  simp [go_sem, ↓IntWalk.iteOmega, ev e29]
  with_reducible rfl
 intro a33 hE e34 kp; replace e33 := kt kp e33; refine sd 5 hE k (Z01 rfl e33) ?_; intro a34 hE e5 kp; replace e34 := kt kp e34; refine sd 6 hE k (Z01 rfl e34) ?_; intro a35 hE e6 kp; replace e5 := kt kp e5; refine wpList_nil ?_; replace e2 := hE.g e2; replace e3 := hE.g e3; replace k := k.env hE; clear hE e28; refine Z00 (wp_seq ?_); refine wp_region_lit ?_
 have hE := Env.refl a35 [36, 37, 38, 35, 39, 40, 7, 8]; refine zm 36 hE k e3 ?_; intro a36 hE e36 kp; refine zm 37 hE k e5 ?_; intro a37 hE e37 kp; replace e36 := kt kp e36; apply Z06 38 hE k rfl (by rfl) (by rfl) rfl
 case h =>
  simp [go_sem, ↓IntWalk.iteOmega, ev e36, ev e37]
  with_reducible exact ⟨rfl, rfl⟩
 case hc => exact sread_add 1 5 _ O ok1 rfl
 clear O; rintro e w39 ⟨By, cy, rfl, O⟩
 refine ⟨_, rfl, ?_⟩
 intro a38 hE e38 kp; refine sd 35 hE k (Z02 rfl e38) ?_; intro a40 hE e35 kp; apply Z04 39 hE k rfl rfl rfl rfl; case h =>
  simp [go_sem, ↓IntWalk.iteOmega, ev e35]
  with_reducible rfl
 intro a41 hE e39 kp; replace e35 := kt kp e35; apply Z04 40 hE k rfl rfl rfl rfl; case h =>
  simp [go_sem, ↓IntWalk.iteOmega, ev e35]
  with_reducible rfl
 intro a42 hE e40 kp; replace e39 := kt kp e39; refine Z0o O (cs := #[.int .i64 0, .slice none 0 0]) (t := 47) 7 hE k rfl (by rfl) (by rfl) rfl (by simp [go_sem, ↓IntWalk.iteOmega]) ?_
 clear O; intro lb a43 w44 O hE e7 kp; replace e39 := kt kp e39; replace e40 := kt kp e40; have q0 : w44.cell? ⟨lb, 0, none⟩ = some (.int .i64 0) := (OwnT.blk O 0 rfl).cell 0
 have z0 : w44.frozen? ⟨lb, 0, none⟩ = false := (OwnT.blk O 0 rfl).frozen 0
 have q1 : w44.cell? ⟨lb, 1, none⟩ = some (.slice none 0 0) := (OwnT.blk O 0 rfl).cell 1
 have z1 : w44.frozen? ⟨lb, 1, none⟩ = false := (OwnT.blk O 0 rfl).frozen 1
 refine Z0m (w' := ((w44.setCell ⟨lb, 0, none⟩ (.int .i64 0)).setCell ⟨lb, 1, none⟩ (.slice By 1 cy))) hE rfl rfl (by simp [go_sem, ↓IntWalk.iteOmega, ev e7, ev e39, q0, z0, q1, z1]) ?_
 replace O := OwnT.push 0 rfl (((OwnT.pull O 0 rfl).set 0 (.int .i64 0)).set 1 (.slice By 1 cy))
 clear q0 z0 q1 z1; generalize ((w44.setCell ⟨lb, 0, none⟩ (.int .i64 0)).setCell ⟨lb, 1, none⟩ (.slice By 1 cy)) = w45 at O ⊢
 replace O : OwnT _ _ ([tBlk lb 47 #[.int .i64 0, .slice By 1 cy], tPs (.slice By 1 cy) (nodeP 5), tBlk sb 102 (stB p fm07 0 kb fb), tMap kb 512 (keptV ((fun _ => false))), tMap fb 512 m1, tPool vs1 N1, tDisc p mb B 64 cap bm S07 noL, tMn mb (mn0.useN j)]) w45 := O
 refine sd 8 hE k (Z01 rfl e40) ?_; intro a46 hE e8 kp; replace e7 := kt kp e7; refine wpList_nil ?_; replace e2 := hE.g e2; replace e3 := hE.g e3; replace e5 := hE.g e5; replace e6 := hE.g e6; replace k := k.env hE; clear hE; refine Z00 (wp_seq ?_); refine wp_region_lit ?_
 have hE := Env.refl a46 [41, 42, 43, 44, 45, 9]; refine zm 41 hE k e3 ?_; intro a47 hE e41 kp; refine zm 42 hE k e5 ?_; intro a48 hE e42 kp; replace e41 := kt kp e41; refine zm 43 hE k e5 ?_; intro a49 hE e43 kp; replace e41 := kt kp e41; replace e42 := kt kp e42; refine Z6l (m := 1) (c := 1) O (cs := #[.int .i64 1]) (t := 3) 44 hE k rfl (by rfl) (by rfl) rfl (by simp [go_sem, ↓IntWalk.iteOmega, ev e43]) ?_
 clear O; intro g8 a50 w51 O hE e44 kp; replace e41 := kt kp e41; replace e42 := kt kp e42; apply Z06 45 hE k rfl (by rfl) (by rfl) rfl
 case h =>
  simp [go_sem, ↓IntWalk.iteOmega, ev e41, ev e42, ev e44]
  with_reducible exact ⟨rfl, rfl⟩
 case hc => exact scommit_at (o := 0) (R := [tBlk g8 3 #[.int .i64 1], tBlk lb 47 #[.int .i64 0, .slice By 1 cy], tPs (.slice By 1 cy) (nodeP 5)]) (xs := [1]) 1 _ (OwnT.pick O [3, 4, 5, 6, 7, 8, 0, 1, 2] (by decide)) ok1 (fun W OW => row1_blk OW.t0) (by decide) (heads_fm (by decide) fm07_ok) (by decide) (mn0_ok.useN j) (by omega) fm07_next lost07 (.inr (by decide)) (mn0_free.useN j)
 clear O; rintro e w53 ⟨j2, m2, rfl, hj2, O, ok2, hh2⟩
 refine ⟨_, rfl, ?_⟩
 intro a52 hE e45 kp; refine sd 9 hE k (Z01 rfl e45) ?_; intro a54 hE e9 kp; refine wpList_nil ?_; replace e2 := hE.g e2; replace e3 := hE.g e3; replace e5 := hE.g e5; replace e6 := hE.g e6; replace e7 := hE.g e7; replace e8 := hE.g e8; replace k := k.env hE; clear hE; refine Z00 ?_; have hnw := hh2.newest (OwnT.disc (OwnT.pull O 4 rfl)).ok (by decide)
 obtain ⟨K2, hK2⟩ : ∃ K2, inP (pgs 64) [1] = K2 := ⟨_, rfl⟩
 rw [hK2] at O ok2
 refine wp_seq ?_; refine wp_region_lit ?_
 have hE := Env.refl a54 [47, 48, 46, 49, 50, 10, 11]; refine zm 47 hE k e2 ?_; intro a55 hE e47 kp; apply Z06 48 hE k rfl (by rfl) (by rfl) rfl
 case h =>
  simp [go_sem, ↓IntWalk.iteOmega, ev e47]
  with_reducible exact ⟨rfl, rfl⟩
 case hc => exact sopen_is (R := [tBlk sb 102 (stB p (nextHd fm07 1) 1 kb fb), tMap kb 512 (keptV K2), tMap fb 512 m2, tPool vs1 N1, tBlk g8 3 #[.int .i64 1], tBlk lb 47 #[.int .i64 0, .slice By 1 cy], tPs (.slice By 1 cy) (nodeP 5)]) _ (OwnT.pick O [4, 5, 0, 1, 2, 3, 6, 7, 8] (by decide)) (by decide) ((mn0_free.useN j).useN j2).1 hnw
 clear O; rintro e w57 ⟨ub, kb2, fb2, rfl, O⟩
 refine ⟨_, rfl, ?_⟩
 intro a56 hE e48 kp; refine sd 46 hE k (Z02 rfl e48) ?_; intro a58 hE e46 kp; apply Z04 49 hE k rfl rfl rfl rfl; case h =>
  simp [go_sem, ↓IntWalk.iteOmega, ev e46]
  with_reducible rfl
 intro a59 hE e49 kp; replace e46 := kt kp e46; apply Z04 50 hE k rfl rfl rfl rfl; case h =>
  simp [go_sem, ↓IntWalk.iteOmega, ev e46]
  with_reducible rfl
 intro a60 hE e50 kp; replace e49 := kt kp e49; refine sd 10 hE k (Z01 rfl e49) ?_; intro a61 hE e10 kp; replace e50 := kt kp e50; refine sd 11 hE k (Z01 rfl e50) ?_; intro a62 hE e11 kp; replace e10 := kt kp e10; refine wpList_nil ?_; replace e3 := hE.g e3; replace e5 := hE.g e5; replace e6 := hE.g e6; replace e7 := hE.g e7; replace e8 := hE.g e8; replace e9 := hE.g e9; replace k := k.env hE; clear hE e2; refine Z00 (wp_seq ?_); refine wp_seq ?_; refine wp_region_lit ?_
 have hE := Env.refl a62 [51, 52, 53, 54, 55, 56]; refine zm 51 hE k e11 ?_; intro a63 hE e51 kp; refine sd 52 hE k (Z08 (Z0x rfl e51 rfl) (decide_eq_false (by omega))) ?_
 intro a64 hE e52 kp; refine sd 53 hE k (Z02 rfl e52) ?_; intro a65 hE e53 kp; apply Z03 54 hE k rfl rfl rfl rfl rfl e53
 case h =>
  exact Z02 rfl (hE.g e10)
 intro a66 hE e54 kp; replace e53 := kt kp e53; apply Z03 55 hE k rfl rfl rfl rfl rfl e53
 case h =>
  simp [go_sem, ↓IntWalk.iteOmega, ev e54]
  with_reducible rfl
 intro a67 hE e55 kp; replace e53 := kt kp e53; refine sd 56 hE k (Z07 rfl e53 e55) ?_; intro a68 hE e56 kp; refine wpList_nil ?_; replace e3 := hE.g e3; replace e5 := hE.g e5; replace e6 := hE.g e6; replace e7 := hE.g e7; replace e8 := hE.g e8; replace e9 := hE.g e9; replace e10 := hE.g e10; replace k := k.env hE; clear hE e11; refine Z00 ?_; refine Z0b e56 rfl ?_
 refine wp_skip ?_; refine Z00 (wp_seq ?_); refine wp_region_lit ?_
 have hE := Env.refl a68 [58, 59, 57, 60, 61, 12, 13]; refine zm 58 hE k e10 ?_; intro a69 hE e58 kp; apply Z06 59 hE k rfl (by rfl) (by rfl) rfl
 case h =>
  simp [go_sem, ↓IntWalk.iteOmega, ev e58]
  with_reducible exact ⟨rfl, rfl⟩
 case hc => exact sread_node (M := (mn0.useN j).useN j2) 1 1 5 rfl _ (OwnT.stR O) (OwnT.disc (OwnT.pull O 4 rfl)) ok0 (by decide) rfl (OwnT.get O 5 rfl) ((mn0_free.useN j).useN j2).1 page07
 rintro e w71 ⟨Bk, ck, rfl, hk, RE⟩
 replace O := OwnT.ext O RE; refine ⟨_, rfl, ?_⟩
 intro a70 hE e59 kp; refine sd 57 hE k (Z02 rfl e59) ?_; intro a72 hE e57 kp; apply Z04 60 hE k rfl rfl rfl rfl; case h =>
  simp [go_sem, ↓IntWalk.iteOmega, ev e57]
  with_reducible rfl
 intro a73 hE e60 kp; replace e57 := kt kp e57; apply Z04 61 hE k rfl rfl rfl rfl; case h =>
  simp [go_sem, ↓IntWalk.iteOmega, ev e57]
  with_reducible rfl
 intro a74 hE e61 kp; replace e60 := kt kp e60; refine Z6m O (cs := #[.int .i64 0, .slice none 0 0]) (t := 47) 12 hE k rfl (by rfl) (by rfl) rfl (by simp [go_sem, ↓IntWalk.iteOmega]) ?_
 clear O; intro lk a75 w76 RX O hE e12 kp; replace hk := Row.ext hk RX
 clear RX; replace e60 := kt kp e60; replace e61 := kt kp e61; have q0 : w76.cell? ⟨lk, 0, none⟩ = some (.int .i64 0) := (OwnT.blk O 0 rfl).cell 0
 have z0 : w76.frozen? ⟨lk, 0, none⟩ = false := (OwnT.blk O 0 rfl).frozen 0
 have q1 : w76.cell? ⟨lk, 1, none⟩ = some (.slice none 0 0) := (OwnT.blk O 0 rfl).cell 1
 have z1 : w76.frozen? ⟨lk, 1, none⟩ = false := (OwnT.blk O 0 rfl).frozen 1
 have hbr := OwnT.blk O 0 rfl
 refine Z0m (w' := ((w76.setCell ⟨lk, 0, none⟩ (.int .i64 0)).setCell ⟨lk, 1, none⟩ (.slice Bk 1 ck))) hE rfl rfl (by simp [go_sem, ↓IntWalk.iteOmega, ev e12, ev e60, q0, z0, q1, z1]) ?_
 replace O := OwnT.push 0 rfl (((OwnT.pull O 0 rfl).set 0 (.int .i64 0)).set 1 (.slice Bk 1 ck))
 replace hk := Z3h (v0 := .int .i64 0) (v1 := .slice Bk 1 ck) hk hbr
 clear hbr; clear q0 z0 q1 z1; generalize ((w76.setCell ⟨lk, 0, none⟩ (.int .i64 0)).setCell ⟨lk, 1, none⟩ (.slice Bk 1 ck)) = w77 at O hk ⊢
 replace O : OwnT _ _ ([tBlk lk 47 #[.int .i64 0, .slice Bk 1 ck], tBlk ub 102 (stB p (nextHd fm07 1) 1 kb2 fb2), tMap kb2 512 (keptV ((fun _ => false))), tMap fb2 512 ((fun _ => none)), tPool ([]) ([]), tDisc p mb B 64 cap bm T07 noL, tMn mb ((mn0.useN j).useN j2), tBlk sb 102 (stB p (nextHd fm07 1) 1 kb fb), tMap kb 512 (keptV K2), tMap fb 512 m2, tPool vs1 N1, tBlk g8 3 #[.int .i64 1], tBlk lb 47 #[.int .i64 0, .slice By 1 cy], tPs (.slice By 1 cy) (nodeP 5)]) w77 := O
 refine sd 13 hE k (Z01 rfl e61) ?_; intro a78 hE e13 kp; replace e12 := kt kp e12; refine wpList_nil ?_; replace e3 := hE.g e3; replace e5 := hE.g e5; replace e6 := hE.g e6; replace e7 := hE.g e7; replace e8 := hE.g e8; replace e9 := hE.g e9; replace e10 := hE.g e10; replace k := k.env hE; clear hE e56; refine Z00 ?_; have hy : Row w77 By 2 pairC (nodeP 5) := by obtain ⟨B9, c9, e9, -, -, h9, -⟩ := ps_row (OwnT.get O 13 rfl); cases e9; exact h9
 have hcnt : ((pgs 64 : Nat) : Int) - 1 - ((kL (pgs 64) K2).length : Nat) - ((fL (pgs 64) (fun _ => none)).length : Nat) = 2 := by rw [← hK2]; decide
 have hsu := OwnT.stR O.tail
 have hss := OwnT.stR O.tail.tail.tail.tail.tail.tail.tail
 have hdd := OwnT.disc (OwnT.pull O 5 rfl)
 refine wp_seq ?_; refine Z0n (R := Ext) (w0 := w77) [[], [0], [0, 1], [0, 1, 2], rg 4, rg 5, rg 6, rg 7, rg 8, rg 9, rg 10, rg 11, rg 11, rg 13, rg 14, rg 15, rg 16, rg 17, rg 18, rg 19, rg 20, rg 21, rg 22, rg 23, rg 24, rg 25, rg 26, rg 27, rg 28, rg 29, rg 30, rg 31, rg 32, rg 33, rg 34, rg 35, rg 36, rg 36, rg 38, rg 39, rg 40, rg 41, rg 42, rg 43, rg 44, rg 45, rg 46, rg 47, rg 48, rg 49, rg 50] [62, 63, 64, 65, 66, 67, 68, 69, 70, 71, 72, 73, 74, 75, 76, 77, 78, 79, 80, 81, 82, 83, 84, 85, 86, 87, 88, 89, 90, 91, 92, 93, 94, 95, 96, 97, 98, 99, 100, 101, 102, 103, 104, 105, 106, 107, 108, 109, 110, 111, 0] Ext.refl (fun _ _ _ => Ext.trans) (Ext.drew _) (by kernel_rfl) ?_
 apply bd 62 k rfl rfl rfl; case h =>
  intro ax wx hE hR hF; exact Z02 rfl (hE.g e5)
 apply bd 63 k rfl rfl rfl; case h =>
  intro ax wx hE hR hF; have e62 := zhF hF 0 62 ml0; exact Z08 (Z1x rfl e62 rfl) (decide_eq_true (by omega))
 apply bd 64 k rfl rfl rfl; case h =>
  intro ax wx hE hR hF; have e63 := zhF hF 1 63 ml0; exact Z02 rfl e63
 apply bdg 65 k rfl rfl rfl rfl; case h =>
  intro ax wx hE hR hF; have e64 := zhF hF 2 64 ml0; refine ⟨e64, ?_⟩; exact Z02 rfl (hE.g e6)
 apply bdg 66 k rfl rfl rfl rfl; case h =>
  intro ax wx hE hR hF; have e65 := zhF hF 3 65 ml0; have e64 := zhF hF 2 64 ml1; refine ⟨e64, ?_⟩; exact Z08 (Z1x rfl e65 rfl) (decide_eq_true (by omega))
 apply bd 67 k rfl rfl rfl; case h =>
  intro ax wx hE hR hF; have e64 := zhF hF 2 64 ml2; have e66 := zhF hF 4 66 ml0; exact Z0a rfl e64 e66
 apply bd 68 k rfl rfl rfl; case h =>
  intro ax wx hE hR hF; have e67 := zhF hF 5 67 ml0; exact Z02 rfl e67
 apply bdg 69 k rfl rfl rfl rfl; case h =>
  intro ax wx hE hR hF; have e68 := zhF hF 6 68 ml0; refine ⟨e68, ?_⟩; exact Z02 rfl (hE.g e8)
 apply bdg 70 k rfl rfl rfl rfl; case h =>
  intro ax wx hE hR hF; have e69 := zhF hF 7 69 ml0; have e68 := zhF hF 6 68 ml1; refine ⟨e68, ?_⟩; exact Z08 (Z1x rfl e69 rfl) (decide_eq_true (by omega))
 apply bd 71 k rfl rfl rfl; case h =>
  intro ax wx hE hR hF; have e68 := zhF hF 6 68 ml2; have e70 := zhF hF 8 70 ml0; exact Z0a rfl e68 e70
 apply bd 72 k rfl rfl rfl; case h =>
  intro ax wx hE hR hF; have e71 := zhF hF 9 71 ml0; exact Z02 rfl e71
 apply bdg 73 k rfl rfl rfl rfl; case h =>
  intro ax wx hE hR hF; have e72 := zhF hF 10 72 ml0; refine ⟨e72, ?_⟩; have q0 : wx.cell? ⟨lb, 0, none⟩ = some (.int .i64 0) := (OwnT.blk (OwnT.ext O hR) 12 rfl).cell 0
  have q1 : wx.cell? ⟨lb, 1, none⟩ = some (.slice By 1 cy) := (OwnT.blk (OwnT.ext O hR) 12 rfl).cell 1
  simp [go_sem, ↓IntWalk.iteOmega, ev (hE.g e7), q0, q1]
  with_reducible rfl
 apply Build.callnewg 74 (fun v w => ∃ g, v = .agg #[.int .i64 0, .slice (some ⟨g, 0, none⟩) 1 1] ∧ Row w (some ⟨g, 0, none⟩) 2 pairC (nodeP 5)) (fun v w w' hR h => by obtain ⟨g, e, h⟩ := h; exact ⟨g, e, h.ext hR⟩) Ext.refl (by rfl) (by rw [k.size]; rfl) rfl rfl
 case h =>
  intro ax wx hE hR hF; have e72 := zhF hF 10 72 ml1; refine ⟨e72, ?_⟩; simp [go_sem, ↓IntWalk.iteOmega]
  with_reducible exact ⟨rfl, rfl⟩
 case hc => exact fun wx hR => (Z4q 5 wx).mono (fun e w' ⟨g, h1, h2, h3⟩ => ⟨_, h1, h3, g, rfl, h2⟩)
 apply Build.callxg 75 Ext.refl (by rfl) (by rw [k.size]; rfl) rfl rfl
 case h =>
  intro ax wx hE hR hF; have e73 := zhF hF 11 73 ml1; have f74 := hF 12 _ (by decide) ml0
  have e72 := zhF hF 10 72 ml2; refine ⟨e72, ?_⟩; obtain ⟨g9, e74, hg9⟩ := f74
  refine ⟨_, _, ?_, Z49 (cy := cy) (cz := 1) (a := 5) (hy.ext hR) hg9⟩
  simp [go_sem, ↓IntWalk.iteOmega, ev e73, ev e74]
 apply bd 76 k rfl rfl rfl; case h =>
  intro ax wx hE hR hF; have e72 := zhF hF 10 72 ml3; have e75 := zhF hF 13 75 ml0; exact Z0a rfl e72 e75
 apply bd 77 k rfl rfl rfl; case h =>
  intro ax wx hE hR hF; have e76 := zhF hF 14 76 ml0; exact Z02 rfl e76
 apply bdg 78 k rfl rfl rfl rfl; case h =>
  intro ax wx hE hR hF; have e77 := zhF hF 15 77 ml0; refine ⟨e77, ?_⟩; exact Z02 rfl (hE.g e9)
 apply bdg 79 k rfl rfl rfl rfl; case h =>
  intro ax wx hE hR hF; have e78 := zhF hF 16 78 ml0; have e77 := zhF hF 15 77 ml1; refine ⟨e77, ?_⟩; exact Z08 (Z1x rfl e78 rfl) (decide_eq_true (by omega))
 apply bd 80 k rfl rfl rfl; case h =>
  intro ax wx hE hR hF; have e77 := zhF hF 15 77 ml2; have e79 := zhF hF 17 79 ml0; exact Z0a rfl e77 e79
 apply bd 81 k rfl rfl rfl; case h =>
  intro ax wx hE hR hF; have e80 := zhF hF 18 80 ml0; exact Z02 rfl e80
 apply bdg 82 k rfl rfl rfl rfl; case h =>
  intro ax wx hE hR hF; have e81 := zhF hF 19 81 ml0; refine ⟨e81, ?_⟩; exact Z02 rfl (hE.g e10)
 apply Build.callg 83 Ext.refl (by rfl) (by rw [k.size]; rfl) rfl rfl
 case h =>
  intro ax wx hE hR hF; have e82 := zhF hF 20 82 ml0; have e81 := zhF hF 19 81 ml1; refine ⟨e81, ?_⟩; simp [go_sem, ↓IntWalk.iteOmega, ev e82]
  with_reducible exact ⟨rfl, rfl⟩
 case hc => intro wx hR; exact (show Calls _ _ _ _ (fun e w' => e = .returned (.agg #[.int .u64 2, .int .i64 1, .int .i64 9, .int .i64 3, .int .i64 2]) ∧ Ext wx w') from (Z3g wx (hsu.ext hR)).mono (fun e w' h => ⟨h.1.trans (rfl), h.2⟩))
 apply bdg 84 k rfl rfl rfl rfl; case h =>
  intro ax wx hE hR hF; have e83 := zhF hF 21 83 ml0; have e81 := zhF hF 19 81 ml2; refine ⟨e81, ?_⟩; simp [go_sem, ↓IntWalk.iteOmega, ev e83, fld_gen]
  with_reducible rfl
 apply bdg 85 k rfl rfl rfl rfl; case h =>
  intro ax wx hE hR hF; have e84 := zhF hF 22 84 ml0; have e81 := zhF hF 19 81 ml3; refine ⟨e81, ?_⟩; exact Z08 (Z1x rfl e84 rfl) (decide_eq_true rfl)
 apply bd 86 k rfl rfl rfl; case h =>
  intro ax wx hE hR hF; have e81 := zhF hF 19 81 ml4; have e85 := zhF hF 23 85 ml0; exact Z0a rfl e81 e85
 apply bd 87 k rfl rfl rfl; case h =>
  intro ax wx hE hR hF; have e86 := zhF hF 24 86 ml0; exact Z02 rfl e86
 apply bdg 88 k rfl rfl rfl rfl; case h =>
  intro ax wx hE hR hF; have e87 := zhF hF 25 87 ml0; refine ⟨e87, ?_⟩; exact Z02 rfl (hE.g e10)
 apply Build.callg 89 Ext.refl (by rfl) (by rw [k.size]; rfl) rfl rfl
 case h =>
  intro ax wx hE hR hF; have e88 := zhF hF 26 88 ml0; have e87 := zhF hF 25 87 ml1; refine ⟨e87, ?_⟩; simp [go_sem, ↓IntWalk.iteOmega, ev e88]
  with_reducible exact ⟨rfl, rfl⟩
 case hc => intro wx hR; exact (show Calls _ _ _ _ (fun e w' => e = .returned (.agg #[.int .u64 2, .int .i64 1, .int .i64 9, .int .i64 3, .int .i64 2]) ∧ Ext wx w') from (Z3g wx (hsu.ext hR)).mono (fun e w' h => ⟨h.1.trans (rfl), h.2⟩))
 apply bdg 90 k rfl rfl rfl rfl; case h =>
  intro ax wx hE hR hF; have e89 := zhF hF 27 89 ml0; have e87 := zhF hF 25 87 ml2; refine ⟨e87, ?_⟩; simp [go_sem, ↓IntWalk.iteOmega, ev e89, fld_root]
  with_reducible rfl
 apply bdg 91 k rfl rfl rfl rfl; case h =>
  intro ax wx hE hR hF; have e90 := zhF hF 28 90 ml0; have e87 := zhF hF 25 87 ml3; refine ⟨e87, ?_⟩; exact Z08 (Z1x rfl e90 rfl) (decide_eq_true rfl)
 apply bd 92 k rfl rfl rfl; case h =>
  intro ax wx hE hR hF; have e87 := zhF hF 25 87 ml4; have e91 := zhF hF 29 91 ml0; exact Z0a rfl e87 e91
 apply bd 93 k rfl rfl rfl; case h =>
  intro ax wx hE hR hF; have e92 := zhF hF 30 92 ml0; exact Z02 rfl e92
 apply bdg 94 k rfl rfl rfl rfl; case h =>
  intro ax wx hE hR hF; have e93 := zhF hF 31 93 ml0; refine ⟨e93, ?_⟩; exact Z02 rfl (hE.g e13)
 apply bdg 95 k rfl rfl rfl rfl; case h =>
  intro ax wx hE hR hF; have e94 := zhF hF 32 94 ml0; have e93 := zhF hF 31 93 ml1; refine ⟨e93, ?_⟩; exact Z08 (Z1x rfl e94 rfl) (decide_eq_true (by omega))
 apply bd 96 k rfl rfl rfl; case h =>
  intro ax wx hE hR hF; have e93 := zhF hF 31 93 ml2; have e95 := zhF hF 33 95 ml0; exact Z0a rfl e93 e95
 apply bd 97 k rfl rfl rfl; case h =>
  intro ax wx hE hR hF; have e96 := zhF hF 34 96 ml0; exact Z02 rfl e96
 apply bdg 98 k rfl rfl rfl rfl; case h =>
  intro ax wx hE hR hF; have e97 := zhF hF 35 97 ml0; refine ⟨e97, ?_⟩; have q0 : wx.cell? ⟨lk, 0, none⟩ = some (.int .i64 0) := (OwnT.blk (OwnT.ext O hR) 0 rfl).cell 0
  have q1 : wx.cell? ⟨lk, 1, none⟩ = some (.slice Bk 1 ck) := (OwnT.blk (OwnT.ext O hR) 0 rfl).cell 1
  simp [go_sem, ↓IntWalk.iteOmega, ev (hE.g e12), q0, q1]
  with_reducible rfl
 apply Build.callnewg 99 (fun v w => ∃ g, v = .agg #[.int .i64 0, .slice (some ⟨g, 0, none⟩) 1 1] ∧ Row w (some ⟨g, 0, none⟩) 2 pairC (nodeP 5)) (fun v w w' hR h => by obtain ⟨g, e, h⟩ := h; exact ⟨g, e, h.ext hR⟩) Ext.refl (by rfl) (by rw [k.size]; rfl) rfl rfl
 case h =>
  intro ax wx hE hR hF; have e97 := zhF hF 35 97 ml1; refine ⟨e97, ?_⟩; simp [go_sem, ↓IntWalk.iteOmega]
  with_reducible exact ⟨rfl, rfl⟩
 case hc => exact fun wx hR => (Z4q 5 wx).mono (fun e w' ⟨g, h1, h2, h3⟩ => ⟨_, h1, h3, g, rfl, h2⟩)
 apply Build.callxg 100 Ext.refl (by rfl) (by rw [k.size]; rfl) rfl rfl
 case h =>
  intro ax wx hE hR hF; have e98 := zhF hF 36 98 ml1; have f99 := hF 37 _ (by decide) ml0
  have e97 := zhF hF 35 97 ml2; refine ⟨e97, ?_⟩; obtain ⟨g9, e99, hg9⟩ := f99
  refine ⟨_, _, ?_, Z49 (cy := ck) (cz := 1) (a := 5) (hk.ext hR) hg9⟩
  simp [go_sem, ↓IntWalk.iteOmega, ev e98, ev e99]
 apply bd 101 k rfl rfl rfl; case h =>
  intro ax wx hE hR hF; have e97 := zhF hF 35 97 ml3; have e100 := zhF hF 38 100 ml0; exact Z0a rfl e97 e100
 apply bd 102 k rfl rfl rfl; case h =>
  intro ax wx hE hR hF; have e101 := zhF hF 39 101 ml0; exact Z02 rfl e101
 apply bdg 103 k rfl rfl rfl rfl; case h =>
  intro ax wx hE hR hF; have e102 := zhF hF 40 102 ml0; refine ⟨e102, ?_⟩; exact Z02 rfl (hE.g e3)
 apply Build.callg 104 Ext.refl (by rfl) (by rw [k.size]; rfl) rfl rfl
 case h =>
  intro ax wx hE hR hF; have e103 := zhF hF 41 103 ml0; have e102 := zhF hF 40 102 ml1; refine ⟨e102, ?_⟩; simp [go_sem, ↓IntWalk.iteOmega, ev e103]
  with_reducible exact ⟨rfl, rfl⟩
 case hc => intro wx hR; exact (show Calls _ _ _ _ (fun e w' => e = .returned (.int .i64 4) ∧ Ext wx w') from ((Z1o wx (hss.ext hR) (hdd.ext hR)).mono (fun e w' h => (⟨h.1, h.2 ▸ Ext.refl _⟩ : _ ∧ Ext wx w'))).mono (fun e w' h => ⟨h.1.trans (rfl), h.2⟩))
 apply bdg 105 k rfl rfl rfl rfl; case h =>
  intro ax wx hE hR hF; have e104 := zhF hF 42 104 ml0; have e102 := zhF hF 40 102 ml2; refine ⟨e102, ?_⟩; exact Z08 (Z1x rfl e104 rfl) (decide_eq_true (by omega))
 apply bd 106 k rfl rfl rfl; case h =>
  intro ax wx hE hR hF; have e102 := zhF hF 40 102 ml3; have e105 := zhF hF 43 105 ml0; exact Z0a rfl e102 e105
 apply bd 107 k rfl rfl rfl; case h =>
  intro ax wx hE hR hF; have e106 := zhF hF 44 106 ml0; exact Z02 rfl e106
 apply bdg 108 k rfl rfl rfl rfl; case h =>
  intro ax wx hE hR hF; have e107 := zhF hF 45 107 ml0; refine ⟨e107, ?_⟩; exact Z02 rfl (hE.g e3)
 apply Build.callg 109 Ext.refl (by rfl) (by rw [k.size]; rfl) rfl rfl
 case h =>
  intro ax wx hE hR hF; have e108 := zhF hF 46 108 ml0; have e107 := zhF hF 45 107 ml1; refine ⟨e107, ?_⟩; simp [go_sem, ↓IntWalk.iteOmega, ev e108]
  with_reducible exact ⟨rfl, rfl⟩
 case hc => intro wx hR; exact (show Calls _ _ _ _ (fun e w' => e = .returned (.int .i64 2) ∧ Ext wx w') from (Z5v wx (hss.ext hR) (hdd.ext hR) ok2 rfl).mono (fun e w' h => ⟨h.1.trans (congrArg (fun z => Ending.returned (Value.int .i64 z)) hcnt), h.2⟩))
 apply bdg 110 k rfl rfl rfl rfl; case h =>
  intro ax wx hE hR hF; have e109 := zhF hF 47 109 ml0; have e107 := zhF hF 45 107 ml2; refine ⟨e107, ?_⟩; exact Z08 (Z1x rfl e109 rfl) (decide_eq_true (by omega))
 apply bd 111 k rfl rfl rfl; case h =>
  intro ax wx hE hR hF; have e107 := zhF hF 45 107 ml3; have e110 := zhF hF 48 110 ml0; exact Z0a rfl e107 e110
 apply bd 0 k rfl rfl rfl; case h =>
  intro ax wx hE hR hF; have e111 := zhF hF 49 111 ml0; exact Z01 rfl e111
 apply Build.stop
 refine ⟨by kernel_rfl, .inl ⟨rfl, ?_⟩⟩
 intro a79 w80 hE R hF; have e0 : a79.eval (.tmp 0) = _ := hF 50 (det 0 _) ml0
 clear hF; replace O := OwnT.ext O R; replace hk := Row.ext hk R
 clear R; replace k := k.env hE; clear hE e3 e5 e6 e7 e8 e9 e10 e12 e13; refine Z00 ?_; refine wp_ret ?_
 refine Z0j rfl k e0 ?_
 exact ⟨rfl, O.below⟩
end Go.Proofs.YtakkhglbdljfiaaGreatDoor

/- The store's pages counted; rows of new pages (plain). -/
namespace Go.Proofs.YtakkhglbdljfiaaGreatDoor
set_option linter.unusedVariables false
set_option linter.unusedSimpArgs false
open Go.RowKit Go.Maps

theorem riseN_succ (P : Nat) (p : Int → Bool) : riseN (P + 1) p = riseN P p ++ (if p (P : Nat) then [((P : Nat) : Int)] else []) := by
  unfold riseN
  rw [List.range_succ, List.map_append, List.filter_append]
  congr 1
  show ([((P : Nat) : Int)]).filter p = _
  rw [List.filter_cons]
  rfl
theorem Z1t (P : Nat) (p : Int → Bool) : (riseN (P + 1) p).length = (riseN P p).length + (if p (P : Nat) then 1 else 0) := by
  rw [riseN_succ, List.length_append]
  split <;> rfl
/-- The free pages. -/
def freeL (P : Nat) (K : Int → Bool) (F : Int → Option Nd) : List Int := riseN P fun c => decide (1 ≤ c) && freeB K F c
section
variable {P : Nat} {K : Int → Bool} {F : Int → Option Nd} {ps : List Int} {g : Nat → Int} {c : Int}
theorem count3 (hK : K 0 = false) (hF : F 0 = none) (hd : ∀ c, K c = true → F c = none) : ∀ P : Nat, (kL (P + 1) K).length + (fL (P + 1) F).length + (freeL (P + 1) K F).length = P
  | 0 => by
    unfold kL fL freeL
    rw [Z1t, Z1t, Z1t]
    simp [riseN, hK, hF]
  | P + 1 => by
    have ih := count3 hK hF hd P
    unfold kL fL freeL at *
    rw [Z1t, Z1t (P + 1), Z1t (P + 1)]
    have h1 : decide ((1 : Int) ≤ ((P + 1 : Nat) : Int)) = true := decide_eq_true (by omega)
    have hdc := hd ((P + 1 : Nat) : Int)
    unfold freeB at *
    cases hk : K ((P + 1 : Nat) : Int) with
    | true =>
      rw [hdc hk]
      simp only [h1, Option.isSome_none, Bool.not_true, Bool.and_false, if_true]
      simp only [Bool.false_eq_true, if_false]
      omega
    | false =>
      cases hf : F ((P + 1 : Nat) : Int) with
      | none =>
        simp only [h1, Option.isSome_none, Bool.not_false, Bool.and_true, if_true]
        simp only [Bool.false_eq_true, if_false]
        omega
      | some nd =>
        simp only [h1, Option.isSome_some, Bool.not_true, Bool.not_false, Bool.and_true, Bool.and_false, if_true]
        simp only [Bool.false_eq_true, if_false]
        omega
/-- Committed pages are not new. -/
structure Apart7 (K : Int → Bool) (F : Int → Option Nd) : Prop where
  k0 : K 0 = false
  f0 : F 0 = none
  no : ∀ c, K c = true → F c = none
theorem StOk.apart {vs : List Value} {N : List Nd} {m : Int → Option Value} (s : StOk P K F vs N m) (h : ∀ c, K c = true → F c = none) : Apart7 K F := by
  refine ⟨?_, ?_, h⟩
  · cases h0 : K 0 with
    | false => rfl
    | true => exact absurd (s.kr 0 h0).1 (by decide)
  · cases h0 : F 0 with
    | none => rfl
    | some nd => exact absurd (s.fr 0 nd h0).1 (by decide)
theorem Apart7.count (h : Apart7 K F) (hP : 1 ≤ P) : (kL P K).length + (fL P F).length + (freeL P K F).length = P - 1 := by
  obtain ⟨q, rfl⟩ : ∃ q, P = q + 1 := ⟨P - 1, by omega⟩
  exact count3 h.k0 h.f0 h.no q
theorem fL_put (hF : F c = none) (h1 : 0 ≤ c) (nd : Nd) : ∀ P : Nat, (fL P (putF F c nd)).length = (fL P F).length + (if c < (P : Nat) then 1 else 0)
  | 0 => by rw [if_neg (by omega)]; rfl
  | P + 1 => by
    have ih := fL_put hF h1 nd P
    unfold fL at *
    rw [Z1t, Z1t, ih]
    have e : putF F c nd ((P : Nat) : Int) = if ((P : Nat) : Int) = c then some nd else F ((P : Nat) : Int) := rfl
    by_cases hc : ((P : Nat) : Int) = c
    · rw [e, if_pos hc, if_neg (show ¬ c < ((P : Nat) : Int) by omega), if_pos (show c < ((P + 1 : Nat) : Int) by omega), hc, hF]
      simp
    · rw [e, if_neg hc]
      by_cases hl : c < ((P : Nat) : Int)
      · rw [if_pos hl, if_pos (show c < ((P + 1 : Nat) : Int) by omega)]
        omega
      · rw [if_neg hl, if_neg (show ¬ c < ((P + 1 : Nat) : Int) by omega)]
        exact Nat.add_right_comm _ _ _
/-- The new pages are those of a row, with the laws' nodes. -/
structure Adds (P : Nat) (K : Int → Bool) (F : Int → Option Nd) (ps : List Int) (g : Nat → Int) : Prop where
  at_ : ∀ (j : Nat) c, ps[j]? = some c → F c = some (node (g j))
  free : ∀ c ∈ ps, K c = false ∧ 1 ≤ c ∧ c < (P : Nat)
  only : ∀ c, (F c).isSome = true → c ∈ ps
  len : (fL P F).length = ps.length
theorem Adds.nil (P : Nat) (K : Int → Bool) (g : Nat → Int) : Adds P K (fun _ => none) [] g := by
  refine ⟨fun j c h => (by simp at h), fun c h => (by cases h), fun c h => (by cases h), ?_⟩
  have : fL P (fun _ => none) = [] := by
    unfold fL riseN
    rw [List.filter_eq_nil_iff]
    simp
  rw [this]
theorem freeB_is (h : freeB K F c = true) : F c = none ∧ K c = false := by
  unfold freeB at h
  rw [Bool.and_eq_true, Bool.not_eq_true', Bool.not_eq_true', Option.isSome_eq_false_iff, Option.isNone_iff_eq_none] at h
  exact h
theorem Adds.put {d : Nat} (h : Adds P K F ps g) (hf : FirstFree P K F d) : Adds P K (putF F (d : Nat) (node (g ps.length))) (ps ++ [((d : Nat) : Int)]) g := by
  obtain ⟨h1, h2, h3, _⟩ := hf
  obtain ⟨hF, hK⟩ := freeB_is h3
  have hn : ∀ c ∈ ps, c ≠ ((d : Nat) : Int) := fun c hc e => by
    obtain ⟨j, hj⟩ := List.getElem?_of_mem hc
    have := h.at_ j c hj
    rw [e, hF] at this
    cases this
  refine ⟨fun j c hc => ?_, fun c hc => ?_, fun c hc => ?_, ?_⟩
  · by_cases hj : j < ps.length
    · rw [List.getElem?_append_left hj] at hc
      unfold putF
      rw [if_neg (hn c (List.mem_of_getElem? hc))]
      exact h.at_ j c hc
    · rw [List.getElem?_append_right (by omega)] at hc
      have e : j - ps.length = 0 := by have := (List.getElem?_eq_some_iff.1 hc).1; simp at this; omega
      rw [e] at hc
      obtain rfl : ((d : Nat) : Int) = c := by simpa using hc
      unfold putF
      rw [if_pos rfl, show j = ps.length by omega]
  · rcases List.mem_append.1 hc with hc | hc
    · exact h.free c hc
    · obtain rfl := List.mem_singleton.1 hc
      exact ⟨hK, by omega, by omega⟩
  · unfold putF at hc
    split at hc
    · rename_i e
      exact List.mem_append.2 (.inr (List.mem_singleton.2 e))
    · exact List.mem_append.2 (.inl (h.only c hc))
  · rw [fL_put hF (by omega), h.len, if_pos (by omega), List.length_append]
    rfl
theorem Adds.apart (h : Adds P K F ps g) : ∀ c, K c = true → F c = none := fun c hc => by
  cases hf : F c with
  | none => rfl
  | some nd =>
    have := (h.free c (h.only c (by rw [hf]; rfl))).1
    rw [hc] at this
    cases this
theorem Adds.kept (h : Adds P K F ps g) : (kL P (inP P ps)).length = ps.length := by
  rw [← h.len]
  unfold kL fL
  congr 1
  refine riseN_congr fun i hi => ?_
  unfold inP
  cases hf : F ((i : Nat) : Int) with
  | none =>
    refine decide_eq_false fun hh => ?_
    obtain ⟨j, hj⟩ := List.getElem?_of_mem hh.1
    have := h.at_ j _ hj
    rw [hf] at this
    cases this
  | some nd =>
    have hm := h.only ((i : Nat) : Int) (by rw [hf]; rfl)
    exact decide_eq_true ⟨hm, (h.free _ hm).2⟩
theorem Adds.todo (h : Adds P K F ps g) (hc : c ∈ ps) : c ∈ todo P F ps := by
  obtain ⟨j, hj⟩ := List.getElem?_of_mem hc
  obtain ⟨_, h1, h2⟩ := h.free c hc
  exact Z6z.2 ⟨⟨⟨by omega, h2⟩, by rw [h.at_ j c hj]; rfl⟩, hc⟩
/-- What a commit of them leaves. -/
theorem Adds.page {S : List Sec} {o : Nat} {hb : List UInt8} {j : Nat} (h : Adds P K F ps g) (hS : 16 * P ≤ S.length) (ho : o < 16) (hj : ps[j]? = some c) : pgS (cmS S F (Go.Proofs.YtakkhglbdljfiaaGreatDoor.todo P F ps) o hb) c.toNat = pgB (node (g j)) := by
  have hm := List.mem_of_getElem? hj
  obtain ⟨_, h1, h2⟩ := h.free c hm
  have e : ((c.toNat : Nat) : Int) = c := Int.toNat_of_nonneg (by omega)
  exact cm_new (nd := node (g j)) (by omega) ho (by omega) (by rw [e]; exact h.todo hm) (by rw [e]; exact h.at_ j c hj) (Z7p _)
end
theorem kL_no (P : Nat) : kL P (fun _ => false) = [] := by
  unfold kL riseN
  rw [List.filter_eq_nil_iff]
  simp
theorem fL_no (P : Nat) : fL P (fun _ => none) = [] := by
  unfold fL riseN
  rw [List.filter_eq_nil_iff]
  simp
section
variable {H : Nat} {A0 : World} {R : List Thing} {sb p kb fb mb n cap bm : Nat} {B : Option Addr} {S : List Sec} {L : Int → Option Sec} {h : Hd} {at_ : Int} {K : Int → Bool} {m : Int → Option Value} {F : Int → Option Nd} {vs : List Value} {N : List Nd} {M : Mn}
end
open Go.RowKit

theorem sizeOf_int (w : World) : (sizeOf 3).run Tryz.prog w = .ok 1 w := by kernel_rfl
theorem part2_0 (w : World) (x y : Value) : (part 3 #[x, y] 0).run Tryz.prog w = .ok x w := by kernel_rfl
theorem part2_1 (w : World) (x y : Value) : (part 3 #[x, y] 1).run Tryz.prog w = .ok y w := by kernel_rfl
theorem eq_arr2 (d : Nat) (a b a' b' : Int) (w : World) : (Op.equalIn (d + 2) 33 (.agg #[.int .i64 a, .int .i64 b]) (.agg #[.int .i64 a', .int .i64 b'])).run Tryz.prog w = .ok ((a == a') && (b == b')) w := by
  have h0 := fun W x y => run_equalIn_int (P := Tryz.prog) W d 3 .i64 .i64 x y Tryz.underlying3
  rw [Op.equalIn]
  simp only [Sem.run_bind, run_underlying Tryz.underlying33, Result.andThen_ok, sizeOf_int]
  by_cases ha : a = a' <;> by_cases hb : b = b' <;> simp [List.range', List.forIn_cons, Sem.run_bind, Sem.run_ite, part2_0, part2_1, h0, ha, hb]

theorem Z1s {R : Ending → World → Prop} {ac : Act} {w : World} {H : Nat} {g : Nat} {r a b c x : Int} {y : Bool} (h2 : ac.tmps[4]?.getD undef = .pointer (some ⟨H, 0, none⟩)) (h3 : ac.tmps[5]?.getD undef = .int .i64 x) (h4 : ac.tmps[6]?.getD undef = .bool y) (hd : ac.defers = [])
    (hF : Blk w H 39 #[.int .u64 g, .int .i64 r, .int .i64 a, .int .i64 b, .int .i64 c]) (hR : R (.returned (.tuple #[headV g r a b c, .int .i64 x, .bool y])) w) : bodyPost Tryz.prog Tryz.f36 R .ret ac w := by
  obtain ⟨tm, df⟩ := ac
  simp only at h2 h3 h4 hd
  have p0 := hF.cell 0
  have p1 := hF.cell 1
  have p2 := hF.cell 2
  have p3 := hF.cell 3
  have p4 := hF.cell 4
  exact bodyPost_ret (v := .tuple #[headV g r a b c, .int .i64 x, .bool y]) (by simp [results, Tryz.results36, go_sem, h2, h3, h4, p0, p1, p2, p3, p4]) hd hR

set_option maxHeartbeats 1000000 in
theorem rnewest_any (s t : ByteArray) (x y : HeadR) (hx : RReads s x) (hy : RReads t y) (w : World) (V : Value) (hV : V = .tuple #[(newest x y).1.v, .int .i64 (newest x y).2, .bool (newest x y).1.ok]) :
    Calls Tryz.prog 36 #[.string s, .string t] w fun e w' => e = .returned V ∧ Below w.heap.size w w' := by
  have HV := Lib.hid hV
  clear hV
  obtain ⟨xo, xg, xr, xa, xb, xc⟩ := x
  obtain ⟨yo, yg, yr, ya, yb, yc⟩ := y
  unfold RReads at hx hy
  simp only [HeadR.v] at hx hy
  have HX := Lib.hid hx
  have HY := Lib.hid hy
  clear hx hy
  have vx : xo = true → (yo = false ∨ yg ≤ xg) → V = .tuple #[headV xg xr xa xb xc, .int .i64 0, .bool true] := by
    intro h1 h2; rw [HV.out]; unfold newest; rw [if_pos ⟨h1, h2⟩]; simp [HeadR.v, h1]
  have vy : ¬ (xo = true ∧ (yo = false ∨ yg ≤ xg)) → yo = true → V = .tuple #[headV yg yr ya yb yc, .int .i64 1, .bool true] := by
    intro h1 h2; rw [HV.out]; unfold newest; rw [if_neg h1, if_pos h2]; simp [HeadR.v, h2]
  have vz : xo = false → yo = false → V = .tuple #[headV 0 0 0 0 0, .int .i64 0, .bool false] := by
    intro h1 h2; rw [HV.out]; subst h1 h2; rfl
  have VX := Lib.hid vx
  have VY := Lib.hid vy
  have VZ := Lib.hid vz
  clear vx vy vz HV
  go_enter Tryz.func36, Tryz.ntmps36
  go_wp2_with fail
  refine (HX.out _).mono ?_
  rintro e w1 ⟨rfl, hw1⟩
  have hA : Blk w1 w.heap.size 39 #[.int .u64 0, .int .i64 0, .int .i64 0, .int .i64 0, .int .i64 0] := (Blk.new w 39 _).below hw1 (by simp)
  have hz := hA.lt
  have hb1 : Below w.heap.size w w1 := Below.trans (by (repeat (first | with_reducible exact Below.refl _ _ | with_reducible assumption | with_reducible apply Below.drew | with_reducible apply Z09 | (with_reducible refine Z0d ?_ ?_; focus ((try simp); (try omega); done)) | (with_reducible refine Z0e ?_ ?_; focus ((try simp); (try omega); done))))) (hw1.mono (by simp))
  have HA := Lib.hid hA
  have HB := Lib.hid hb1
  clear hw1 hb1 hA
  go_wp2_with fail
  refine (HY.out _).mono ?_
  rintro e w2 ⟨rfl, hw2⟩
  have X2 : Blk w2 w1.heap.size 39 #[.int .u64 xg, .int .i64 xr, .int .i64 xa, .int .i64 xb, .int .i64 xc] := (Blk.new w1 39 _).below hw2 (by simp)
  have A2 : Blk w2 w.heap.size 39 #[.int .u64 0, .int .i64 0, .int .i64 0, .int .i64 0, .int .i64 0] := (HA.out.alloc (.cells #[.int .u64 xg, .int .i64 xr, .int .i64 xa, .int .i64 xb, .int .i64 xc] 39)).below hw2 (by simp; omega)
  have B2 : Below w.heap.size w w2 := (HB.out.alloc (Nat.le_of_lt hz) (.cells #[.int .u64 xg, .int .i64 xr, .int .i64 xa, .int .i64 xb, .int .i64 xc] 39)).trans (hw2.mono (by simp; omega))
  have hsz2 := X2.lt
  have zA2 := A2.lt
  have X3 := X2.alloc (.cells #[.int .u64 yg, .int .i64 yr, .int .i64 ya, .int .i64 yb, .int .i64 yc] 39)
  have A3 := A2.alloc (.cells #[.int .u64 yg, .int .i64 yr, .int .i64 ya, .int .i64 yb, .int .i64 yc] 39)
  have Y3 := Blk.new w2 39 #[.int .u64 yg, .int .i64 yr, .int .i64 ya, .int .i64 yb, .int .i64 yc]
  have B3 := B2.alloc (Nat.le_of_lt zA2) (.cells #[.int .u64 yg, .int .i64 yr, .int .i64 ya, .int .i64 yb, .int .i64 yc] 39)
  have HX2 := Lib.hid X3
  have HA2 := Lib.hid A3
  have HY2 := Lib.hid Y3
  have HB2 := Lib.hid B3
  clear A2 B2 X2 hw2 HA HB HX HY X3 A3 Y3 B3
  go_upto_region 3 with fail
  generalize w2.alloc (.cells #[.int .u64 yg, .int .i64 yr, .int .i64 ya, .int .i64 yb, .int .i64 yc] 39) = w3 at HX2 HA2 HY2 HB2 ⊢
  have x0 := HX2.out.cell 0
  have x1 := HX2.out.cell 1
  have x2 := HX2.out.cell 2
  have x3 := HX2.out.cell 3
  have x4 := HX2.out.cell 4
  have v0 := HY2.out.cell 0
  have v1 := HY2.out.cell 1
  have v2 := HY2.out.cell 2
  have v3 := HY2.out.cell 3
  have v4 := HY2.out.cell 4
  have a0 := HA2.out.cell 0
  have a1 := HA2.out.cell 1
  have a2 := HA2.out.cell 2
  have a3 := HA2.out.cell 3
  have a4 := HA2.out.cell 4
  have y0 := HA2.out.frozen 0
  have y1 := HA2.out.frozen 1
  have y2 := HA2.out.frozen 2
  have y3 := HA2.out.frozen 3
  have y4 := HA2.out.frozen 4
  cases xo with
  | true =>
    cases yo with
    | true =>
      by_cases hc : yg ≤ xg
      · have hif : V = .tuple #[headV xg xr xa xb xc, .int .i64 0, .bool true] := VX.out rfl (.inr hc)
        have HI := Lib.hid hif
        clear hif VX VY VZ
        go_wp2_with fail
        have hb7 := HB2.out
        exact Z1s rfl rfl rfl rfl (Z0z HA2.out (.int .u64 xg) (.int .i64 xr) (.int .i64 xa) (.int .i64 xb) (.int .i64 xc)) ⟨by rw [HI.out] <;> rfl, by (repeat (first | with_reducible exact Below.refl _ _ | with_reducible assumption | with_reducible apply Below.drew | with_reducible apply Z09 | (with_reducible refine Z0d ?_ ?_; focus ((try simp); (try omega); done)) | (with_reducible refine Z0e ?_ ?_; focus ((try simp); (try omega); done))))⟩
      · have hc2 : xg < yg := by omega
        have hif : V = .tuple #[headV yg yr ya yb yc, .int .i64 1, .bool true] := VY.out (fun h => by rcases h.2 with h | h; cases h; omega) rfl
        have HI := Lib.hid hif
        clear hif VX VY VZ
        go_wp2_with fail
        have hb7 := HB2.out
        exact Z1s rfl rfl rfl rfl (Z0z HA2.out (.int .u64 yg) (.int .i64 yr) (.int .i64 ya) (.int .i64 yb) (.int .i64 yc)) ⟨by rw [HI.out] <;> rfl, by (repeat (first | with_reducible exact Below.refl _ _ | with_reducible assumption | with_reducible apply Below.drew | with_reducible apply Z09 | (with_reducible refine Z0d ?_ ?_; focus ((try simp); (try omega); done)) | (with_reducible refine Z0e ?_ ?_; focus ((try simp); (try omega); done))))⟩
    | false =>
      have hif : V = .tuple #[headV xg xr xa xb xc, .int .i64 0, .bool true] := VX.out rfl (.inl rfl)
      have HI := Lib.hid hif
      clear hif VX VY VZ
      go_wp2_with fail
      have hb7 := HB2.out
      exact Z1s rfl rfl rfl rfl (Z0z HA2.out (.int .u64 xg) (.int .i64 xr) (.int .i64 xa) (.int .i64 xb) (.int .i64 xc)) ⟨by rw [HI.out] <;> rfl, by (repeat (first | with_reducible exact Below.refl _ _ | with_reducible assumption | with_reducible apply Below.drew | with_reducible apply Z09 | (with_reducible refine Z0d ?_ ?_; focus ((try simp); (try omega); done)) | (with_reducible refine Z0e ?_ ?_; focus ((try simp); (try omega); done))))⟩
  | false =>
    cases yo with
    | true =>
      have hif : V = .tuple #[headV yg yr ya yb yc, .int .i64 1, .bool true] := VY.out (fun h => by cases h.1) rfl
      have HI := Lib.hid hif
      clear hif VX VY VZ
      go_wp2_with fail
      have hb7 := HB2.out
      exact Z1s rfl rfl rfl rfl (Z0z HA2.out (.int .u64 yg) (.int .i64 yr) (.int .i64 ya) (.int .i64 yb) (.int .i64 yc)) ⟨by rw [HI.out] <;> rfl, by (repeat (first | with_reducible exact Below.refl _ _ | with_reducible assumption | with_reducible apply Below.drew | with_reducible apply Z09 | (with_reducible refine Z0d ?_ ?_; focus ((try simp); (try omega); done)) | (with_reducible refine Z0e ?_ ?_; focus ((try simp); (try omega); done))))⟩
    | false =>
      have hif : V = .tuple #[headV 0 0 0 0 0, .int .i64 0, .bool false] := VZ.out rfl rfl
      have HI := Lib.hid hif
      clear hif VX VY VZ
      go_wp2_with fail
      have hb7 := HB2.out
      exact Z1s rfl rfl rfl rfl (Z0z HA2.out (.int .u64 ((0 : Nat) : Int)) (.int .i64 0) (.int .i64 0) (.int .i64 0) (.int .i64 0)) ⟨by rw [HI.out] <;> rfl, by (repeat (first | with_reducible exact Below.refl _ _ | with_reducible assumption | with_reducible apply Below.drew | with_reducible apply Z09 | (with_reducible refine Z0d ?_ ?_; focus ((try simp); (try omega); done)) | (with_reducible refine Z0e ?_ ?_; focus ((try simp); (try omega); done))))⟩

section
variable {w : World} {o : Oper} {ρ : Operand → Value} {t u : TypeId} {x y : Operand}
theorem x_neHd {g r a b c : Int} (ho : o.op = .binOp .neq 39 x y u) (hx : ρ x = headV g r a b c) (hy : ρ y = headV g r a b c) : (execOp ρ o).run Tryz.prog w = .ok (.value (.bool false)) w := by
  have h := eq_arr2 9997 a b a b w
  unfold execOp
  simp only [ho, hx, hy]
  simp [go_sem, h]
theorem x_eqHd {g r a b c : Int} (ho : o.op = .binOp .eql 39 x y u) (hx : ρ x = headV g r a b c) (hy : ρ y = headV g r a b c) : (execOp ρ o).run Tryz.prog w = .ok (.value (.bool true)) w := by
  have h := eq_arr2 9997 a b a b w
  unfold execOp
  simp only [ho, hx, hy]
  simp [go_sem, h]
theorem x_neBl {a b c : Bool} (ho : o.op = .binOp .neq 4 x y u) (hx : ρ x = .bool a) (hy : ρ y = .bool b) (h : decide (a ≠ b) = c) : (execOp ρ o).run Tryz.prog w = .ok (.value (.bool c)) w := by
  subst h
  unfold execOp
  simp only [ho, hx, hy]
  cases a <;> cases b <;> simp [go_sem, Op.equalIn, run_underlying Tryz.underlying4]
end
/-- Sectors of an image. -/
theorem secOf_at (l : List UInt8) (i : Nat) : secOf l i = (l.drop (16 * i)).take 16 := rfl
theorem Z63 (l : List UInt8) {n x : Nat} : ∀ k : Nat, x + k ≤ n → readL (secsL l n) noL x k = (l.drop (16 * x)).take (16 * k)
  | 0, _ => by simp [readL]
  | k + 1, h => by
    rw [Z2a, Z63 l k (by omega), Z6y]
    have e : sc (secsL l n) (x + k) = secOf l (x + k) := by
      unfold sc
      rw [List.getD, secsL_at (by omega)]
      rfl
    rw [e, secOf_at, show 16 * (k + 1) = 16 * k + 16 by omega, List.take_add, List.drop_drop, show 16 * x + 16 * k = 16 * (x + k) by omega]
/-- The first bytes of an image. -/
theorem image_heads {n : Nat} {S : List Sec} (h : DOk n S noL) (hn : 2 ≤ n) : S.flatten.take 32 = sc S 0 ++ sc S 1 := by
  have hl := h.len
  obtain ⟨-, e0, e1⟩ := Z6b h hn
  match S, hl with
  | [], hl => simp at hl; omega
  | [_], hl => simp at hl; omega
  | a :: b :: r, _ =>
    have e0 : a.length = 16 := e0
    have e1 : b.length = 16 := e1
    show (a ++ (b ++ r.flatten)).take 32 = a ++ b
    rw [← List.append_assoc, List.take_left' (by rw [List.length_append]; omega)]
theorem Build.newg {R : World → World → Prop} {P : Program} {ops : Array Oper} {w0 : World} {a0 : Act} {D : List Tmp} {A : List (List Nat)} {o : Oper} {G : List (Nat × TFact R) → Prop} {k : Nat} {os : List Oper} {done : List (Nat × TFact R)} (d : Tmp) (φ : Value → World → Prop) (hφ : ∀ v w w', R w w' → φ v w → φ v w') {j dj : Nat} {b : Bool} (hd : o.dst = some d) (hn : Nat.blt d a0.tmps.size = true) (hg : o.guard = some (j, b)) (hj : (ops[j]?).bind (·.dst) = some dj)
    (h : ∀ a w, Env a0 D a → R w0 w → (∀ (i : Nat) (S' : TFact R), i ∈ A.getD k [] → (i, S') ∈ done → S'.T a w) → a.eval (.tmp dj) = .bool b ∧ ∃ v w', (execOp a.eval o).run P w = .ok (.value v) w' ∧ R w w' ∧ φ v w')
    (hr : Build P ops R w0 a0 D A G (k + 1) os ((k, fresh d φ hφ) :: done)) : Build P ops R w0 a0 D A G k (o :: os) done :=
  .step _ (fun a w hE hR hF => by
    obtain ⟨hb, v, w', h1, h2, h3⟩ := h a w hE hR hF
    exact opT_new hd (by rw [hE.size]; exact Nat.le_of_ble_eq_true hn) ((Z0w hg hj hb).trans (by simp)) h1 h2 h3) hr
theorem Z2y {P : Program} {w : World} {o : Oper} {ρ : Operand → Value} {t : TypeId} {x lo hi : Operand} {l : List UInt8} {k k' : IntKind} {a b : Nat} (hu : P.underlying t = some .string) (ho : o.op = .slice t x (some lo) (some hi) none) (hx : ρ x = .string (sB l)) (hl : ρ lo = .int k (a : Nat)) (hh : ρ hi = .int k' (b : Nat)) (hab : a ≤ b) (hb : b ≤ l.length) : (execOp ρ o).run P w = .ok (.value (.string (sB ((l.take b).drop a)))) w := by
  have hb' : ((b : Int) ≤ (sB l).size) := by rw [Z1j]; omega
  have ha' : ((a : Int) ≤ (b : Int)) := by omega
  unfold execOp
  simp only [ho, Option.map_some, Option.map_none, hx, hl, hh]
  simp [Instr.sliceAt, Instr.slice, Instr.sliceBounds, Instr.sliceBound, run_underlying hu, asIntOf, sB_cut, Z1j]
  rw [if_pos hb, if_pos hab]
/-- The reference's bytes of a head. -/
theorem rhbytes_hd (h : Hd) (ok : h.Ok) (w : World) : Calls Tryz.prog 40 #[h.v] w fun e w' => e = .returned (.string (sB (hdB h))) ∧ Ext w w' := by
  obtain ⟨g, r, a, b, c⟩ := h
  obtain ⟨h1, h2, h3, h4, h5, h6, h7, h8, h9, h10⟩ := ok
  simp only at h1 h2 h3 h4 h5 h6 h7 h8 h9 h10
  obtain ⟨g, rfl⟩ := Int.eq_ofNat_of_zero_le (show 0 ≤ g by omega)
  obtain ⟨r, rfl⟩ := Int.eq_ofNat_of_zero_le h7
  obtain ⟨a, rfl⟩ := Int.eq_ofNat_of_zero_le (show 0 ≤ a by omega)
  obtain ⟨b, rfl⟩ := Int.eq_ofNat_of_zero_le (show 0 ≤ b by omega)
  obtain ⟨c, rfl⟩ := Int.eq_ofNat_of_zero_le (show 0 ≤ c by omega)
  exact Z52 g r a b c w ⟨h1, h2, h3, h4, h5, h6, h7, h8, h9, h10⟩
theorem rnewest_l (l : List UInt8) (x : HeadR × Int) (hx : newL (l.take 32) = x) (w : World) : Calls Tryz.prog 36 #[.string (sB (l.take 16)), .string (sB ((l.take 32).drop 16))] w fun e w' => e = .returned (.tuple #[x.1.hd.v, .int .i64 x.2, .bool x.1.ok]) ∧ Ext w w' := by
  have h1 := Z5z (sB (l.take 16))
  have h2 := Z5z (sB ((l.take 32).drop 16))
  rw [Z2h] at h1 h2
  have e : (l.take 32).take 16 = l.take 16 := by rw [List.take_take]; rfl
  refine rnewest_any _ _ _ _ h1 h2 w _ ?_
  subst hx
  unfold newL
  rw [e]
  rfl
section
variable {H : Nat} {A0 : World} {R : List Thing} {sb p kb fb mb n cap bm : Nat} {B : Option Addr} {S : List Sec} {L : Int → Option Sec} {M : Mn}
theorem sopen_two {x : HeadR × Int} (w : World) (O : OwnT H A0 (tDisc p mb B n cap bm S noL :: tMn mb M :: R) w) (ha : M.away = false) (hx : 2 ≤ pgs n → newL (readL S noL 0 2) = x) :
    Calls Tryz.prog 34 #[.pointer (some ⟨p, 0, none⟩)] w fun e w' => ∃ (v : Value) (ef : Int) (X : List Thing), e = .returned (.tuple #[v, .int .i64 ef]) ∧ OwnT H A0 (X ++ tDisc p mb B n cap bm S noL :: tMn mb M :: R) w' ∧
      ((¬ 2 ≤ pgs n ∧ v = .pointer none ∧ ef = 3 ∧ X = []) ∨ (2 ≤ pgs n ∧ x.1.ok = false ∧ v = .pointer none ∧ ef = 3 ∧ X = []) ∨
        (2 ≤ pgs n ∧ x.1.ok = true ∧ ∃ sb kb fb, v = .pointer (some ⟨sb, 0, none⟩) ∧ ef = 0 ∧ X = stL sb p x.1.hd x.2 kb fb (fun _ => false) (fun _ => none) [] [] [])) := by
  by_cases hp2 : 2 ≤ pgs n
  · have hx := hx hp2
    cases hok : x.1.ok with
    | false =>
      refine (sopen_form w O hp2 ha (by rw [hx]; exact hok)).mono ?_
      rintro e w' ⟨rfl, O⟩
      exact ⟨_, _, [], rfl, O, .inr (.inl ⟨hp2, rfl, rfl, rfl, rfl⟩)⟩
    | true =>
      have := sopen_ok w O hp2 ha (by rw [hx]; exact hok)
      rw [hx] at this
      refine this.mono ?_
      rintro e w' ⟨sb, kb, fb, rfl, O⟩
      exact ⟨_, _, stL sb p x.1.hd x.2 kb fb (fun _ => false) (fun _ => none) [] [] [], rfl, O, .inr (.inr ⟨hp2, rfl, sb, kb, fb, rfl, rfl, rfl⟩)⟩
  · refine (Z89 w O hp2).mono ?_
    rintro e w' ⟨rfl, O⟩
    exact ⟨_, _, [], rfl, O, .inl ⟨hp2, rfl, rfl, rfl⟩⟩
theorem Z8a {c0 : Int} (s0 s1 ch : Int) (w : World) (O : OwnT H A0 (tDisc p mb B n cap bm S noL :: tMn mb M :: R) w) (hM : M.Ok c0) (hc : c0 ≤ 800000000000) (hF : M.Free) :
    Calls Tryz.prog 9 #[.pointer (some ⟨p, 0, none⟩), .agg #[.int .i64 s0, .int .i64 s1], .int .i64 ch] w fun e w' => ∃ (v : Value) (ef : Int) (S' : List Sec) (M' : Mn) (X : List Thing), e = .returned (.tuple #[v, .int .i64 ef]) ∧ OwnT H A0 (X ++ tDisc p mb B n cap bm S' noL :: tMn mb M' :: R) w' ∧
      ((¬ ((fmtHd s0 s1 ch).Ok ∧ 2 ≤ pgs n) ∧ v = .pointer none ∧ ef = 1 ∧ X = []) ∨ (((fmtHd s0 s1 ch).Ok ∧ 2 ≤ pgs n) ∧ S' = fmS S noL (fmtHd s0 s1 ch) ∧ ∃ sb kb fb, v = .pointer (some ⟨sb, 0, none⟩) ∧ ef = 0 ∧ X = stL sb p (fmtHd s0 s1 ch) 0 kb fb (fun _ => false) (fun _ => none) [] [] [])) := by
  by_cases hg : (fmtHd s0 s1 ch).Ok ∧ 2 ≤ pgs n
  · refine (Z48 s0 s1 ch w O hg.1 hg.2 hM hc hF).mono ?_
    rintro e w' ⟨j, sb, kb, fb, _, rfl, O⟩
    exact ⟨_, _, _, _, stL sb p (fmtHd s0 s1 ch) 0 kb fb (fun _ => false) (fun _ => none) [] [] [], rfl, O, .inr ⟨hg, rfl, sb, kb, fb, rfl, rfl, rfl⟩⟩
  · refine (sformat_arg s0 s1 ch w O hg).mono ?_
    rintro e w' ⟨rfl, O⟩
    exact ⟨_, _, S, M, [], rfl, O, .inl ⟨hg, rfl, rfl, rfl⟩⟩
end
end Go.Proofs.YtakkhglbdljfiaaGreatDoor
