/- store: Format, Open (printed by XStG.gen.py). -/
import Derived.Test.YtakkhglbdljfiaaGreatDoorKStoreExact16
import Derived.Test.YtakkhglbdljfiaaGreatDoorKStoreExact17
import Derived.Test.YtakkhglbdljfiaaGreatDoorKStoreExact12
import Derived.Test.YtakkhglbdljfiaaGreatDoorKStoreExact08
import Derived.Laws.Bits128
namespace Go.Proofs.YtakkhglbdljfiaaGreatDoor
attribute [local simp] BigFrame.eval_const BigFrame.eval_global BigFrame.eval_func
set_option linter.unusedVariables false
set_option linter.unusedSimpArgs false
open Go.RowKit Go.Maps

abbrev fmtHd (s0 s1 ch : Int) : Hd := ⟨1, 0, s0, s1, ch⟩
def HeadR.hd (x : HeadR) : Hd := ⟨x.g, x.r, x.a, x.b, x.c⟩
/-- The newest of a device's two heads. -/
def newL (l : List UInt8) : HeadR × Int := newest (hdRead (l.take 16)) (hdRead (l.drop 16))
theorem hread_l (l : List UInt8) (hl : l.length ≤ 1000000) : Reads (sB l) (hdRead l) := by
 have h := hreads_any (sB l) (by rw [Z1q]; exact hl)
 rwa [Z6o] at h
theorem newest_l (l : List UInt8) (hl : l.length ≤ 1000000) (w : World) : Calls Tryz.prog 65 #[.string (sB (l.take 16)), .string (sB (l.drop 16))] w fun e w' => e = .returned (.tuple #[(newL l).1.hd.v, .int .i64 (newL l).2, .int .i64 (newL l).1.e]) ∧ Ext w w' :=
 newest_any _ _ _ _ (hread_l (l.take 16) (by rw [List.length_take]; omega)) (hread_l (l.drop 16) (by rw [List.length_drop]; omega)) w _ rfl

set_option maxRecDepth 100000 in
set_option maxHeartbeats 8000000 in
theorem sformat_go {H : Nat} {A0 : World} {R : List Thing} {p mb n cap bm : Nat} {B : Option Addr} {S : List Sec} {L : Int → Option Sec} {M : Mn} {c0 : Int} (s0 s1 ch : Int) (w : World) (O : OwnT H A0 (tDisc p mb B n cap bm S L :: tMn mb M :: R) w) (hok : (fmtHd s0 s1 ch).Ok) (hp2 : 2 ≤ pgs n) (hM : M.Ok c0) (hc : c0 ≤ 800000000000) : Calls Tryz.prog 9 #[.pointer (some ⟨p, 0, none⟩), .agg #[.int .i64 s0, .int .i64 s1], .int .i64 ch] w fun e w' => ∃ j, j ≤ 3 ∧ ((∃ sb kb fb, e = .returned (.tuple #[.pointer (some ⟨sb, 0, none⟩), .int .i64 0]) ∧ OwnT H A0 (stL sb p (fmtHd s0 s1 ch) 0 kb fb (fun _ => false) (fun _ => none) [] [] (tDisc p mb B n cap bm (nowL S (wrS (hdB (fmtHd s0 s1 ch) ++ zsec) 0 L 2)) (fun _ => none) :: tMn mb (M.useN j) :: R)) w') ∨ (¬ M.Free ∧ e = .returned (.tuple #[.pointer none, .int .i64 4]) ∧ ∃ S' L', OwnT H A0 (tDisc p mb B n cap bm S' L' :: tMn mb (M.useN j) :: R) w')) := by
 have hhl := Z2n (fmtHd s0 s1 ch)
 have hzl : zsec.length = 16 := by unfold zsec; rw [List.length_replicate]
 refine Z0c Tryz.func9 rfl 47 rfl (by rfl) ?_
 intro a1 k hargs; have e0 : a1.eval (.tmp 0) = .pointer (some ⟨p, 0, none⟩) := hargs 0 _ rfl
 have e1 : a1.eval (.tmp 1) = .agg #[.int .i64 s0, .int .i64 s1] := hargs 1 _ rfl
 have e2 : a1.eval (.tmp 2) = .int .i64 ch := hargs 2 _ rfl
 clear hargs; refine wp_seq ?_; refine wp_region_lit ?_
 have hE := Env.refl a1 [4, 6, 7]; refine Z0v O (cs := #[.int .i64 s0, .int .i64 s1]) (t := 33) 4 hE k rfl (by rfl) (by rfl) rfl (by simp [go_sem, ↓IntWalk.iteOmega, ev (hE.g e1)]) ?_
 clear O; intro ab a2 w3 O hE e4 kp; refine sd 6 hE k (Z01 rfl rfl) ?_; intro a4 hE e6 kp; replace e4 := kt kp e4; refine sd 7 hE k (Z01 rfl rfl) ?_; intro a5 hE e7 kp; replace e4 := kt kp e4; refine wpList_nil ?_; replace e0 := hE.g e0; replace e2 := hE.g e2; replace k := k.env hE; clear hE e1 e7; refine Z00 (wp_seq ?_); refine wp_seq ?_; refine wp_region_lit ?_
 have hE := Env.refl a5 [13, 14]; refine zm 13 hE k e0 ?_; intro a6 hE e13 kp; apply Z03 14 hE k rfl rfl rfl rfl; case h =>
  simp [go_sem, ↓IntWalk.iteOmega, ev e13]
  with_reducible rfl
 intro a7 hE e14 kp; refine wpList_nil ?_; replace e0 := hE.g e0; replace e2 := hE.g e2; replace e4 := hE.g e4; replace k := k.env hE; clear hE; refine Z00 ?_; refine Z07 e14 rfl ?_
 refine wp_skip ?_; refine Z00 (wp_seq ?_); refine wp_region_lit ?_
 have hE := Env.refl a7 [15, 16, 17, 8]; refine sd 15 hE k (Z1n O 0 rfl rfl (hE.g e4) [.int .i64 s0, .int .i64 s1] rfl Tryz.underlying33 rfl (by kernel_rfl)) ?_; intro a8 hE e15 kp; refine zm 16 hE k e2 ?_; intro a9 hE e16 kp; replace e15 := kt kp e15; apply Z03 17 hE k rfl rfl rfl rfl; case h =>
  simp [go_sem, ↓IntWalk.iteOmega, ev e15, ev e16]
  with_reducible rfl
 intro a10 hE e17 kp; refine Z0v O (cs := #[.int .u64 0, .int .i64 0, .int .i64 0, .int .i64 0, .int .i64 0]) (t := 39) 8 hE k rfl (by rfl) (by rfl) rfl (by simp [go_sem, ↓IntWalk.iteOmega]) ?_
 clear O; intro hb a11 w12 O hE e8 kp; replace e17 := kt kp e17; refine Z1b O 0 0 hE e8 e17 ?_
 clear O; intro w13 O; replace O : OwnT _ _ ((tBlk hb 39 #[.int .u64 1, .int .i64 0, .int .i64 s0, .int .i64 s1, .int .i64 ch]) :: _) w13 := O
 refine wpList_nil ?_; replace e0 := hE.g e0; replace k := k.env hE; clear hE e2 e4 e14 e17; refine Z00 (wp_seq ?_); refine wp_region_lit ?_
 have hE := Env.refl a11 [19, 20, 18, 21, 22, 9, 10]; refine sd 19 hE k (Z1n O 0 rfl rfl (hE.g e8) [.int .u64 1, .int .i64 0, .int .i64 s0, .int .i64 s1, .int .i64 ch] rfl Tryz.underlying39 rfl (by kernel_rfl)) ?_; intro a14 hE e19 kp; apply Z06 20 hE k rfl (by rfl) (by rfl) rfl
 case h =>
  simp [go_sem, ↓IntWalk.iteOmega, ev e19]
  with_reducible exact ⟨rfl, rfl⟩
 case hc => exact Z5e (fmtHd s0 s1 ch) hok _
 rintro e w16 ⟨he, RE⟩
 replace O := OwnT.ext O RE; refine ⟨.tuple #[.string (sB (hdB (fmtHd s0 s1 ch))), .int .i64 0], he, ?_⟩
 intro a15 hE e20 kp; refine sd 18 hE k (Z02 rfl e20) ?_; intro a17 hE e18 kp; apply Z03 21 hE k rfl rfl rfl rfl; case h =>
  simp [go_sem, ↓IntWalk.iteOmega, ev e18]
  with_reducible rfl
 intro a18 hE e21 kp; replace e18 := kt kp e18; apply Z03 22 hE k rfl rfl rfl rfl; case h =>
  simp [go_sem, ↓IntWalk.iteOmega, ev e18]
  with_reducible rfl
 intro a19 hE e22 kp; replace e21 := kt kp e21; refine sd 9 hE k (Z01 rfl e21) ?_; intro a20 hE e9 kp; replace e22 := kt kp e22; refine sd 10 hE k (Z01 rfl e22) ?_; intro a21 hE e10 kp; replace e9 := kt kp e9; refine wpList_nil ?_; replace e0 := hE.g e0; replace e8 := hE.g e8; replace k := k.env hE; clear hE; refine Z00 (wp_seq ?_); refine wp_seq ?_; refine wp_region_lit ?_
 have hE := Env.refl a21 [23, 24, 25, 26, 27, 28, 29]; refine zm 23 hE k e10 ?_; intro a22 hE e23 kp; refine sd 24 hE k (Z08 (Z0x rfl e23 rfl) (decide_eq_false (by omega))) ?_
 intro a23 hE e24 kp; refine sd 25 hE k (Z02 rfl e24) ?_; intro a24 hE e25 kp; apply Z04 26 hE k rfl rfl rfl rfl rfl e25
 case h =>
  exact Z02 rfl (hE.g e0)
 intro a25 hE e26 kp; replace e25 := kt kp e25; apply Z1r 27 hE k rfl (by rfl) (by rfl) rfl rfl e25
 case h =>
  simp [go_sem, ↓IntWalk.iteOmega, ev e26]
  with_reducible exact ⟨rfl, rfl⟩
 case hc => exact Z6l _ (OwnT.disc (OwnT.pull O 2 rfl))
 rintro e _ ⟨rfl, rfl⟩
 refine ⟨_, rfl, ?_⟩
 intro a26 hE e27 kp; replace e25 := kt kp e25; apply Z04 28 hE k rfl rfl rfl rfl rfl e25
 case h =>
  exact Z08 (Z81 rfl e27 rfl) (decide_eq_false (by omega))
 intro a27 hE e28 kp; replace e25 := kt kp e25; refine sd 29 hE k (Z09 rfl e25 e28) ?_; intro a28 hE e29 kp; refine wpList_nil ?_; replace e0 := hE.g e0; replace e8 := hE.g e8; replace e9 := hE.g e9; replace k := k.env hE; clear hE e10; refine Z00 ?_; refine Z07 e29 rfl ?_
 refine wp_skip ?_; refine Z00 ?_; replace O : OwnT _ _ ((tDisc p mb B n cap bm S L) :: (tMn mb M) :: (tBlk hb 39 #[.int .u64 1, .int .i64 0, .int .i64 s0, .int .i64 s1, .int .i64 ch]) :: (tBlk ab 33 #[.int .i64 s0, .int .i64 s1]) :: R) w16 := OwnT.pickR (L := [_, _, _, _]) (R := R) O [2, 3, 0, 1] (by decide)
 obtain ⟨gz, w9, hmk, hrz, hEz⟩ := mk_bytes w16 16 (by decide)
 refine wp_seq ?_; refine wp_seq ?_; refine wp_region_lit ?_
 have hE := Env.refl a28 [30, 31, 32, 33, 34, 35, 11]; refine zm 30 hE k e0 ?_; intro a29 hE e30 kp; refine zm 31 hE k e9 ?_; intro a30 hE e31 kp; replace e30 := kt kp e30; apply Z2a 32 hE k rfl (by rfl) (by rfl) rfl
 case h =>
  exact x_make rfl rfl rfl hmk
 intro a31 hE e32 kp; replace e30 := kt kp e30; replace e31 := kt kp e31; replace O := OwnT.newRow O hEz hrz
 have hz9 : (tRow 5 1 (.slice (some ⟨gz, 0, none⟩) 16 16) 16 (zsec.map u8V)).holds w9 := by have h := OwnT.get O 0 rfl; rw [show zsec.map u8V = List.replicate 16 (u8V 0) from List.map_replicate]; exact h
 replace O := O.tail
 clear hmk hrz hEz; refine sd 33 hE k (Z4s rfl e32 (conv_rowR (l := zsec) hz9 hzl)) ?_
 intro a32 hE e33 kp; replace e30 := kt kp e30; replace e31 := kt kp e31; refine sd 34 hE k (x_cat (l := hdB (fmtHd s0 s1 ch)) (m := zsec) rfl e31 e33 (by omega)) ?_
 intro a33 hE e34 kp; replace e30 := kt kp e30; apply Z06 35 hE k rfl (by rfl) (by rfl) rfl
 case h =>
  simp [go_sem, ↓IntWalk.iteOmega, ev e30, ev e34]
  with_reducible exact ⟨rfl, rfl⟩
 case hc => exact Z2x 0 (hdB (fmtHd s0 s1 ch) ++ zsec) 2 _ O (by rw [List.length_append]; omega) (by decide) (decide_eq_true (by unfold pgs at hp2; omega)) hM (by omega)
 clear O; rintro e w35 ⟨cW, L1, j1, rfl, hj1, O, hcW⟩
 refine ⟨_, rfl, ?_⟩
 intro a34 hE e35 kp; refine sd 11 hE k (Z01 rfl e35) ?_; intro a36 hE e11 kp; refine wpList_nil ?_; replace e0 := hE.g e0; replace e8 := hE.g e8; replace k := k.env hE; clear hE e9 e29; refine Z00 ?_; rcases hcW with ⟨rfl, rfl, rfl⟩ | ⟨rfl, hF, i1, hi1, rfl⟩
 rotate_left
 · skip
   refine wp_seq ?_; refine wp_region_lit ?_
   have hE := Env.refl a36 [36, 37]; refine zm 36 hE k e11 ?_; intro a37 hE e36 kp; refine sd 37 hE k (Z08 (Z0x rfl e36 rfl) (decide_eq_true (by omega))) ?_
   intro a38 hE e37 kp; refine wpList_nil ?_; replace e0 := hE.g e0; replace e8 := hE.g e8; replace e11 := hE.g e11; replace k := k.env hE; clear hE; refine Z00 ?_; refine Z0h e37 rfl ?_
   refine wp_seq ?_; refine wp_region_lit ?_
   have hE := Env.refl a38 [38, 6, 7]; refine zm 38 hE k e11 ?_; intro a39 hE e38 kp; refine sd 6 hE k (Z01 rfl rfl) ?_; intro a40 hE e6 kp; replace e38 := kt kp e38; refine sd 7 hE k (Z01 rfl e38) ?_; intro a41 hE e7 kp; replace e6 := kt kp e6; refine wpList_nil ?_; replace k := k.env hE; clear hE e0 e8 e11 e37; refine Z00 ?_; refine wp_ret ?_
   refine Z0m ?_
   replace O : OwnT _ _ ((tDisc p mb B n cap bm S (wrS (hdB (fmtHd s0 s1 ch) ++ zsec) 0 L i1)) :: (tMn mb (M.useN j1)) :: R) w35 := OwnT.pickR (L := [_, _, _, _]) (R := R) O [0, 1] (by decide)
   refine Z32 rfl k e6 e7 ?_
   exact ⟨j1, by omega, .inr ⟨hF, rfl, _, _, O⟩⟩
 refine wp_seq ?_; refine wp_region_lit ?_
 have hE := Env.refl a36 [36, 37]; refine zm 36 hE k e11 ?_; intro a42 hE e36 kp; refine sd 37 hE k (Z08 (Z0x rfl e36 rfl) (decide_eq_false (by omega))) ?_
 intro a43 hE e37 kp; refine wpList_nil ?_; replace e0 := hE.g e0; replace e8 := hE.g e8; replace e11 := hE.g e11; replace k := k.env hE; clear hE; refine Z00 ?_; refine Z07 e37 rfl ?_
 refine wp_skip ?_; refine Z00 (wp_seq ?_); refine wp_seq ?_; refine wp_region_lit ?_
 have hE := Env.refl a43 [39, 40, 12]; refine zm 39 hE k e0 ?_; intro a44 hE e39 kp; apply Z06 40 hE k rfl (by rfl) (by rfl) rfl
 case h =>
  simp [go_sem, ↓IntWalk.iteOmega, ev e39]
  with_reducible exact ⟨rfl, rfl⟩
 case hc => exact Z2y _ O (hM.useN 2) (by omega)
 clear O; rintro e w46 ⟨cF, S3, L3, rfl, O, hcF⟩
 refine ⟨_, rfl, ?_⟩
 intro a45 hE e40 kp; refine sd 12 hE k (Z01 rfl e40) ?_; intro a47 hE e12 kp; refine wpList_nil ?_; replace e0 := hE.g e0; replace e8 := hE.g e8; replace k := k.env hE; clear hE e11 e37; refine Z00 ?_; rcases hcF with ⟨rfl, rfl, rfl⟩ | ⟨rfl, hF, hS3, rfl⟩
 rotate_left
 · skip
   refine wp_seq ?_; refine wp_region_lit ?_
   have hE := Env.refl a47 [41, 42]; refine zm 41 hE k e12 ?_; intro a48 hE e41 kp; refine sd 42 hE k (Z08 (Z0x rfl e41 rfl) (decide_eq_true (by omega))) ?_
   intro a49 hE e42 kp; refine wpList_nil ?_; replace e0 := hE.g e0; replace e8 := hE.g e8; replace e12 := hE.g e12; replace k := k.env hE; clear hE; refine Z00 ?_; refine Z0h e42 rfl ?_
   refine wp_seq ?_; refine wp_region_lit ?_
   have hE := Env.refl a49 [43, 6, 7]; refine zm 43 hE k e12 ?_; intro a50 hE e43 kp; refine sd 6 hE k (Z01 rfl rfl) ?_; intro a51 hE e6 kp; replace e43 := kt kp e43; refine sd 7 hE k (Z01 rfl e43) ?_; intro a52 hE e7 kp; replace e6 := kt kp e6; refine wpList_nil ?_; replace k := k.env hE; clear hE e0 e8 e12 e42; refine Z00 ?_; refine wp_ret ?_
   refine Z0m ?_
   replace O : OwnT _ _ ((tDisc p mb B n cap bm S3 (wrS (hdB (fmtHd s0 s1 ch) ++ zsec) 0 L 2)) :: (tMn mb (M.useN 3)) :: R) w46 := OwnT.pickR (L := [_, _, _, _]) (R := R) O [0, 1] (by decide)
   refine Z32 rfl k e6 e7 ?_
   exact ⟨3, by omega, .inr ⟨Z2g hF, rfl, _, _, O⟩⟩
 refine wp_seq ?_; refine wp_region_lit ?_
 have hE := Env.refl a47 [41, 42]; refine zm 41 hE k e12 ?_; intro a53 hE e41 kp; refine sd 42 hE k (Z08 (Z0x rfl e41 rfl) (decide_eq_false (by omega))) ?_
 intro a54 hE e42 kp; refine wpList_nil ?_; replace e0 := hE.g e0; replace e8 := hE.g e8; replace e12 := hE.g e12; replace k := k.env hE; clear hE; refine Z00 ?_; refine Z07 e42 rfl ?_
 refine wp_skip ?_; refine Z00 (wp_seq ?_); refine wp_region_lit ?_
 have hE := Env.refl a54 [44, 45, 46, 6, 7]; refine zm 44 hE k e0 ?_; intro a55 hE e44 kp; refine sd 45 hE k (Z1n O 2 rfl rfl (hE.g e8) [.int .u64 1, .int .i64 0, .int .i64 s0, .int .i64 s1, .int .i64 ch] rfl Tryz.underlying39 rfl (by kernel_rfl)) ?_; intro a56 hE e45 kp; replace e44 := kt kp e44; apply Z06 46 hE k rfl (by rfl) (by rfl) rfl
 case h =>
  simp [go_sem, ↓IntWalk.iteOmega, ev e44, ev e45]
  with_reducible exact ⟨rfl, rfl⟩
 case hc => exact Z78 (fmtHd s0 s1 ch) 0 _ O
 clear O; rintro e w58 ⟨sb, kb, fb, rfl, O⟩
 refine ⟨_, rfl, ?_⟩
 intro a57 hE e46 kp; refine sd 6 hE k (Z01 rfl e46) ?_; intro a59 hE e6 kp; refine sd 7 hE k (Z01 rfl rfl) ?_; intro a60 hE e7 kp; replace e6 := kt kp e6; refine wpList_nil ?_; replace k := k.env hE; clear hE e0 e8 e12 e42; refine Z00 ?_; refine wp_ret ?_
 replace O : OwnT _ _ ((tBlk sb 102 #[.pointer (some ⟨p, 0, none⟩), .int .u64 (fmtHd s0 s1 ch).g, .int .i64 (fmtHd s0 s1 ch).r, .int .i64 (fmtHd s0 s1 ch).a, .int .i64 (fmtHd s0 s1 ch).b, .int .i64 (fmtHd s0 s1 ch).c, .int .i64 0, .map (some kb), .map (some fb)]) :: (tMap kb 512 (keptV (fun _ => false))) :: (tMap fb 512 (fun _ => none)) :: (tPool [] []) :: (tDisc p mb B n cap bm (nowL S (wrS (hdB (fmtHd s0 s1 ch) ++ zsec) 0 L 2)) (fun _ => none)) :: (tMn mb (M.useN 3)) :: R) w58 := OwnT.pickR (L := [_, _, _, _, _, _, _, _]) (R := R) O [0, 1, 2, 3, 4, 5] (by decide)
 refine Z32 rfl k e6 e7 ?_
 exact ⟨3, by omega, .inl ⟨sb, kb, fb, rfl, O⟩⟩
set_option maxRecDepth 100000 in
set_option maxHeartbeats 8000000 in
theorem sopen_ok {H : Nat} {A0 : World} {R : List Thing} {p mb n cap bm : Nat} {B : Option Addr} {S : List Sec} {L : Int → Option Sec} {M : Mn} (w : World) (O : OwnT H A0 (tDisc p mb B n cap bm S L :: tMn mb M :: R) w) (hp2 : 2 ≤ pgs n) (ha : M.away = false) (hx : (newL (readL S L 0 2)).1.ok = true) : Calls Tryz.prog 34 #[.pointer (some ⟨p, 0, none⟩)] w fun e w' => ∃ sb kb fb, e = .returned (.tuple #[.pointer (some ⟨sb, 0, none⟩), .int .i64 0]) ∧ OwnT H A0 (stL sb p ((newL (readL S L 0 2)).1.hd) (newL (readL S L 0 2)).2 kb fb (fun _ => false) (fun _ => none) [] [] (tDisc p mb B n cap bm S L :: tMn mb M :: R)) w' := by
 have hdn := (OwnT.disc O).ok
 refine Z0c Tryz.func34 rfl 39 rfl (by rfl) ?_
 intro a1 k hargs; have e0 : a1.eval (.tmp 0) = .pointer (some ⟨p, 0, none⟩) := hargs 0 _ rfl
 clear hargs; have hrl := Z39 hdn (S := S) (L := L) (x := 0) (k := 2) (by unfold pgs at hp2; omega)
 obtain ⟨l, hl⟩ : ∃ z, readL S L 0 2 = z := ⟨_, rfl⟩
 rw [hl] at hrl hx ⊢
 have hnw := newest_l l (by omega)
 obtain ⟨x, hxe⟩ : ∃ z, newL l = z := ⟨_, rfl⟩
 rw [hxe] at hnw hx ⊢
 obtain ⟨⟨xo, xg, xr, xa, xb, xc⟩, xi⟩ := x
 obtain rfl : xo = true := hx
 refine wp_seq ?_; refine wp_region_lit ?_
 have hE := Env.refl a1 [2, 3]; refine sd 2 hE k (Z01 rfl rfl) ?_; intro a2 hE e2 kp; refine sd 3 hE k (Z01 rfl rfl) ?_; intro a3 hE e3 kp; refine wpList_nil ?_; replace e0 := hE.g e0; replace k := k.env hE; clear hE e3; refine Z00 (wp_seq ?_); refine wp_block ?_; refine wp_seq ?_; refine wp_region_lit ?_
 have hE := Env.refl a3 [9, 10, 8]; refine zm 9 hE k e0 ?_; intro a4 hE e9 kp; apply Z03 10 hE k rfl rfl rfl rfl; case h =>
  simp [go_sem, ↓IntWalk.iteOmega, ev e9]
  with_reducible rfl
 intro a5 hE e10 kp; refine sd 8 hE k (Z01 rfl e10) ?_; intro a6 hE e8 kp; refine wpList_nil ?_; replace e0 := hE.g e0; replace k := k.env hE; clear hE; refine Z00 ?_; refine Z07 e8 rfl ?_
 refine wp_seq ?_; refine wp_region_lit ?_
 have hE := Env.refl a6 [12, 13, 14, 11]; refine zm 12 hE k e0 ?_; intro a7 hE e12 kp; apply Z06 13 hE k rfl (by rfl) (by rfl) rfl
 case h =>
  simp [go_sem, ↓IntWalk.iteOmega, ev e12]
  with_reducible exact ⟨rfl, rfl⟩
 case hc => exact Z6l _ (OwnT.disc O)
 rintro e _ ⟨rfl, rfl⟩
 refine ⟨_, rfl, ?_⟩
 intro a8 hE e13 kp; refine sd 14 hE k (Z08 (Z81 rfl e13 rfl) (decide_eq_false (by omega))) ?_
 intro a9 hE e14 kp; refine sd 11 hE k (Z01 rfl e14) ?_; intro a10 hE e11 kp; refine wpList_nil ?_; replace e0 := hE.g e0; replace k := k.env hE; clear hE e8; refine Z00 ?_; refine Z07 e11 rfl ?_
 refine wp_skip ?_; refine Z0f ?_; refine Z00 (wp_seq ?_); refine wp_region_lit ?_
 have hE := Env.refl a10 [16, 17, 15, 18, 19, 4, 5]; refine zm 16 hE k e0 ?_; intro a11 hE e16 kp; apply Z06 17 hE k rfl (by rfl) (by rfl) rfl
 case h =>
  simp [go_sem, ↓IntWalk.iteOmega, ev e16]
  with_reducible exact ⟨rfl, rfl⟩
 case hc => exact Z6z 0 2 _ (OwnT.disc O) (OwnT.get O 1 rfl) (by unfold pgs at hp2; omega) ha
 rintro e w13 ⟨he, RE⟩
 replace O := OwnT.ext O RE; refine ⟨_, he.trans (by rw [hl]), ?_⟩
 intro a12 hE e17 kp; refine sd 15 hE k (Z02 rfl e17) ?_; intro a14 hE e15 kp; apply Z03 18 hE k rfl rfl rfl rfl; case h =>
  simp [go_sem, ↓IntWalk.iteOmega, ev e15]
  with_reducible rfl
 intro a15 hE e18 kp; replace e15 := kt kp e15; apply Z03 19 hE k rfl rfl rfl rfl; case h =>
  simp [go_sem, ↓IntWalk.iteOmega, ev e15]
  with_reducible rfl
 intro a16 hE e19 kp; replace e18 := kt kp e18; refine sd 4 hE k (Z01 rfl e18) ?_; intro a17 hE e4 kp; replace e19 := kt kp e19; refine sd 5 hE k (Z01 rfl e19) ?_; intro a18 hE e5 kp; replace e4 := kt kp e4; refine wpList_nil ?_; replace e0 := hE.g e0; replace k := k.env hE; clear hE e11; refine Z00 (wp_seq ?_); refine wp_seq ?_; refine wp_region_lit ?_
 have hE := Env.refl a18 [20, 21]; refine zm 20 hE k e5 ?_; intro a19 hE e20 kp; refine sd 21 hE k (Z08 (Z0x rfl e20 rfl) (decide_eq_false (by omega))) ?_
 intro a20 hE e21 kp; refine wpList_nil ?_; replace e0 := hE.g e0; replace e4 := hE.g e4; replace e5 := hE.g e5; replace k := k.env hE; clear hE; refine Z00 ?_; refine Z07 e21 rfl ?_
 refine wp_skip ?_; refine Z00 (wp_seq ?_); refine wp_midA (S := ⟨4, 9, 10, 6, 28, 39, #[.int .u64 0, .int .i64 0, .int .i64 0, .int .i64 0, .int .i64 0], fun v => csA (projV v 0)⟩) (Φ := fun v_ L_ => v_ = .tuple #[.agg #[.int .u64 ↑xg, .int .i64 xr, .int .i64 xa, .int .i64 xb, .int .i64 xc], .int .i64 xi, .int .i64 0] ∧ L_ = (tDisc p mb B n cap bm S L :: tMn mb M :: R)) [[], [0], [], [2], rg 4, rg 5, rg 6, rg 6, rg 6, [], [0, 1, 2, 3, 4, 5, 6, 9], [0, 1, 2, 3, 4, 5, 6, 7, 9, 10], rg 12] [24, 25, 26, 27, 28, 23, 29, 30, 31, 6, 7] O (by kernel_rfl) ?_
 apply BuildA.det 24 (by kernel_rfl) (by rfl) (by rw [k.size]; rfl) rfl
 case h =>
  intro lx ax wx hE hI hl hA hF; have hO := hI.pre (by rfl) hl
  exact Z02 rfl (hE.g e4)
 apply BuildA.det 25 (by kernel_rfl) (by rfl) (by rw [k.size]; rfl) rfl
 case h =>
  intro lx ax wx hE hI hl hA hF; have e24 := hF 0 (detL 0 24 _) (by decide) ml0
  have hO := hI.pre (by rfl) hl
  exact Z6g (l := l) Tryz.underlying9 rfl e24 rfl 16 rfl (by omega)
 apply BuildA.det 26 (by kernel_rfl) (by rfl) (by rw [k.size]; rfl) rfl
 case h =>
  intro lx ax wx hE hI hl hA hF; have hO := hI.pre (by rfl) hl
  exact Z02 rfl (hE.g e4)
 apply BuildA.det 27 (by kernel_rfl) (by rfl) (by rw [k.size]; rfl) rfl
 case h =>
  intro lx ax wx hE hI hl hA hF; have e26 := hF 2 (detL 2 26 _) (by decide) ml0
  have hO := hI.pre (by rfl) hl
  exact Z6f (l := l) Tryz.underlying9 rfl e26 rfl 16 rfl (by omega)
 refine BuildA.call (by kernel_rfl) rfl (by rw [k.size]; rfl) rfl ?_ ?_
 · intro lx ax wx hE hO hA hF; have e25 := hF 1 (detL 1 25 _) (by decide) ml2
   have e27 := hF 3 (detL 3 27 _) (by decide) ml0
   refine ⟨_, _, by simp [go_sem, ↓IntWalk.iteOmega, ev e25, ev e27], fun X OX => (show Calls _ _ _ _ (fun e w' => e = .returned (.tuple #[.agg #[.int .u64 ↑xg, .int .i64 xr, .int .i64 xa, .int .i64 xb, .int .i64 xc], .int .i64 xi, .int .i64 0]) ∧ Ext wx w') from hnw wx).mono (fun e w' h => ⟨_, _, h.1, ⟨rfl, rfl⟩, OX.ext h.2⟩)⟩
 refine BuildA.rel 23 28 (fun v => v) (by rfl) (by kernel_rfl) (by rfl) (by rw [k.size]; rfl) rfl ?_ ?_
 · intro lx ax wx hE hI hA hF; exact Z02 rfl rfl
 refine BuildA.rel 29 28 (fun v => projV v 0) (by rfl) (by kernel_rfl) (by rfl) (by rw [k.size]; rfl) rfl ?_ ?_
 · intro lx ax wx hE hI hA hF; have e23 : ax.eval (.tmp 23) = _ := hF 5 (relL 5 23 28 (fun v => v)) (by decide) ml0
   obtain ⟨_, fic⟩ := hI.val (hA 4 (by decide))
   obtain ⟨hv, rfl⟩ := fic
   rw [hv]
   rw [hv] at e23
   simp [go_sem, ↓IntWalk.iteOmega, ev e23, projV]
 refine BuildA.rel 30 28 (fun v => projV v 1) (by rfl) (by kernel_rfl) (by rfl) (by rw [k.size]; rfl) rfl ?_ ?_
 · intro lx ax wx hE hI hA hF; have e23 : ax.eval (.tmp 23) = _ := hF 5 (relL 5 23 28 (fun v => v)) (by decide) ml1
   obtain ⟨_, fic⟩ := hI.val (hA 4 (by decide))
   obtain ⟨hv, rfl⟩ := fic
   rw [hv]
   rw [hv] at e23
   simp [go_sem, ↓IntWalk.iteOmega, ev e23, projV]
 refine BuildA.rel 31 28 (fun v => projV v 2) (by rfl) (by kernel_rfl) (by rfl) (by rw [k.size]; rfl) rfl ?_ ?_
 · intro lx ax wx hE hI hA hF; have e23 : ax.eval (.tmp 23) = _ := hF 5 (relL 5 23 28 (fun v => v)) (by decide) ml2
   obtain ⟨_, fic⟩ := hI.val (hA 4 (by decide))
   obtain ⟨hv, rfl⟩ := fic
   rw [hv]
   rw [hv] at e23
   simp [go_sem, ↓IntWalk.iteOmega, ev e23, projV]
 refine BuildA.alloc (by kernel_rfl) rfl (by rw [k.size]; rfl) rfl (fun a_ w_ => by simp [go_sem, ↓IntWalk.iteOmega]; first | done | kernel_rfl | rfl) ?_
 refine BuildA.store (by kernel_rfl) rfl rfl ?_ ?_
 · intro lx ax wx g_ L_ hE hA hF es hΦ O; have e29 : ax.eval (.tmp 29) = _ := hF 6 (relL 6 29 28 (fun v => projV v 0)) (by decide) ml3
   obtain ⟨hv, rfl⟩ := hΦ
   rw [hv] at e29
   replace e29 : ax.eval (.tmp 29) = .agg #[.int .u64 ↑xg, .int .i64 xr, .int .i64 xa, .int .i64 xb, .int .i64 xc] := e29
   have hb := O.b0
   refine ⟨(((((wx.setCell ⟨g_, 0, none⟩ (.int .u64 ↑xg)).setCell ⟨g_, 1, none⟩ (.int .i64 xr)).setCell ⟨g_, 2, none⟩ (.int .i64 xa)).setCell ⟨g_, 3, none⟩ (.int .i64 xb)).setCell ⟨g_, 4, none⟩ (.int .i64 xc)), ?_, ?_⟩
   · have q0 : wx.cell? ⟨g_, 0, none⟩ = some (.int .u64 0) := hb.cell 0
     have z0 : wx.frozen? ⟨g_, 0, none⟩ = false := hb.frozen 0
     have q1 : wx.cell? ⟨g_, 1, none⟩ = some (.int .i64 0) := hb.cell 1
     have z1 : wx.frozen? ⟨g_, 1, none⟩ = false := hb.frozen 1
     have q2 : wx.cell? ⟨g_, 2, none⟩ = some (.int .i64 0) := hb.cell 2
     have z2 : wx.frozen? ⟨g_, 2, none⟩ = false := hb.frozen 2
     have q3 : wx.cell? ⟨g_, 3, none⟩ = some (.int .i64 0) := hb.cell 3
     have z3 : wx.frozen? ⟨g_, 3, none⟩ = false := hb.frozen 3
     have q4 : wx.cell? ⟨g_, 4, none⟩ = some (.int .i64 0) := hb.cell 4
     have z4 : wx.frozen? ⟨g_, 4, none⟩ = false := hb.frozen 4
     simp [go_sem, ↓IntWalk.iteOmega, ev es, ev e29, q0, z0, q1, z1, q2, z2, q3, z3, q4, z4]
   · have O2 := (((((O.set 0 (.int .u64 ↑xg)).set 1 (.int .i64 xr)).set 2 (.int .i64 xa)).set 3 (.int .i64 xb)).set 4 (.int .i64 xc))
     rw [hv]
     exact O2
 refine BuildA.rel 7 28 (fun v => projV v 1) (by rfl) (by kernel_rfl) (by rfl) (by rw [k.size]; rfl) rfl ?_ ?_
 · intro lx ax wx hE hI hA hF; have e30 : ax.eval (.tmp 30) = _ := hF 7 (relL 7 30 28 (fun v => projV v 1)) (by decide) ml3
   exact Z01 rfl e30
 apply BuildM.stop
 refine ⟨by kernel_rfl, ?_⟩
 clear O; intro lx a21 w22 hE hI hL hF; obtain ⟨hb, L_, e6, fic, O⟩ := hI.end_ (hL 4 (Nat.le_of_ble_eq_true rfl)) (hL 9 (Nat.le_of_ble_eq_true rfl)) (hL 10 (Nat.le_of_ble_eq_true rfl))
 have e31 : a21.eval (.tmp 31) = _ := hF 8 (relL 8 31 28 (fun v => projV v 2)) ml3
 have e7 : a21.eval (.tmp 7) = _ := hF 11 (relL 11 7 28 (fun v => projV v 1)) ml0
 clear hF hI hL; obtain ⟨hv, rfl⟩ := fic
 rw [hv] at e31
 replace e31 : a21.eval (.tmp 31) = .int .i64 0 := e31
 rw [hv] at e7
 replace e7 : a21.eval (.tmp 7) = .int .i64 xi := e7
 rw [hv] at O
 clear hv; replace O : OwnT _ _ ((tBlk hb 39 #[.int .u64 ↑xg, .int .i64 xr, .int .i64 xa, .int .i64 xb, .int .i64 xc]) :: (tDisc p mb B n cap bm S L) :: (tMn mb M) :: R) w22 := O
 simp only [List.length_cons, List.length_nil, Nat.zero_add, Nat.reduceAdd, List.drop_succ_cons, List.drop_zero, List.drop_nil, tailOps]
 apply Z4k (w' := w22) 5 [24, 25, 26, 27, 28, 23, 29, 30, 31, 6, 7, 5] hE k rfl (by rfl) (by rfl) (by rfl)
 case h =>
  exact Z01 rfl e31
 intro a23 hE e5 kp; replace e7 := kt kp e7; replace e6 := kt kp e6; replace e0 := hE.g e0; replace k := k.env hE; clear hE e4 e21; refine Z00 (wp_seq ?_); refine wp_seq ?_; refine wp_region_lit ?_
 have hE := Env.refl a23 [32, 33]; refine zm 32 hE k e5 ?_; intro a24 hE e32 kp; refine sd 33 hE k (Z08 (Z0x rfl e32 rfl) (decide_eq_false (by omega))) ?_
 intro a25 hE e33 kp; refine wpList_nil ?_; replace e0 := hE.g e0; replace e5 := hE.g e5; replace e6 := hE.g e6; replace e7 := hE.g e7; replace k := k.env hE; clear hE; refine Z00 ?_; refine Z07 e33 rfl ?_
 refine wp_skip ?_; refine Z00 (wp_seq ?_); refine wp_region_lit ?_
 have hE := Env.refl a25 [35, 36, 37, 38, 2, 3]; refine zm 35 hE k e0 ?_; intro a26 hE e35 kp; refine sd 36 hE k (Z1n O 0 rfl rfl (hE.g e6) [.int .u64 ↑xg, .int .i64 xr, .int .i64 xa, .int .i64 xb, .int .i64 xc] rfl Tryz.underlying39 rfl (by kernel_rfl)) ?_; intro a27 hE e36 kp; replace e35 := kt kp e35; refine zm 37 hE k e7 ?_; intro a28 hE e37 kp; replace e35 := kt kp e35; replace e36 := kt kp e36; apply Z06 38 hE k rfl (by rfl) (by rfl) rfl
 case h =>
  simp [go_sem, ↓IntWalk.iteOmega, ev e35, ev e36, ev e37]
  with_reducible exact ⟨rfl, rfl⟩
 case hc => exact Z78 (⟨xg, xr, xa, xb, xc⟩ : Hd) xi _ O
 clear O; rintro e w30 ⟨sb, kb, fb, rfl, O⟩
 refine ⟨_, rfl, ?_⟩
 intro a29 hE e38 kp; refine sd 2 hE k (Z01 rfl e38) ?_; intro a31 hE e2 kp; refine sd 3 hE k (Z01 rfl rfl) ?_; intro a32 hE e3 kp; replace e2 := kt kp e2; refine wpList_nil ?_; replace k := k.env hE; clear hE e0 e5 e6 e7 e33; refine Z00 ?_; refine wp_ret ?_
 replace O : OwnT _ _ ((tBlk sb 102 #[.pointer (some ⟨p, 0, none⟩), .int .u64 ↑xg, .int .i64 xr, .int .i64 xa, .int .i64 xb, .int .i64 xc, .int .i64 xi, .map (some kb), .map (some fb)]) :: (tMap kb 512 (keptV (fun _ => false))) :: (tMap fb 512 (fun _ => none)) :: (tPool [] []) :: (tDisc p mb B n cap bm S L) :: (tMn mb M) :: R) w30 := OwnT.pickR (L := [_, _, _, _, _, _, _]) (R := R) O [0, 1, 2, 3, 5, 6] (by decide)
 refine Z32 rfl k e2 e3 ?_
 exact ⟨sb, kb, fb, rfl, O⟩
end Go.Proofs.YtakkhglbdljfiaaGreatDoor

/- A head's sector turned: what a reading gives. -/
namespace Go.Proofs.YtakkhglbdljfiaaGreatDoor
set_option linter.unusedVariables false
set_option linter.unusedSimpArgs false
open Go.RowKit

theorem headOf_seal (g r a b c : Nat) (h : HeadOk g r a b c) : hG (sealL (headL g r a b c)) = g ∧ hR (sealL (headL g r a b c)) = r ∧ hA (sealL (headL g r a b c)) = a ∧ hB (sealL (headL g r a b c)) = b ∧ hC (sealL (headL g r a b c)) = c := by
  obtain ⟨a1, a2, b1, b2, g1, g2, r1, r2, c1, c2⟩ := h
  have e : sealL (headL g r a b c) = le 84 1 ++ (le c 1 ++ (le a 2 ++ (le b 2 ++ (le g 4 ++ (le r 2 ++ le (crcSum (headL g r a b c)) 4))))) := by simp [sealL, headL]
  rw [e]
  generalize le (crcSum (headL g r a b c)) 4 = Z
  have l1 : (le 84 1).length = 1 := Z0i _ _
  have l2 : (le c 1).length = 1 := Z0i _ _
  have l3 : (le a 2).length = 2 := Z0i _ _
  have l4 : (le b 2).length = 2 := Z0i _ _
  have l5 : (le g 4).length = 4 := Z0i _ _
  have l6 : (le r 2).length = 2 := Z0i _ _
  have nA := Z2e a 2 (by omega)
  have nB := Z2e b 2 (by omega)
  have nG := Z2e g 4 (by omega)
  have nR := Z2e r 2 (by omega)
  have nC := Z2e c 1 (by omega)
  generalize le 84 1 = x1 at l1
  generalize le c 1 = x2 at l2 nC
  generalize le a 2 = x3 at l3 nA
  generalize le b 2 = x4 at l4 nB
  generalize le g 4 = x5 at l5 nG
  generalize le r 2 = x6 at l6 nR
  match x1, l1, x2, l2, x3, l3, x4, l4, x5, l5, x6, l6 with
  | [p1], _, [p2], _, [p3, p4], _, [p5, p6], _, [p7, p8, p9, p10], _, [p11, p12], _ =>
    refine ⟨?_, ?_, ?_, ?_, ?_⟩
    · simpa [hG] using nG
    · simpa [hR] using nR
    · simpa [hA] using nA
    · simpa [hB] using nB
    · simp only [hC]
      rw [Z4o] at nC
      simpa using nC
theorem hdRead_seal (g r a b c : Nat) (h : HeadOk g r a b c) : hdRead (sealL (headL g r a b c)) = ⟨true, g, r, a, b, c⟩ := by
  obtain ⟨e1, e2, e3, e4, e5⟩ := headOf_seal g r a b c h
  unfold hdRead HeadIs headOf
  rw [e1, e2, e3, e4, e5, if_pos ⟨by rw [Z1t, Z28], h, rfl⟩]
theorem Bytes.far {w : World} {g : Nat} {L : List UInt8} {c : Nat} (h : Bytes w g L c) {p : Addr} (hp : g ≠ p.block) (u : Value) : Bytes (w.setCell p u) g L c := by
  obtain ⟨fz, h1, h2⟩ := h
  exact ⟨fz, (Below.heap_setCell w p u g hp).trans h1, h2⟩

abbrev noL : Int → Option Sec := fun _ => none
/-- Sector i; page c. -/
abbrev sc (S : List Sec) (i : Nat) : Sec := S.getD i []
def pgS (S : List Sec) (c : Nat) : List UInt8 := readL S noL (16 * c) 16
theorem nowAt_no (S : List Sec) (i : Nat) : nowAt S noL i = sc S i := by
  unfold nowAt
  rw [Option.getD_none, Int.toNat_natCast]
theorem Z4a {S : List Sec} {L : Int → Option Sec} {i : Nat} (h : i < S.length) : sc (nowL S L) i = nowAt S L i := by
  unfold sc
  rw [List.getD, nowL_at h]
  rfl
theorem stepF_at (F : Int → Option Nd) (L : Int → Option Sec) (c : Int) (i : Nat) : stepF F L c i = if ((i / 16 : Nat) : Int) = c then (match F c with | some nd => some (secOf (pgB nd) (i % 16)) | none => L i) else L i := by
  unfold stepF
  cases hF : F c with
  | none => split <;> rfl
  | some nd =>
    show wrS (pgB nd) (16 * c) L 16 i = _
    rw [Z48]
    by_cases e : ((i / 16 : Nat) : Int) = c
    · rw [if_pos e, if_pos (by omega), show (((i : Nat) : Int) - 16 * c).toNat = i % 16 by omega]
    · rw [if_neg e, if_neg (by omega)]
theorem wrF_at (F : Int → Option Nd) (i : Nat) : ∀ (td : List Int) (L : Int → Option Sec), wrF F L td i = if ((i / 16 : Nat) : Int) ∈ td then (match F ((i / 16 : Nat) : Int) with | some nd => some (secOf (pgB nd) (i % 16)) | none => L i) else L i
  | [], L => by rw [if_neg (by simp)]; rfl
  | c :: r, L => by
    show wrF F (stepF F L c) r i = _
    rw [wrF_at F i r, stepF_at]
    by_cases e : ((i / 16 : Nat) : Int) = c
    · subst e
      simp only [List.mem_cons, true_or, if_true]
      cases F ((i / 16 : Nat) : Int) with
      | none => simp
      | some nd => simp
    · simp only [List.mem_cons, e, false_or, if_false]
theorem wrF_in {F : Int → Option Nd} {td : List Int} {L : Int → Option Sec} {c : Nat} {nd : Nd} (hc : (c : Int) ∈ td) (hF : F c = some nd) {j : Nat} (hj : j < 16) : wrF F L td ((16 * c + j : Nat) : Int) = some (secOf (pgB nd) j) := by
  rw [wrF_at]
  have e1 : (16 * c + j) / 16 = c := by omega
  have e2 : (16 * c + j) % 16 = j := by omega
  rw [e1, e2, if_pos hc, hF]
theorem Z86 {F : Int → Option Nd} {td : List Int} {L : Int → Option Sec} {c : Nat} (hc : (c : Int) ∉ td) {j : Nat} (hj : j < 16) : wrF F L td ((16 * c + j : Nat) : Int) = L ((16 * c + j : Nat) : Int) := by
  rw [wrF_at]
  have e1 : (16 * c + j) / 16 = c := by omega
  rw [e1, if_neg hc]
theorem Z5w (l : List UInt8) : ∀ k, ((List.range k).map (secOf l)).flatten = l.take (16 * k)
  | 0 => rfl
  | k + 1 => by
    rw [List.range_succ, List.map_append, List.flatten_append, Z5w l k, Nat.mul_succ, List.take_add]
    simp [secOf]
theorem secs_all {l : List UInt8} {k : Nat} (h : l.length = 16 * k) : ((List.range k).map (secOf l)).flatten = l := by
  rw [Z5w, ← h, List.take_length]
theorem Z55 (S : List Sec) (c : Nat) : pgS S c = ((List.range 16).map fun j => sc S (16 * c + j)).flatten := by
  unfold pgS readL
  congr 1
/-- Behind a flush. -/
theorem pg_new {S : List Sec} {F : Int → Option Nd} {td : List Int} {c : Nat} {nd : Nd} (hl : 16 * c + 16 ≤ S.length) (hc : (c : Int) ∈ td) (hF : F c = some nd) (hp : (pgB nd).length = 256) : pgS (nowL S (wrF F noL td)) c = pgB nd := by
  rw [Z55]
  have e : (List.range 16).map (fun j => sc (nowL S (wrF F noL td)) (16 * c + j)) = (List.range 16).map (secOf (pgB nd)) := List.map_congr_left (fun j hj => by
    have hj := List.mem_range.1 hj
    rw [Z4a (by omega)]
    unfold nowAt
    rw [wrF_in hc hF hj]
    rfl)
  rw [e, secs_all (by omega)]
theorem pg_old {S : List Sec} {F : Int → Option Nd} {td : List Int} {c : Nat} (hl : 16 * c + 16 ≤ S.length) (hc : (c : Int) ∉ td) : pgS (nowL S (wrF F noL td)) c = pgS S c := by
  rw [Z55, Z55]
  congr 1
  exact List.map_congr_left (fun j hj => by
    have hj := List.mem_range.1 hj
    rw [Z4a (by omega)]
    unfold nowAt
    rw [Z86 hc hj]
    rfl)
theorem hd_old {S : List Sec} {F : Int → Option Nd} {td : List Int} {o : Nat} (hl : o < S.length) (ho : o < 16) (htd : ∀ c ∈ td, 1 ≤ c) : sc (nowL S (wrF F noL td)) o = sc S o := by
  have h0 : ((0 : Nat) : Int) ∉ td := fun h => by have := htd _ h; omega
  have := Z86 (F := F) (L := noL) h0 ho
  rw [Nat.mul_zero, Nat.zero_add] at this
  rw [Z4a hl]
  unfold nowAt
  rw [this]
  rfl
/-- A head's write. -/
theorem hd_wr {S : List Sec} {l : List UInt8} {o : Nat} (hl : o < S.length) (hb : l.length = 16) : sc (nowL S (wrS l o noL 1)) o = l := by
  rw [Z4a hl]
  unfold nowAt
  rw [Z48, if_pos (by omega)]
  show secOf l ((o : Int) - o).toNat = l
  rw [Int.sub_self]
  unfold secOf
  show (l.drop (16 * 0)).take 16 = l
  rw [Nat.mul_zero, List.drop_zero, List.take_of_length_le (by omega)]
theorem hd_else {S : List Sec} {l : List UInt8} {o i : Nat} (hl : i < S.length) (hi : i ≠ o) : sc (nowL S (wrS l o noL 1)) i = sc S i := by
  rw [Z4a hl]
  unfold nowAt
  rw [Z48, if_neg (by omega)]
  rfl
theorem pg_hd {S : List Sec} {l : List UInt8} {o c : Nat} (hl : 16 * c + 16 ≤ S.length) (ho : o < 16) (hc : 1 ≤ c) : pgS (nowL S (wrS l o noL 1)) c = pgS S c := by
  rw [Z55, Z55]
  congr 1
  exact List.map_congr_left (fun j hj => by
    have hj := List.mem_range.1 hj
    exact hd_else (by omega) (by omega))
/-- What a commit leaves. -/
def cmS (S : List Sec) (F : Int → Option Nd) (td : List Int) (o : Nat) (hb : List UInt8) : List Sec := nowL (nowL S (wrF F noL td)) (wrS hb o noL 1)
section
variable {S : List Sec} {F : Int → Option Nd} {td : List Int} {o c : Nat} {hb : List UInt8} {nd : Nd}
theorem cm_new (hl : 16 * c + 16 ≤ S.length) (ho : o < 16) (hc1 : 1 ≤ c) (hc : (c : Int) ∈ td) (hF : F c = some nd) (hp : (pgB nd).length = 256) : pgS (cmS S F td o hb) c = pgB nd := by
  unfold cmS
  rw [pg_hd (by rw [Z2f]; exact hl) ho hc1, pg_new hl hc hF hp]
theorem cm_old (hl : 16 * c + 16 ≤ S.length) (ho : o < 16) (hc1 : 1 ≤ c) (hc : (c : Int) ∉ td) : pgS (cmS S F td o hb) c = pgS S c := by
  unfold cmS
  rw [pg_hd (by rw [Z2f]; exact hl) ho hc1, pg_old hl hc]
theorem cm_hd (hl : o < S.length) (hb16 : hb.length = 16) : sc (cmS S F td o hb) o = hb := by
  unfold cmS
  exact hd_wr (by rw [Z2f]; exact hl) hb16
theorem cm_other {i : Nat} (hl : i < S.length) (hi : i < 16) (hio : i ≠ o) (htd : ∀ c ∈ td, 1 ≤ c) : sc (cmS S F td o hb) i = sc S i := by
  unfold cmS
  rw [hd_else (by rw [Z2f]; exact hl) hio, hd_old hl hi htd]
end
theorem heads_read {n : Nat} {S : List Sec} (h : DOk n S noL) (hn : 2 ≤ n) : readL S noL 0 2 = sc S 0 ++ sc S 1 ∧ (sc S 0).length = 16 ∧ (sc S 1).length = 16 := by
  have hl := h.len
  have e0 : sc S 0 = S[0] := by unfold sc; rw [List.getD, List.getElem?_eq_getElem (by omega)]; rfl
  have e1 : sc S 1 = S[1] := by unfold sc; rw [List.getD, List.getElem?_eq_getElem (by omega)]; rfl
  refine ⟨?_, by rw [e0]; exact h.sz _ (List.getElem_mem _), by rw [e1]; exact h.sz _ (List.getElem_mem _)⟩
  rw [Z2s, Z2s]
  show [] ++ nowAt S noL ((0 + 0 : Nat) : Int) ++ nowAt S noL ((0 + 1 : Nat) : Int) = _
  rw [nowAt_no, nowAt_no]
  rfl
theorem Z6a (h : Hd) (ok : h.Ok) : hdRead (hdB h) = ⟨true, h.g.toNat, h.r, h.a, h.b, h.c⟩ := by
  obtain ⟨g, r, a, b, c⟩ := h
  obtain ⟨h1, h2, h3, h4, h5, h6, h7, h8, h9, h10⟩ := ok
  simp only at h1 h2 h3 h4 h5 h6 h7 h8 h9 h10
  obtain ⟨g, rfl⟩ := Int.eq_ofNat_of_zero_le (show 0 ≤ g by omega)
  obtain ⟨r, rfl⟩ := Int.eq_ofNat_of_zero_le h7
  obtain ⟨a, rfl⟩ := Int.eq_ofNat_of_zero_le (show 0 ≤ a by omega)
  obtain ⟨b, rfl⟩ := Int.eq_ofNat_of_zero_le (show 0 ≤ b by omega)
  obtain ⟨c, rfl⟩ := Int.eq_ofNat_of_zero_le (show 0 ≤ c by omega)
  exact hdRead_seal g r a b c ⟨h1, h2, h3, h4, h5, h6, h7, h8, h9, h10⟩
theorem hdRead_zero : hdRead zsec = .none := by
  unfold hdRead
  rw [if_neg]
  rintro ⟨_, h, _⟩
  have hg : hG zsec = 0 := by kernel_rfl
  have h5 := h.2.2.2.2.1
  rw [hg] at h5
  exact absurd h5 (by decide)
theorem hd_of (h : Hd) (ok : h.Ok) : (HeadR.hd ⟨true, h.g.toNat, h.r, h.a, h.b, h.c⟩) = h := by
  unfold HeadR.hd
  have : 0 ≤ h.g := by have := ok.2.2.2.2.1; omega
  obtain ⟨g, r, a, b, c⟩ := h
  simp only at this ⊢
  rw [Int.toNat_of_nonneg this]
/-- The newest of two heads. -/
theorem newL_app {a b : List UInt8} (ha : a.length = 16) : newL (a ++ b) = newest (hdRead a) (hdRead b) := by
  unfold newL
  rw [List.take_append_of_le_length (by omega), List.take_of_length_le (by omega), List.drop_append, List.drop_eq_nil_of_le (by omega), ha, Nat.sub_self, List.nil_append, List.drop_zero]
theorem newest_fst {h : Hd} (ok : h.Ok) {y : HeadR} (hy : y.ok = false ∨ y.g ≤ h.g.toNat) : newest ⟨true, h.g.toNat, h.r, h.a, h.b, h.c⟩ y = (⟨true, h.g.toNat, h.r, h.a, h.b, h.c⟩, 0) := by
  unfold newest
  rw [if_pos ⟨rfl, hy⟩]
theorem newest_snd {h : Hd} (ok : h.Ok) {x : HeadR} (hx : x.ok = false ∨ x.g < h.g.toNat) : newest x ⟨true, h.g.toNat, h.r, h.a, h.b, h.c⟩ = (⟨true, h.g.toNat, h.r, h.a, h.b, h.c⟩, 1) := by
  unfold newest
  rw [if_neg, if_pos rfl]
  rintro ⟨h1, h2 | h2⟩
  · cases h2
  · rcases hx with hx | hx
    · rw [h1] at hx; cases hx
    · exact absurd h2 (by simp only; omega)
end Go.Proofs.YtakkhglbdljfiaaGreatDoor
