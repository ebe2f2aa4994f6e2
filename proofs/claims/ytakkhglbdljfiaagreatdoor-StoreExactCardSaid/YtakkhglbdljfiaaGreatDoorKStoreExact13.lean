/- store: pages, made, Head, Pages, has, isFree, Free, Fresh (printed by XStB.gen.py). -/
import Derived.Test.YtakkhglbdljfiaaGreatDoorKStoreExact12
namespace Go.Proofs.YtakkhglbdljfiaaGreatDoor
attribute [local simp] BigFrame.eval_const BigFrame.eval_global BigFrame.eval_func
set_option linter.unusedVariables false
set_option linter.unusedSimpArgs false
open Go.RowKit Go.Maps

theorem OwnT.mapUp {H : Nat} {A w : World} {R : List Thing} {b k n : Nat} {m : Int → Option Value} (O : OwnT H A (tMap b k m :: R) w) (hk : k ≤ n) : OwnT H A (tMap b n m :: R) w :=
 O.call (F := []) (Chg.refl [] w) (by simp) (tMap b n m) (VM.mono (O.all.1 : VM w b k m) hk) (fun i hi => .inl hi)
theorem Z6l {p mb n cap bm : Nat} {B : Option Addr} {S : List Sec} {L : Int → Option Sec} (W0 : World) (hd : DiscR p mb B n cap bm S L W0) : Calls Tryz.prog 43 #[.pointer (some ⟨p, 0, none⟩)] W0 fun e w' => e = .returned (.int .i64 (pgs n : Nat)) ∧ W0 = w' := by
 have hn := hd.ok.le
 refine Z0c Tryz.func43 rfl 7 rfl (by rfl) ?_
 intro a1 k hargs; have e0 : a1.eval (.tmp 0) = .pointer (some ⟨p, 0, none⟩) := hargs 0 _ rfl
 clear hargs; refine wp_seq ?_; refine wp_region_lit ?_
 have hE := Env.refl a1 [2]; refine sd 2 hE k (Z01 rfl rfl) ?_; intro a2 hE e2 kp; refine wpList_nil ?_; replace e0 := hE.g e0; replace k := k.env hE; clear hE e2; refine Z00 (wp_seq ?_); refine wp_region_lit ?_
 have hE := Env.refl a2 [3, 4, 5, 6, 2]; refine zm 3 hE k e0 ?_; intro a3 hE e3 kp; apply Z06 4 hE k rfl (by rfl) (by rfl) rfl
 case h =>
  simp [go_sem, ↓IntWalk.iteOmega, ev e3]
  with_reducible exact ⟨rfl, rfl⟩
 case hc => exact dlen_any _ hd
 rintro e _ ⟨rfl, rfl⟩
 refine ⟨_, rfl, ?_⟩
 intro a4 hE e4 kp; refine sd 5 hE k (x_quoN (m := n) (j := 16) rfl e4 rfl rfl (by decide) (by omega)) ?_; intro a5 hE e5 kp; refine sd 6 hE k (x_min rfl e5 rfl) ?_; intro a6 hE e6 kp; replace e6 := e6.trans (Z10 (show min ((n / 16 : Nat) : Int) 512 = ((pgs n : Nat) : Int) by unfold pgs; omega))
 refine sd 2 hE k (Z01 rfl e6) ?_; intro a7 hE e2 kp; refine wpList_nil ?_; replace k := k.env hE; clear hE e0; refine Z00 ?_; refine wp_ret ?_
 refine Z0k rfl k e2 ?_
 exact ⟨rfl, rfl⟩
set_option maxRecDepth 100000 in
set_option maxHeartbeats 4000000 in
theorem Z78 {H : Nat} {A0 : World} {R : List Thing} {p : Nat} (h : Hd) (at_ : Int) (w : World) (O : OwnT H A0 R w) : Calls Tryz.prog 46 #[.pointer (some ⟨p, 0, none⟩), h.v, .int .i64 at_] w fun e w' => ∃ sb kb fb, e = .returned (.pointer (some ⟨sb, 0, none⟩)) ∧ OwnT H A0 (stL sb p h at_ kb fb (fun _ => false) (fun _ => none) [] [] R) w' := by
 refine Z0c Tryz.func46 rfl 14 rfl (by rfl) ?_
 intro a1 k hargs; have e0 : a1.eval (.tmp 0) = .pointer (some ⟨p, 0, none⟩) := hargs 0 _ rfl
 have e1 : a1.eval (.tmp 1) = .agg #[.int .u64 h.g, .int .i64 h.r, .int .i64 h.a, .int .i64 h.b, .int .i64 h.c] := hargs 1 _ rfl
 have e2 : a1.eval (.tmp 2) = .int .i64 at_ := hargs 2 _ rfl
 clear hargs; refine wp_seq ?_; refine wp_region_lit ?_
 have hE := Env.refl a1 [4, 6]; refine Z0v O (cs := #[.int .u64 h.g, .int .i64 h.r, .int .i64 h.a, .int .i64 h.b, .int .i64 h.c]) (t := 39) 4 hE k rfl (by rfl) (by rfl) rfl (by simp [go_sem, ↓IntWalk.iteOmega, ev (hE.g e1)]) ?_
 clear O; intro hb a2 w3 O hE e4 kp; refine sd 6 hE k (Z01 rfl rfl) ?_; intro a4 hE e6 kp; replace e4 := kt kp e4; refine wpList_nil ?_; replace e0 := hE.g e0; replace e2 := hE.g e2; replace k := k.env hE; clear hE e1 e6; refine Z00 (wp_seq ?_); refine wp_region_lit ?_
 have hE := Env.refl a4 [7, 8, 9, 10, 11, 12, 13, 6]; refine zm 7 hE k e0 ?_; intro a5 hE e7 kp; refine sd 8 hE k (Z1n O 0 rfl rfl (hE.g e4) [.int .u64 h.g, .int .i64 h.r, .int .i64 h.a, .int .i64 h.b, .int .i64 h.c] rfl Tryz.underlying39 rfl (by kernel_rfl)) ?_; intro a6 hE e8 kp; replace e7 := kt kp e7; refine zm 9 hE k e2 ?_; intro a7 hE e9 kp; replace e7 := kt kp e7; replace e8 := kt kp e8; refine sq_map O 10 hE k rfl (by rfl) (by rfl) rfl (by simp [go_sem, ↓IntWalk.iteOmega, @run_makeMap Tryz.prog]) ?_
 clear O; intro kb a8 w9 O hE e10 kp; replace e7 := kt kp e7; replace e8 := kt kp e8; replace e9 := kt kp e9; refine sq_map O 11 hE k rfl (by rfl) (by rfl) rfl (by simp [go_sem, ↓IntWalk.iteOmega, @run_makeMap Tryz.prog]) ?_
 clear O; intro fb a10 w11 O hE e11 kp; replace e7 := kt kp e7; replace e8 := kt kp e8; replace e9 := kt kp e9; replace e10 := kt kp e10; apply Z03 12 hE k rfl rfl rfl rfl; case h =>
  simp [go_sem, ↓IntWalk.iteOmega, ev e7, ev e8, ev e9, ev e10, ev e11]
  with_reducible rfl
 intro a12 hE e12 kp; refine Z0v O (cs := #[.pointer (some ⟨p, 0, none⟩), .int .u64 h.g, .int .i64 h.r, .int .i64 h.a, .int .i64 h.b, .int .i64 h.c, .int .i64 at_, .map (some kb), .map (some fb)]) (t := 102) 13 hE k rfl (by rfl) (by rfl) rfl (by simp [go_sem, ↓IntWalk.iteOmega, ev e12]) ?_
 clear O; intro sb a13 w14 O hE e13 kp; refine sd 6 hE k (Z01 rfl e13) ?_; intro a15 hE e6 kp; refine wpList_nil ?_; replace k := k.env hE; clear hE e0 e2 e4; refine Z00 ?_; refine wp_ret ?_
 have O2 := OwnT.pickR (L := [_, _, _, _]) (R := R) O [2, 1, 0] (by decide)
 have O3 := OwnT.mapUp (n := 512) O2 (Nat.zero_le _)
 have O4 := OwnT.mapUp (n := 512) (OwnT.pickR (L := [_, _, _]) (R := R) O3 [1, 2, 0] (by decide)) (Nat.zero_le _)
 have O5 := pool_nil O4
 have O6 := OwnT.pickR (L := [_, _, _, _]) (R := R) O5 [2, 3, 1, 0] (by decide)
 refine Z0k rfl k e6 ?_
 exact ⟨sb, kb, fb, rfl, O6⟩
theorem Z52 {sb p kb fb : Nat} {h : Hd} {at_ : Int} {K : Int → Bool} {m : Int → Option Value} (W0 : World) (hs : StR sb p h at_ kb fb K m W0) : Calls Tryz.prog 26 #[.pointer (some ⟨sb, 0, none⟩)] W0 fun e w' => e = .returned h.v ∧ Ext W0 w' := by
 have O := OwnT.start W0
 refine Z0c Tryz.func26 rfl 10 rfl (by rfl) ?_
 intro a1 k hargs; have e0 : a1.eval (.tmp 0) = .pointer (some ⟨sb, 0, none⟩) := hargs 0 _ rfl
 clear hargs; refine wp_seq ?_; refine wp_region_lit ?_
 have hE := Env.refl a1 [2]; refine Z0v O (cs := #[.int .u64 0, .int .i64 0, .int .i64 0, .int .i64 0, .int .i64 0]) (t := 39) 2 hE k rfl (by rfl) (by rfl) rfl (by simp [go_sem, ↓IntWalk.iteOmega]) ?_
 clear O; intro rb a2 w3 O hE e2 kp; refine wpList_nil ?_; replace e0 := hE.g e0; replace k := k.env hE; clear hE; refine Z00 (wp_seq ?_); refine wp_seq ?_; refine wp_region_lit ?_
 have hE := Env.refl a2 [3, 4]; refine zm 3 hE k e0 ?_; intro a4 hE e3 kp; apply Z03 4 hE k rfl rfl rfl rfl; case h =>
  simp [go_sem, ↓IntWalk.iteOmega, ev e3]
  with_reducible rfl
 intro a5 hE e4 kp; refine wpList_nil ?_; replace e0 := hE.g e0; replace e2 := hE.g e2; replace k := k.env hE; clear hE; refine Z00 ?_; refine Z07 e4 rfl ?_
 refine wp_skip ?_; refine Z00 ?_; have hb := (hs.ext O.below).blk
 have c1 : w3.cell? ⟨sb, 1, none⟩ = some (.int .u64 h.g) := hb.cell 1
 have c2 : w3.cell? ⟨sb, 2, none⟩ = some (.int .i64 h.r) := hb.cell 2
 have c3 : w3.cell? ⟨sb, 3, none⟩ = some (.int .i64 h.a) := hb.cell 3
 have c4 : w3.cell? ⟨sb, 4, none⟩ = some (.int .i64 h.b) := hb.cell 4
 have c5 : w3.cell? ⟨sb, 5, none⟩ = some (.int .i64 h.c) := hb.cell 5
 refine wp_seq ?_; refine wp_region_lit ?_
 have hE := Env.refl a5 [6, 7, 8, 9]; refine zm 6 hE k e0 ?_; intro a6 hE e6 kp; refine sd 7 hE k (Z0d rfl e6) ?_; intro a7 hE e7 kp; apply Z03 8 hE k rfl rfl rfl rfl; case h =>
  simp [go_sem, ↓IntWalk.iteOmega, ev e7]
  with_reducible rfl
 intro a8 hE e8 kp; apply Z03 9 hE k rfl rfl rfl rfl; case h =>
  simp [go_sem, ↓IntWalk.iteOmega, ev e8, c1, c2, c3, c4, c5]
  with_reducible rfl
 intro a9 hE e9 kp; refine Z1b O 0 0 hE (hE.g e2) e9 ?_
 clear O; intro w10 O; replace O : OwnT _ _ ((tBlk rb 39 #[.int .u64 h.g, .int .i64 h.r, .int .i64 h.a, .int .i64 h.b, .int .i64 h.c]) :: _) w10 := O
 refine wpList_nil ?_; replace e2 := hE.g e2; replace k := k.env hE; clear hE e0 e4 e9; refine Z00 ?_; refine wp_ret ?_
 have q0 : w10.cell? ⟨rb, 0, none⟩ = some (.int .u64 h.g) := (OwnT.blk O 0 rfl).cell 0
 have q1 : w10.cell? ⟨rb, 1, none⟩ = some (.int .i64 h.r) := (OwnT.blk O 0 rfl).cell 1
 have q2 : w10.cell? ⟨rb, 2, none⟩ = some (.int .i64 h.a) := (OwnT.blk O 0 rfl).cell 2
 have q3 : w10.cell? ⟨rb, 3, none⟩ = some (.int .i64 h.b) := (OwnT.blk O 0 rfl).cell 3
 have q4 : w10.cell? ⟨rb, 4, none⟩ = some (.int .i64 h.c) := (OwnT.blk O 0 rfl).cell 4
 refine Z6r rfl k e2 (v := .agg #[.int .u64 h.g, .int .i64 h.r, .int .i64 h.a, .int .i64 h.b, .int .i64 h.c]) (by simp [go_sem, ↓IntWalk.iteOmega, q0, q1, q2, q3, q4]) ?_
 exact ⟨rfl, O.below⟩
theorem Z1p {sb p kb fb mb n cap bm : Nat} {B : Option Addr} {S : List Sec} {L : Int → Option Sec} {h : Hd} {at_ : Int} {K : Int → Bool} {m : Int → Option Value} (W0 : World) (hs : StR sb p h at_ kb fb K m W0) (hd : DiscR p mb B n cap bm S L W0) : Calls Tryz.prog 27 #[.pointer (some ⟨sb, 0, none⟩)] W0 fun e w' => e = .returned (.int .i64 (pgs n : Nat)) ∧ W0 = w' := by
 have c0 : W0.cell? ⟨sb, 0, none⟩ = some (.pointer (some ⟨p, 0, none⟩)) := hs.blk.cell 0
 refine Z0c Tryz.func27 rfl 10 rfl (by rfl) ?_
 intro a1 k hargs; have e0 : a1.eval (.tmp 0) = .pointer (some ⟨sb, 0, none⟩) := hargs 0 _ rfl
 clear hargs; refine wp_seq ?_; refine wp_region_lit ?_
 have hE := Env.refl a1 [2]; refine sd 2 hE k (Z01 rfl rfl) ?_; intro a2 hE e2 kp; refine wpList_nil ?_; replace e0 := hE.g e0; replace k := k.env hE; clear hE e2; refine Z00 (wp_seq ?_); refine wp_seq ?_; refine wp_region_lit ?_
 have hE := Env.refl a2 [3, 4]; refine zm 3 hE k e0 ?_; intro a3 hE e3 kp; apply Z03 4 hE k rfl rfl rfl rfl; case h =>
  simp [go_sem, ↓IntWalk.iteOmega, ev e3]
  with_reducible rfl
 intro a4 hE e4 kp; refine wpList_nil ?_; replace e0 := hE.g e0; replace k := k.env hE; clear hE; refine Z00 ?_; refine Z07 e4 rfl ?_
 refine wp_skip ?_; refine Z00 (wp_seq ?_); refine wp_region_lit ?_
 have hE := Env.refl a4 [5, 6, 7, 8, 9, 2]; refine zm 5 hE k e0 ?_; intro a5 hE e5 kp; refine sd 6 hE k (Z0d rfl e5) ?_; intro a6 hE e6 kp; apply Z03 7 hE k rfl rfl rfl rfl; case h =>
  simp [go_sem, ↓IntWalk.iteOmega, ev e6]
  with_reducible rfl
 intro a7 hE e7 kp; apply Z03 8 hE k rfl rfl rfl rfl; case h =>
  simp [go_sem, ↓IntWalk.iteOmega, ev e7, c0]
  with_reducible rfl
 intro a8 hE e8 kp; apply Z06 9 hE k rfl (by rfl) (by rfl) rfl
 case h =>
  simp [go_sem, ↓IntWalk.iteOmega, ev e8]
  with_reducible exact ⟨rfl, rfl⟩
 case hc => exact Z6l _ hd
 rintro e _ ⟨rfl, rfl⟩
 refine ⟨_, rfl, ?_⟩
 intro a9 hE e9 kp; refine sd 2 hE k (Z01 rfl e9) ?_; intro a10 hE e2 kp; refine wpList_nil ?_; replace k := k.env hE; clear hE e0 e4; refine Z00 ?_; refine wp_ret ?_
 refine Z0k rfl k e2 ?_
 exact ⟨rfl, rfl⟩
theorem Z24 {sb p kb fb mb n cap bm : Nat} {B : Option Addr} {S : List Sec} {L : Int → Option Sec} {h : Hd} {at_ : Int} {K : Int → Bool} {m : Int → Option Value} (x : Int) (W0 : World) (hs : StR sb p h at_ kb fb K m W0) (hd : DiscR p mb B n cap bm S L W0) : Calls Tryz.prog 57 #[.pointer (some ⟨sb, 0, none⟩), .int .i64 x] W0 fun e w' => e = .returned (.bool (decide (1 ≤ x ∧ x < (pgs n : Nat)))) ∧ W0 = w' := by
 refine Z0c Tryz.func57 rfl 13 rfl (by rfl) ?_
 intro a1 k hargs; have e0 : a1.eval (.tmp 0) = .pointer (some ⟨sb, 0, none⟩) := hargs 0 _ rfl
 have e1 : a1.eval (.tmp 1) = .int .i64 x := hargs 1 _ rfl
 clear hargs; by_cases h1 : 1 ≤ x
 rotate_left
 · skip
   refine wp_seq ?_; refine wp_region_lit ?_
   have hE := Env.refl a1 [4]; refine sd 4 hE k (Z01 rfl rfl) ?_; intro a2 hE e4 kp; refine wpList_nil ?_; replace e0 := hE.g e0; replace e1 := hE.g e1; replace k := k.env hE; clear hE e4; refine Z00 (wp_seq ?_); refine wp_region_lit ?_
   have hE := Env.refl a2 [5, 6, 7, 8, 9, 10, 11, 12, 4]; refine zm 5 hE k e1 ?_; intro a3 hE e5 kp; refine sd 6 hE k (Z08 (Z1l rfl e5 rfl) (decide_eq_false (by omega))) ?_
   intro a4 hE e6 kp; refine sd 7 hE k (Z02 rfl e6) ?_; intro a5 hE e7 kp; refine Z05 8 hE k rfl (by rfl) (by rfl) rfl rfl (.inl e7) ?_
   intro a6 hE e8 kp; replace e7 := kt kp e7; refine Z05 9 hE k rfl (by rfl) (by rfl) rfl rfl (.inl e7) ?_
   intro a7 hE e9 kp; replace e7 := kt kp e7; replace e8 := kt kp e8; refine Z05 10 hE k rfl (by rfl) (by rfl) rfl rfl (.inl e7) ?_
   intro a8 hE e10 kp; replace e7 := kt kp e7; replace e8 := kt kp e8; refine Z05 11 hE k rfl (by rfl) (by rfl) rfl rfl (.inl e7) ?_
   intro a9 hE e11 kp; replace e7 := kt kp e7; refine sd 12 hE k (Z09 rfl e7 rfl) ?_; intro a10 hE e12 kp; refine sd 4 hE k (Z01 rfl e12) ?_; intro a11 hE e4 kp; refine wpList_nil ?_; replace k := k.env hE; clear hE e0 e1; refine Z00 ?_; refine wp_ret ?_
   refine Z0k rfl k e4 ?_
   exact ⟨congrArg (fun b => Ending.returned (.bool b)) (decide_eq_false (fun h => h1 h.1)).symm, rfl⟩
 by_cases h2 : x < (pgs n : Nat)
 rotate_left
 · skip
   refine wp_seq ?_; refine wp_region_lit ?_
   have hE := Env.refl a1 [4]; refine sd 4 hE k (Z01 rfl rfl) ?_; intro a12 hE e4 kp; refine wpList_nil ?_; replace e0 := hE.g e0; replace e1 := hE.g e1; replace k := k.env hE; clear hE e4; refine Z00 (wp_seq ?_); refine wp_region_lit ?_
   have hE := Env.refl a12 [5, 6, 7, 8, 9, 10, 11, 12, 4]; refine zm 5 hE k e1 ?_; intro a13 hE e5 kp; refine sd 6 hE k (Z08 (Z1l rfl e5 rfl) (decide_eq_true (by omega))) ?_
   intro a14 hE e6 kp; refine sd 7 hE k (Z02 rfl e6) ?_; intro a15 hE e7 kp; apply Z04 8 hE k rfl rfl rfl rfl rfl e7
   case h =>
    exact Z02 rfl (hE.g e1)
   intro a16 hE e8 kp; replace e7 := kt kp e7; apply Z04 9 hE k rfl rfl rfl rfl rfl e7
   case h =>
    exact Z02 rfl (hE.g e0)
   intro a17 hE e9 kp; replace e7 := kt kp e7; replace e8 := kt kp e8; apply Z1r 10 hE k rfl (by rfl) (by rfl) rfl rfl e7
   case h =>
    simp [go_sem, ↓IntWalk.iteOmega, ev e9]
    with_reducible exact ⟨rfl, rfl⟩
   case hc => exact Z1p _ hs hd
   rintro e _ ⟨rfl, rfl⟩
   refine ⟨_, rfl, ?_⟩
   intro a18 hE e10 kp; replace e7 := kt kp e7; replace e8 := kt kp e8; apply Z04 11 hE k rfl rfl rfl rfl rfl e7
   case h =>
    exact Z08 (Z0z rfl e8 e10) (decide_eq_false (by omega))
   intro a19 hE e11 kp; replace e7 := kt kp e7; refine sd 12 hE k (Z0b rfl e7 e11) ?_; intro a20 hE e12 kp; refine sd 4 hE k (Z01 rfl e12) ?_; intro a21 hE e4 kp; refine wpList_nil ?_; replace k := k.env hE; clear hE e0 e1; refine Z00 ?_; refine wp_ret ?_
   refine Z0k rfl k e4 ?_
   exact ⟨congrArg (fun b => Ending.returned (.bool b)) (decide_eq_false (fun h => h2 h.2)).symm, rfl⟩
 refine wp_seq ?_; refine wp_region_lit ?_
 have hE := Env.refl a1 [4]; refine sd 4 hE k (Z01 rfl rfl) ?_; intro a22 hE e4 kp; refine wpList_nil ?_; replace e0 := hE.g e0; replace e1 := hE.g e1; replace k := k.env hE; clear hE e4; refine Z00 (wp_seq ?_); refine wp_region_lit ?_
 have hE := Env.refl a22 [5, 6, 7, 8, 9, 10, 11, 12, 4]; refine zm 5 hE k e1 ?_; intro a23 hE e5 kp; refine sd 6 hE k (Z08 (Z1l rfl e5 rfl) (decide_eq_true (by omega))) ?_
 intro a24 hE e6 kp; refine sd 7 hE k (Z02 rfl e6) ?_; intro a25 hE e7 kp; apply Z04 8 hE k rfl rfl rfl rfl rfl e7
 case h =>
  exact Z02 rfl (hE.g e1)
 intro a26 hE e8 kp; replace e7 := kt kp e7; apply Z04 9 hE k rfl rfl rfl rfl rfl e7
 case h =>
  exact Z02 rfl (hE.g e0)
 intro a27 hE e9 kp; replace e7 := kt kp e7; replace e8 := kt kp e8; apply Z1r 10 hE k rfl (by rfl) (by rfl) rfl rfl e7
 case h =>
  simp [go_sem, ↓IntWalk.iteOmega, ev e9]
  with_reducible exact ⟨rfl, rfl⟩
 case hc => exact Z1p _ hs hd
 rintro e _ ⟨rfl, rfl⟩
 refine ⟨_, rfl, ?_⟩
 intro a28 hE e10 kp; replace e7 := kt kp e7; replace e8 := kt kp e8; apply Z04 11 hE k rfl rfl rfl rfl rfl e7
 case h =>
  exact Z08 (Z0z rfl e8 e10) (decide_eq_true (by omega))
 intro a29 hE e11 kp; replace e7 := kt kp e7; refine sd 12 hE k (Z0b rfl e7 e11) ?_; intro a30 hE e12 kp; refine sd 4 hE k (Z01 rfl e12) ?_; intro a31 hE e4 kp; refine wpList_nil ?_; replace k := k.env hE; clear hE e0 e1; refine Z00 ?_; refine wp_ret ?_
 refine Z0k rfl k e4 ?_
 exact ⟨congrArg (fun b => Ending.returned (.bool b)) (decide_eq_true ⟨h1, h2⟩).symm, rfl⟩
set_option maxRecDepth 100000 in
set_option maxHeartbeats 4000000 in
theorem Z79 {sb p kb fb : Nat} {h : Hd} {at_ : Int} {K : Int → Bool} {m : Int → Option Value} {F : Int → Option Nd} {vs : List Value} {N : List Nd} {P : Nat} (x : Int) (W0 : World) (hs : StR sb p h at_ kb fb K m W0) (ok : StOk P K F vs N m) (hx : wfV x) : Calls Tryz.prog 49 #[.pointer (some ⟨sb, 0, none⟩), .int .i64 x] W0 fun e w' => e = .returned (.bool (!(F x).isSome && !K x)) ∧ Ext W0 w' := by
 have O := OwnT.start W0
 have c3 : W0.cell? ⟨sb, 7, none⟩ = some (.map (some kb)) := hs.blk.cell 7
 have c4 : W0.cell? ⟨sb, 8, none⟩ = some (.map (some fb)) := hs.blk.cell 8
 refine Z0c Tryz.func49 rfl 27 rfl (by rfl) ?_
 intro a1 k hargs; have e0 : a1.eval (.tmp 0) = .pointer (some ⟨sb, 0, none⟩) := hargs 0 _ rfl
 have e1 : a1.eval (.tmp 1) = .int .i64 x := hargs 1 _ rfl
 clear hargs; cases hF : F x with
 | some nd =>
  obtain ⟨iN, vB, vc, -, -, hm⟩ := ok.fs x nd hF
  refine wp_seq ?_; refine wp_region_lit ?_
  have hE := Env.refl a1 [4]; refine sd 4 hE k (Z01 rfl rfl) ?_; intro a2 hE e4 kp; refine wpList_nil ?_; replace e0 := hE.g e0; replace e1 := hE.g e1; replace k := k.env hE; clear hE e4; refine Z00 (wp_seq ?_); refine wp_region_lit ?_
  have hE := Env.refl a2 [8, 9, 10, 11, 12, 13, 7, 14, 15, 5, 6]; refine zm 8 hE k e0 ?_; intro a3 hE e8 kp; refine sd 9 hE k (Z0d rfl e8) ?_; intro a4 hE e9 kp; apply Z03 10 hE k rfl rfl rfl rfl; case h =>
   simp [go_sem, ↓IntWalk.iteOmega, ev e9]
   with_reducible rfl
  intro a5 hE e10 kp; apply Z03 11 hE k rfl rfl rfl rfl; case h =>
   simp [go_sem, ↓IntWalk.iteOmega, ev e10, c4]
   with_reducible rfl
  intro a6 hE e11 kp; refine zm 12 hE k e1 ?_; intro a7 hE e12 kp; replace e11 := kt kp e11; refine sd 13 hE k (Z74 (v := .tuple #[.agg #[.int .i64 ↑nd.1, .slice vB nd.2.length vc], .bool true]) (Z2j hs.fm rfl Tryz.underlying100 (Z29 _) e11 e12 hx) (by rw [hm]; rfl)) ?_
  intro a8 hE e13 kp; refine sd 7 hE k (Z02 rfl e13) ?_; intro a9 hE e7 kp; apply Z03 14 hE k rfl rfl rfl rfl; case h =>
   simp [go_sem, ↓IntWalk.iteOmega, ev e7]
   with_reducible rfl
  intro a10 hE e14 kp; replace e7 := kt kp e7; apply Z03 15 hE k rfl rfl rfl rfl; case h =>
   simp [go_sem, ↓IntWalk.iteOmega, ev e7]
   with_reducible rfl
  intro a11 hE e15 kp; replace e14 := kt kp e14; refine Z0v O (cs := #[.int .i64 0, .slice none 0 0]) (t := 47) 5 hE k rfl (by rfl) (by rfl) rfl (by simp [go_sem, ↓IntWalk.iteOmega]) ?_
  clear O; intro gl a12 w13 O hE e5 kp; replace e14 := kt kp e14; replace e15 := kt kp e15; refine Z1b O 0 0 hE e5 e14 ?_
  clear O; intro w14 O; replace O : OwnT _ _ ((tBlk gl 47 #[.int .i64 ↑nd.1, .slice vB nd.2.length vc]) :: _) w14 := O
  refine sd 6 hE k (Z01 rfl e15) ?_; intro a15 hE e6 kp; refine wpList_nil ?_; replace e0 := hE.g e0; replace e1 := hE.g e1; replace k := k.env hE; clear hE; refine Z00 (wp_seq ?_); refine wp_region_lit ?_
  have hE := Env.refl a15 [16, 17, 18, 19, 20, 21, 22, 23, 24, 25, 26, 4]; refine zm 16 hE k e6 ?_; intro a16 hE e16 kp; refine sd 17 hE k (Z15 rfl e16) ?_; intro a17 hE e17 kp; refine sd 18 hE k (Z02 rfl e17) ?_; intro a18 hE e18 kp; refine Z05 19 hE k rfl (by rfl) (by rfl) rfl rfl (.inl e18) ?_
  intro a19 hE e19 kp; replace e18 := kt kp e18; refine Z05 20 hE k rfl (by rfl) (by rfl) rfl rfl (.inl e18) ?_
  intro a20 hE e20 kp; replace e18 := kt kp e18; refine Z05 21 hE k rfl (by rfl) (by rfl) rfl rfl (.inl e18) ?_
  intro a21 hE e21 kp; replace e18 := kt kp e18; refine Z05 22 hE k rfl (by rfl) (by rfl) rfl rfl (.inl e18) ?_
  intro a22 hE e22 kp; replace e18 := kt kp e18; refine Z05 23 hE k rfl (by rfl) (by rfl) rfl rfl (.inl e18) ?_
  intro a23 hE e23 kp; replace e18 := kt kp e18; replace e22 := kt kp e22; refine Z05 24 hE k rfl (by rfl) (by rfl) rfl rfl (.inl e18) ?_
  intro a24 hE e24 kp; replace e18 := kt kp e18; refine Z05 25 hE k rfl (by rfl) (by rfl) rfl rfl (.inl e18) ?_
  intro a25 hE e25 kp; replace e18 := kt kp e18; refine sd 26 hE k (Z09 rfl e18 rfl) ?_; intro a26 hE e26 kp; refine sd 4 hE k (Z01 rfl e26) ?_; intro a27 hE e4 kp; refine wpList_nil ?_; replace k := k.env hE; clear hE e0 e1 e6; refine Z00 ?_; refine wp_ret ?_
  refine Z0k rfl k e4 ?_
  exact ⟨by simp only [Option.isSome_some, Bool.not_true, Bool.false_and]; rfl, O.below⟩
 | none =>
  have hm := ok.fm x hF
  refine wp_seq ?_; refine wp_region_lit ?_
  have hE := Env.refl a1 [4]; refine sd 4 hE k (Z01 rfl rfl) ?_; intro a28 hE e4 kp; refine wpList_nil ?_; replace e0 := hE.g e0; replace e1 := hE.g e1; replace k := k.env hE; clear hE e4; refine Z00 (wp_seq ?_); refine wp_region_lit ?_
  have hE := Env.refl a28 [8, 9, 10, 11, 12, 13, 7, 14, 15, 5, 6]; refine zm 8 hE k e0 ?_; intro a29 hE e8 kp; refine sd 9 hE k (Z0d rfl e8) ?_; intro a30 hE e9 kp; apply Z03 10 hE k rfl rfl rfl rfl; case h =>
   simp [go_sem, ↓IntWalk.iteOmega, ev e9]
   with_reducible rfl
  intro a31 hE e10 kp; apply Z03 11 hE k rfl rfl rfl rfl; case h =>
   simp [go_sem, ↓IntWalk.iteOmega, ev e10, c4]
   with_reducible rfl
  intro a32 hE e11 kp; refine zm 12 hE k e1 ?_; intro a33 hE e12 kp; replace e11 := kt kp e11; refine sd 13 hE k (Z74 (v := .tuple #[.agg #[.int .i64 0, .slice none 0 0], .bool false]) (Z2j hs.fm rfl Tryz.underlying100 (Z29 _) e11 e12 hx) (by rw [hm]; rfl)) ?_
  intro a34 hE e13 kp; refine sd 7 hE k (Z02 rfl e13) ?_; intro a35 hE e7 kp; apply Z03 14 hE k rfl rfl rfl rfl; case h =>
   simp [go_sem, ↓IntWalk.iteOmega, ev e7]
   with_reducible rfl
  intro a36 hE e14 kp; replace e7 := kt kp e7; apply Z03 15 hE k rfl rfl rfl rfl; case h =>
   simp [go_sem, ↓IntWalk.iteOmega, ev e7]
   with_reducible rfl
  intro a37 hE e15 kp; replace e14 := kt kp e14; refine Z0v O (cs := #[.int .i64 0, .slice none 0 0]) (t := 47) 5 hE k rfl (by rfl) (by rfl) rfl (by simp [go_sem, ↓IntWalk.iteOmega]) ?_
  clear O; intro gl a38 w39 O hE e5 kp; replace e14 := kt kp e14; replace e15 := kt kp e15; refine Z1b O 0 0 hE e5 e14 ?_
  clear O; intro w40 O; replace O : OwnT _ _ ((tBlk gl 47 #[.int .i64 0, .slice none 0 0]) :: _) w40 := O
  refine sd 6 hE k (Z01 rfl e15) ?_; intro a41 hE e6 kp; refine wpList_nil ?_; replace e0 := hE.g e0; replace e1 := hE.g e1; replace k := k.env hE; clear hE; refine Z00 ?_; have hkm := (hs.ext O.below).km
  have c5 := cellB O.below c3
  have hkg := keptV_get K x
  obtain ⟨kb_, hkx⟩ : ∃ b, K x = b := ⟨_, rfl⟩
  rw [hkx] at hkg
  cases kb_ with
  | true =>
   refine wp_seq ?_; refine wp_region_lit ?_
   have hE := Env.refl a41 [16, 17, 18, 19, 20, 21, 22, 23, 24, 25, 26, 4]; refine zm 16 hE k e6 ?_; intro a42 hE e16 kp; refine sd 17 hE k (Z15 rfl e16) ?_; intro a43 hE e17 kp; refine sd 18 hE k (Z02 rfl e17) ?_; intro a44 hE e18 kp; apply Z04 19 hE k rfl rfl rfl rfl rfl e18
   case h =>
    exact Z02 rfl (hE.g e0)
   intro a45 hE e19 kp; replace e18 := kt kp e18; apply Z04 20 hE k rfl rfl rfl rfl rfl e18
   case h =>
    exact Z0d rfl e19
   intro a46 hE e20 kp; replace e18 := kt kp e18; apply Z04 21 hE k rfl rfl rfl rfl rfl e18
   case h =>
    simp [go_sem, ↓IntWalk.iteOmega, ev e20]
    with_reducible rfl
   intro a47 hE e21 kp; replace e18 := kt kp e18; apply Z04 22 hE k rfl rfl rfl rfl rfl e18
   case h =>
    simp [go_sem, ↓IntWalk.iteOmega, ev e21, c5]
    with_reducible rfl
   intro a48 hE e22 kp; replace e18 := kt kp e18; apply Z04 23 hE k rfl rfl rfl rfl rfl e18
   case h =>
    exact Z02 rfl (hE.g e1)
   intro a49 hE e23 kp; replace e18 := kt kp e18; replace e22 := kt kp e22; apply Z04 24 hE k rfl rfl rfl rfl rfl e18
   case h =>
    exact Z74 (v := .bool true) (x_look hkm rfl Tryz.underlying99 (Z5q _) e22 e23 hx) hkg
   intro a50 hE e24 kp; replace e18 := kt kp e18; apply Z04 25 hE k rfl rfl rfl rfl rfl e18
   case h =>
    exact Z15 rfl e24
   intro a51 hE e25 kp; replace e18 := kt kp e18; refine sd 26 hE k (Z0b rfl e18 e25) ?_; intro a52 hE e26 kp; refine sd 4 hE k (Z01 rfl e26) ?_; intro a53 hE e4 kp; refine wpList_nil ?_; replace k := k.env hE; clear hE e0 e1 e6; refine Z00 ?_; refine wp_ret ?_
   refine Z0k rfl k e4 ?_
   exact ⟨by rw [hkx]; first | done | rfl, O.below⟩
  | false =>
   refine wp_seq ?_; refine wp_region_lit ?_
   have hE := Env.refl a41 [16, 17, 18, 19, 20, 21, 22, 23, 24, 25, 26, 4]; refine zm 16 hE k e6 ?_; intro a54 hE e16 kp; refine sd 17 hE k (Z15 rfl e16) ?_; intro a55 hE e17 kp; refine sd 18 hE k (Z02 rfl e17) ?_; intro a56 hE e18 kp; apply Z04 19 hE k rfl rfl rfl rfl rfl e18
   case h =>
    exact Z02 rfl (hE.g e0)
   intro a57 hE e19 kp; replace e18 := kt kp e18; apply Z04 20 hE k rfl rfl rfl rfl rfl e18
   case h =>
    exact Z0d rfl e19
   intro a58 hE e20 kp; replace e18 := kt kp e18; apply Z04 21 hE k rfl rfl rfl rfl rfl e18
   case h =>
    simp [go_sem, ↓IntWalk.iteOmega, ev e20]
    with_reducible rfl
   intro a59 hE e21 kp; replace e18 := kt kp e18; apply Z04 22 hE k rfl rfl rfl rfl rfl e18
   case h =>
    simp [go_sem, ↓IntWalk.iteOmega, ev e21, c5]
    with_reducible rfl
   intro a60 hE e22 kp; replace e18 := kt kp e18; apply Z04 23 hE k rfl rfl rfl rfl rfl e18
   case h =>
    exact Z02 rfl (hE.g e1)
   intro a61 hE e23 kp; replace e18 := kt kp e18; replace e22 := kt kp e22; apply Z04 24 hE k rfl rfl rfl rfl rfl e18
   case h =>
    exact Z74 (v := .bool false) (x_look hkm rfl Tryz.underlying99 (Z5q _) e22 e23 hx) hkg
   intro a62 hE e24 kp; replace e18 := kt kp e18; apply Z04 25 hE k rfl rfl rfl rfl rfl e18
   case h =>
    exact Z15 rfl e24
   intro a63 hE e25 kp; replace e18 := kt kp e18; refine sd 26 hE k (Z0b rfl e18 e25) ?_; intro a64 hE e26 kp; refine sd 4 hE k (Z01 rfl e26) ?_; intro a65 hE e4 kp; refine wpList_nil ?_; replace k := k.env hE; clear hE e0 e1 e6; refine Z00 ?_; refine wp_ret ?_
   refine Z0k rfl k e4 ?_
   exact ⟨by rw [hkx]; first | done | rfl, O.below⟩
theorem sfresh_any {sb p kb fb : Nat} {h : Hd} {at_ : Int} {K : Int → Bool} {m : Int → Option Value} {F : Int → Option Nd} {vs : List Value} {N : List Nd} {P : Nat} (W0 : World) (hs : StR sb p h at_ kb fb K m W0) (ok : StOk P K F vs N m) : Calls Tryz.prog 29 #[.pointer (some ⟨sb, 0, none⟩)] W0 fun e w' => e = .returned (.int .i64 ((fL P F).length : Nat)) ∧ W0 = w' := by
 have c4 : W0.cell? ⟨sb, 8, none⟩ = some (.map (some fb)) := hs.blk.cell 8
 refine Z0c Tryz.func29 rfl 10 rfl (by rfl) ?_
 intro a1 k hargs; have e0 : a1.eval (.tmp 0) = .pointer (some ⟨sb, 0, none⟩) := hargs 0 _ rfl
 clear hargs; refine wp_seq ?_; refine wp_region_lit ?_
 have hE := Env.refl a1 [2]; refine sd 2 hE k (Z01 rfl rfl) ?_; intro a2 hE e2 kp; refine wpList_nil ?_; replace e0 := hE.g e0; replace k := k.env hE; clear hE e2; refine Z00 (wp_seq ?_); refine wp_seq ?_; refine wp_region_lit ?_
 have hE := Env.refl a2 [3, 4]; refine zm 3 hE k e0 ?_; intro a3 hE e3 kp; apply Z03 4 hE k rfl rfl rfl rfl; case h =>
  simp [go_sem, ↓IntWalk.iteOmega, ev e3]
  with_reducible rfl
 intro a4 hE e4 kp; refine wpList_nil ?_; replace e0 := hE.g e0; replace k := k.env hE; clear hE; refine Z00 ?_; refine Z07 e4 rfl ?_
 refine wp_skip ?_; refine Z00 (wp_seq ?_); refine wp_region_lit ?_
 have hE := Env.refl a4 [5, 6, 7, 8, 9, 2]; refine zm 5 hE k e0 ?_; intro a5 hE e5 kp; refine sd 6 hE k (Z0d rfl e5) ?_; intro a6 hE e6 kp; apply Z03 7 hE k rfl rfl rfl rfl; case h =>
  simp [go_sem, ↓IntWalk.iteOmega, ev e6]
  with_reducible rfl
 intro a7 hE e7 kp; apply Z03 8 hE k rfl rfl rfl rfl; case h =>
  simp [go_sem, ↓IntWalk.iteOmega, ev e7, c4]
  with_reducible rfl
 intro a8 hE e8 kp; refine sd 9 hE k (x_lenM hs.fm rfl e8 Tryz.underlying100 (fL P F) (Z2d _ _) (fL_mem ok)) ?_; intro a9 hE e9 kp; refine sd 2 hE k (Z01 rfl e9) ?_; intro a10 hE e2 kp; refine wpList_nil ?_; replace k := k.env hE; clear hE e0 e4; refine Z00 ?_; refine wp_ret ?_
 refine Z0k rfl k e2 ?_
 exact ⟨rfl, rfl⟩
set_option maxRecDepth 100000 in
set_option maxHeartbeats 4000000 in
theorem Z5x {sb p kb fb mb n cap bm : Nat} {B : Option Addr} {S : List Sec} {L : Int → Option Sec} {h : Hd} {at_ : Int} {K : Int → Bool} {F : Int → Option Nd} {m : Int → Option Value} {vs : List Value} {N : List Nd} {P : Nat} (W0 : World) (hs : StR sb p h at_ kb fb K m W0) (hd : DiscR p mb B n cap bm S L W0) (ok : StOk P K F vs N m) (hP : P = pgs n) : Calls Tryz.prog 28 #[.pointer (some ⟨sb, 0, none⟩)] W0 fun e w' => e = .returned (.int .i64 ((P : Nat) - 1 - ((kL P K).length : Nat) - ((fL P F).length : Nat))) ∧ Ext W0 w' := by
 have O := OwnT.start W0
 have hk1 := Z38 P K
 have hk2 := Z38 P fun i => (F i).isSome
 have hP2 := ok.le
 have c3 : W0.cell? ⟨sb, 7, none⟩ = some (.map (some kb)) := hs.blk.cell 7
 have c4 : W0.cell? ⟨sb, 8, none⟩ = some (.map (some fb)) := hs.blk.cell 8
 refine Z0c Tryz.func28 rfl 20 rfl (by rfl) ?_
 intro a1 k hargs; have e0 : a1.eval (.tmp 0) = .pointer (some ⟨sb, 0, none⟩) := hargs 0 _ rfl
 clear hargs; refine wp_seq ?_; refine wp_region_lit ?_
 have hE := Env.refl a1 [2]; refine sd 2 hE k (Z01 rfl rfl) ?_; intro a2 hE e2 kp; refine wpList_nil ?_; replace e0 := hE.g e0; replace k := k.env hE; clear hE e2; refine Z00 (wp_seq ?_); refine wp_seq ?_; refine wp_region_lit ?_
 have hE := Env.refl a2 [3, 4]; refine zm 3 hE k e0 ?_; intro a3 hE e3 kp; apply Z03 4 hE k rfl rfl rfl rfl; case h =>
  simp [go_sem, ↓IntWalk.iteOmega, ev e3]
  with_reducible rfl
 intro a4 hE e4 kp; refine wpList_nil ?_; replace e0 := hE.g e0; replace k := k.env hE; clear hE; refine Z00 ?_; refine Z07 e4 rfl ?_
 refine wp_skip ?_; refine Z00 (wp_seq ?_); refine Z0l (R := Ext) (w0 := W0) [[], [0], [0, 1], [], [3], [3, 4], [3, 4, 5], [0, 1, 3, 4, 5, 6], rg 8, [], [9], [9, 10], [9, 10, 11], [0, 1, 3, 4, 5, 6, 7, 9, 10, 11, 12], rg 14, rg 15] [5, 6, 7, 8, 9, 10, 11, 12, 13, 14, 15, 16, 17, 18, 19, 2] Ext.refl (fun _ _ _ => Ext.trans) (Ext.drew _) (by kernel_rfl) ?_
 refine bd 5 k rfl rfl rfl (fun ax wx hE hR hF => Z02 rfl (hE.g e0)) ?_
 apply Build.call 6 Ext.refl (by rfl) (by rw [k.size]; rfl) rfl
 case h =>
  intro ax wx hE hR hF; have e5 := zhF hF 0 5 ml0; simp [go_sem, ↓IntWalk.iteOmega, ev e5]
  with_reducible exact ⟨rfl, rfl⟩
 case hc => intro wx hR; exact (Z1p _ (hs.ext hR) (hd.ext hR)).mono (fun e w' h => ⟨h.1.trans (by rw [← hP]), by rw [← h.2]; exact Ext.refl _⟩)
 refine bd 7 k rfl rfl rfl (fun ax wx hE hR hF => have e6 := zhF hF 1 6 ml0; Z80 rfl e6 rfl (by omega)) ?_
 refine bd 8 k rfl rfl rfl (fun ax wx hE hR hF => Z02 rfl (hE.g e0)) ?_
 refine bd 9 k rfl rfl rfl (fun ax wx hE hR hF => have e8 := zhF hF 3 8 ml0; Z0d rfl e8) ?_
 apply bd 10 k rfl rfl rfl; case h =>
  intro ax wx hE hR hF; have e9 := zhF hF 4 9 ml0; simp [go_sem, ↓IntWalk.iteOmega, ev e9]
  with_reducible rfl
 apply bd 11 k rfl rfl rfl; case h =>
  intro ax wx hE hR hF; have e10 := zhF hF 5 10 ml0; simp [go_sem, ↓IntWalk.iteOmega, ev e10, cellB hR c3]
  with_reducible rfl
 refine bd 12 k rfl rfl rfl (fun ax wx hE hR hF => have e11 := zhF hF 6 11 ml0; x_lenM (hs.ext hR).km rfl e11 Tryz.underlying99 (kL P K) (Z2d _ _) (kL_mem ok)) ?_
 refine bd 13 k rfl rfl rfl (fun ax wx hE hR hF => have e7 := zhF hF 2 7 ml5; have e12 := zhF hF 7 12 ml0; Z80 rfl e7 e12 (by unfold kL; omega)) ?_
 refine bd 14 k rfl rfl rfl (fun ax wx hE hR hF => Z02 rfl (hE.g e0)) ?_
 refine bd 15 k rfl rfl rfl (fun ax wx hE hR hF => have e14 := zhF hF 9 14 ml0; Z0d rfl e14) ?_
 apply bd 16 k rfl rfl rfl; case h =>
  intro ax wx hE hR hF; have e15 := zhF hF 10 15 ml0; simp [go_sem, ↓IntWalk.iteOmega, ev e15]
  with_reducible rfl
 apply bd 17 k rfl rfl rfl; case h =>
  intro ax wx hE hR hF; have e16 := zhF hF 11 16 ml0; simp [go_sem, ↓IntWalk.iteOmega, ev e16, cellB hR c4]
  with_reducible rfl
 refine bd 18 k rfl rfl rfl (fun ax wx hE hR hF => have e17 := zhF hF 12 17 ml0; x_lenM (hs.ext hR).fm rfl e17 Tryz.underlying100 (fL P F) (Z2d _ _) (fL_mem ok)) ?_
 refine bd 19 k rfl rfl rfl (fun ax wx hE hR hF => have e13 := zhF hF 8 13 ml5; have e18 := zhF hF 13 18 ml0; Z80 rfl e13 e18 (by unfold kL fL; omega)) ?_
 refine bd 2 k rfl rfl rfl (fun ax wx hE hR hF => have e19 := zhF hF 14 19 ml0; Z01 rfl e19) ?_
 apply Build.stop
 refine ⟨by kernel_rfl, .inl ⟨rfl, ?_⟩⟩
 intro a5 w6 hE R hF; have e2 : a5.eval (.tmp 2) = _ := hF 15 (det 2 _) ml0
 clear hF; replace O := OwnT.ext O R; clear R; replace k := k.env hE; clear hE e0 e4; refine Z00 ?_; refine wp_ret ?_
 refine Z0k rfl k e2 ?_
 exact ⟨rfl, O.below⟩
set_option linter.unusedVariables false
set_option linter.unusedSimpArgs false
open Go.RowKit

theorem Z2m {w : World} {A : Option Addr} {xs : List Int} (h : Row1 w A (Value.int .i64) xs) {i : Nat} {x : Int} (hx : xs[i]? = some x) : ∃ b o, A = some ⟨b, o, none⟩ ∧ ∀ w', Below w.heap.size w w' → w'.cell? ⟨b, o + i, none⟩ = some (.int .i64 x) := by
 obtain ⟨b, o, e, hlt, hc⟩ := h i x hx
 exact ⟨b, o, e, fun w' hb => (hb.cell (p := ⟨b, _, none⟩) hlt).trans hc⟩
theorem x_callI {o : Oper} {ρ : Operand → Value} {x y : Operand} {t : TypeId} {f : FuncId} {lb : Array Value} {u : Value} {w : World} (ho : o.op = .call { callee := .value x, args := #[y], argTypes := #[t] }) (hx : ρ x = .func (.func f) #[] lb) (hy : ρ y = u) (h : (callFunc f (#[u] ++ lb)).run Tryz.prog w = .ok (.enter f (#[u] ++ lb)) w) : (execOp ρ o).run Tryz.prog w = .ok (.enter f (#[u] ++ lb)) w := by
 unfold execOp
 simp only [ho, resolve, hx, Sem.run_bind, Sem.run_pure, Result.andThen_ok, List.map_toArray, List.map_cons, List.map_nil, hy]
 simpa [invoke, go_sem] using h

set_option maxRecDepth 100000 in
set_option maxHeartbeats 4000000 in
theorem idxI_any {A : Option Addr} {ca : Nat} {xs : List Int} (y : Int) (W0 : World) (hrow : Row1 W0 A (Value.int .i64) xs) (hn : xs.length ≤ 1000000000) : Calls Tryz.prog 90 #[.slice A xs.length ca, .int .i64 y] W0 fun e w' => ∃ r : Int, e = .returned (.int .i64 r) ∧ decide (0 ≤ r) = decide (y ∈ xs) ∧ Ext W0 w' := by
 have O := OwnT.start W0
 refine Z0c Tryz.func90 rfl 19 rfl (by rfl) ?_
 intro a1 k hargs; have e0 : a1.eval (.tmp 0) = .slice A xs.length ca := hargs 0 _ rfl
 have e1 : a1.eval (.tmp 1) = .int .i64 y := hargs 1 _ rfl
 clear hargs; refine wp_seq ?_; refine wp_region_lit ?_
 have hE := Env.refl a1 [4]; refine sd 4 hE k (Z01 rfl rfl) ?_; intro a2 hE e4 kp; refine wpList_nil ?_; replace e0 := hE.g e0; replace e1 := hE.g e1; replace k := k.env hE; clear hE e4; refine Z00 (wp_seq ?_); refine wp_seq ?_; refine wp_region_lit ?_
 have hE := Env.refl a2 [6, 7, 8]; refine zm 6 hE k e0 ?_; intro a3 hE e6 kp; refine sd 7 hE k (Z1w Tryz.underlying40 rfl e6) ?_; intro a4 hE e7 kp; refine sd 8 hE k (Z02 rfl rfl) ?_; intro a5 hE e8 kp; replace e7 := kt kp e7; refine wpList_nil ?_; replace e0 := hE.g e0; replace e1 := hE.g e1; replace k := k.env hE; clear hE; refine Z00 ?_; refine wp_block ?_; refine wp_loop (fun a w => Fr 19 a ∧ a.eval (.tmp 0) = .slice A xs.length ca ∧ a.eval (.tmp 1) = .int .i64 y ∧ a.eval (.tmp 7) = .int .i64 ↑xs.length ∧ ∃ z : Nat, a.eval (.tmp 8) = .int .i64 ↑z ∧ z ≤ xs.length ∧ (∀ v ∈ xs.take z, ¬ y = v) ∧ OwnT W0.heap.size W0 [] w) (fun a w => xs.length - (intOf (a.eval (.tmp 8))).toNat) ?_ ?_
 · exact ⟨k, e0, e1, e7, 0, e8, Nat.zero_le _, (fun y h => by simp at h), O⟩
 intro a6 w7 hI; clear k e0 e1 e7; obtain ⟨k, e0, e1, e7, h_⟩ := hI
 clear O e8; obtain ⟨z, e8, hz, hall, O⟩ := h_
 have mz := e8
 by_cases hlt : z < xs.length
 · skip
   have hzI : (z : Int) < (xs.length : Int) := by omega
   obtain ⟨v, hv⟩ : ∃ v, xs[z]? = some v := ⟨_, List.getElem?_eq_getElem hlt⟩
   obtain ⟨b, o, hA, hc⟩ := Z2m hrow hv
   subst hA

   refine wp_seq ?_; refine wp_region_lit ?_
   have hE := Env.refl a6 [9]; refine sd 9 hE k (Z08 (Z0z rfl (hE.g e8) (hE.g e7)) (decide_eq_true (by omega))) ?_
   intro a8 hE e9 kp; refine wpList_nil ?_; replace e0 := hE.g e0; replace e1 := hE.g e1; replace e7 := hE.g e7; replace e8 := hE.g e8; replace k := k.env hE; clear hE; refine Z00 (wp_seq ?_); refine Z0h e9 rfl ?_
   refine wp_skip ?_; refine Z00 (wp_seq ?_); refine wp_block ?_; refine wp_seq ?_; refine wp_region_lit ?_
   have hE := Env.refl a8 [10, 5]; refine zm 10 hE k e8 ?_; intro a9 hE e10 kp; refine sd 5 hE k (Z01 rfl e10) ?_; intro a10 hE e5 kp; refine wpList_nil ?_; replace e0 := hE.g e0; replace e1 := hE.g e1; replace e7 := hE.g e7; replace e8 := hE.g e8; replace k := k.env hE; clear hE e9; refine Z00 ?_; by_cases hyv : y = v
   · skip
     refine wp_seq ?_; refine wp_region_lit ?_
     have hE := Env.refl a10 [11, 12, 13, 14, 15, 16]; refine zm 11 hE k e1 ?_; intro a11 hE e11 kp; refine zm 12 hE k e0 ?_; intro a12 hE e12 kp; replace e11 := kt kp e11; refine zm 13 hE k e5 ?_; intro a13 hE e13 kp; replace e11 := kt kp e11; replace e12 := kt kp e12; apply Z03 14 hE k rfl rfl rfl rfl; case h =>
      simp [go_sem, ↓IntWalk.iteOmega, ev e12, ev e13]
      with_reducible rfl
     intro a14 hE e14 kp; replace e11 := kt kp e11; apply Z03 15 hE k rfl rfl rfl rfl; case h =>
      simp [go_sem, ↓IntWalk.iteOmega, ev e14, hc _ O.below]
      with_reducible rfl
     intro a15 hE e15 kp; replace e11 := kt kp e11; refine sd 16 hE k (Z08 (Z19 rfl e11 e15) (decide_eq_true (by omega))) ?_
     intro a16 hE e16 kp; refine wpList_nil ?_; replace e0 := hE.g e0; replace e1 := hE.g e1; replace e5 := hE.g e5; replace e7 := hE.g e7; replace e8 := hE.g e8; replace k := k.env hE; clear hE; refine Z00 ?_; refine Z0h e16 rfl ?_
     refine wp_seq ?_; refine wp_region_lit ?_
     have hE := Env.refl a16 [17, 4]; refine zm 17 hE k e5 ?_; intro a17 hE e17 kp; refine sd 4 hE k (Z01 rfl e17) ?_; intro a18 hE e4 kp; refine wpList_nil ?_; replace k := k.env hE; clear hE e0 e1 e5 e7 e8 e16; refine Z00 ?_; refine wp_ret ?_
     refine Z12 ?_
     refine Z0m ?_
     refine Z0m ?_
     refine Z12 ?_
     refine Z0m ?_
     refine Z0k rfl k e4 ?_
     exact ⟨_, rfl, by rw [decide_eq_true (by omega)]; exact (decide_eq_true (hyv ▸ List.mem_of_getElem? hv)).symm, O.below⟩
   · skip
     refine wp_seq ?_; refine wp_region_lit ?_
     have hE := Env.refl a10 [11, 12, 13, 14, 15, 16]; refine zm 11 hE k e1 ?_; intro a19 hE e11 kp; refine zm 12 hE k e0 ?_; intro a20 hE e12 kp; replace e11 := kt kp e11; refine zm 13 hE k e5 ?_; intro a21 hE e13 kp; replace e11 := kt kp e11; replace e12 := kt kp e12; apply Z03 14 hE k rfl rfl rfl rfl; case h =>
      simp [go_sem, ↓IntWalk.iteOmega, ev e12, ev e13]
      with_reducible rfl
     intro a22 hE e14 kp; replace e11 := kt kp e11; apply Z03 15 hE k rfl rfl rfl rfl; case h =>
      simp [go_sem, ↓IntWalk.iteOmega, ev e14, hc _ O.below]
      with_reducible rfl
     intro a23 hE e15 kp; replace e11 := kt kp e11; refine sd 16 hE k (Z08 (Z19 rfl e11 e15) (decide_eq_false (by omega))) ?_
     intro a24 hE e16 kp; refine wpList_nil ?_; replace e0 := hE.g e0; replace e1 := hE.g e1; replace e5 := hE.g e5; replace e7 := hE.g e7; replace e8 := hE.g e8; replace k := k.env hE; clear hE; refine Z00 ?_; refine Z07 e16 rfl ?_
     refine wp_skip ?_; refine Z0f ?_; refine Z00 ?_; refine wp_region_lit ?_
     have hE := Env.refl a24 [18, 8]; refine sd 18 hE k (Z1i rfl e8 rfl (by omega)) ?_; intro a25 hE e18 kp; replace e8 := kt kp e8; refine sd 8 hE k (Z02 rfl e18) ?_; intro a26 hE e8 kp; refine wpList_nil ?_; replace e0 := hE.g e0; replace e1 := hE.g e1; replace e7 := hE.g e7; replace k := k.env hE; clear hE e5 e16; refine Z00 ?_; refine ⟨⟨k, e0, e1, e7, z + 1, e8, by omega, fun u hu => ?_, O⟩, ?_⟩
     · rw [List.take_add_one, hv] at hu; rcases List.mem_append.1 hu with hu | hu
       · exact hall u hu
       · simp at hu; rw [hu]; exact hyv
     · rw [e8, mz]; simp only [intOf]; omega
 · skip
   refine wp_seq ?_; refine wp_region_lit ?_
   have hE := Env.refl a6 [9]; refine sd 9 hE k (Z08 (Z0z rfl (hE.g e8) (hE.g e7)) (decide_eq_false (by omega))) ?_
   intro a27 hE e9 kp; refine wpList_nil ?_; replace e0 := hE.g e0; replace e1 := hE.g e1; replace e7 := hE.g e7; replace e8 := hE.g e8; replace k := k.env hE; clear hE; refine Z00 (wp_seq ?_); refine Z07 e9 rfl ?_
   refine wp_exit ?_
   refine Z0p ?_
   refine Z0p ?_
   refine Z11 ?_
   refine Z00 (wp_seq ?_); refine wp_region_lit ?_
   have hE := Env.refl a27 [4]; refine sd 4 hE k (Z01 rfl rfl) ?_; intro a28 hE e4 kp; refine wpList_nil ?_; replace k := k.env hE; clear hE e0 e1 e7 e8 e9; refine Z00 ?_; refine wp_ret ?_
   rw [List.take_of_length_le (by omega)] at hall
   refine Z0k rfl k e4 ?_
   exact ⟨_, rfl, by rw [decide_eq_false (by decide)]; exact (decide_eq_false (fun h => hall y h rfl)).symm, O.below⟩
set_option maxRecDepth 100000 in
set_option maxHeartbeats 4000000 in
theorem Z3l {A : Option Addr} {ca : Nat} {xs : List Int} (y : Int) (W0 : World) (hrow : Row1 W0 A (Value.int .i64) xs) (hn : xs.length ≤ 1000000000) : Calls Tryz.prog 54 #[.slice A xs.length ca, .int .i64 y] W0 fun e w' => e = .returned (.bool (decide (y ∈ xs))) ∧ Ext W0 w' := by
 have O := OwnT.start W0
 refine Z0c Tryz.func54 rfl 9 rfl (by rfl) ?_
 intro a1 k hargs; have e0 : a1.eval (.tmp 0) = .slice A xs.length ca := hargs 0 _ rfl
 have e1 : a1.eval (.tmp 1) = .int .i64 y := hargs 1 _ rfl
 clear hargs; refine wp_seq ?_; refine wp_region_lit ?_
 have hE := Env.refl a1 [4]; refine sd 4 hE k (Z01 rfl rfl) ?_; intro a2 hE e4 kp; refine wpList_nil ?_; replace e0 := hE.g e0; replace e1 := hE.g e1; replace k := k.env hE; clear hE e4; refine Z00 (wp_seq ?_); refine wp_region_lit ?_
 have hE := Env.refl a2 [5, 6, 7, 8, 4]; refine zm 5 hE k e0 ?_; intro a3 hE e5 kp; refine zm 6 hE k e1 ?_; intro a4 hE e6 kp; replace e5 := kt kp e5; apply Z06 7 hE k rfl (by rfl) (by rfl) rfl
 case h =>
  simp [go_sem, ↓IntWalk.iteOmega, ev e5, ev e6]
  with_reducible exact ⟨rfl, rfl⟩
 case hc => exact idxI_any y _ hrow hn
 rintro e w6 ⟨r, rfl, hr, RE⟩
 replace O := OwnT.ext O RE; refine ⟨_, rfl, ?_⟩
 intro a5 hE e7 kp; refine sd 8 hE k (Z1l rfl e7 rfl) ?_; intro a7 hE e8 kp; refine sd 4 hE k (Z01 rfl e8) ?_; intro a8 hE e4 kp; refine wpList_nil ?_; replace k := k.env hE; clear hE e0 e1; refine Z00 ?_; refine wp_ret ?_
 refine Z0k rfl k e4 ?_
 exact ⟨congrArg (fun b => Ending.returned (.bool b)) hr, O.below⟩
set_option maxRecDepth 100000 in
set_option maxHeartbeats 4000000 in
theorem idxfI_any {A : Option Addr} {ca : Nat} {xs : List Int} {f : Nat} {lb : Array Value} (p : Int → Bool) (W0 : World) (hrow : Row1 W0 A (Value.int .i64) xs) (hn : xs.length ≤ 1000000000) (eg : ∀ args w, (callFunc f args).run Tryz.prog w = .ok (.enter f args) w) (hp : ∀ v ∈ xs, ∀ w, Below W0.heap.size W0 w → Calls Tryz.prog f (#[.int .i64 v] ++ lb) w fun e w' => e = .returned (.bool (p v)) ∧ Ext w w') : Calls Tryz.prog 91 #[.slice A xs.length ca, .func (.func f) #[] lb] W0 fun e w' => ∃ r : Int, e = .returned (.int .i64 r) ∧ decide (0 ≤ r) = xs.any p ∧ Ext W0 w' := by
 have O := OwnT.start W0
 refine Z0c Tryz.func91 rfl 19 rfl (by rfl) ?_
 intro a1 k hargs; have e0 : a1.eval (.tmp 0) = .slice A xs.length ca := hargs 0 _ rfl
 have e1 : a1.eval (.tmp 1) = .func (.func f) #[] lb := hargs 1 _ rfl
 clear hargs; refine wp_seq ?_; refine wp_region_lit ?_
 have hE := Env.refl a1 [4]; refine sd 4 hE k (Z01 rfl rfl) ?_; intro a2 hE e4 kp; refine wpList_nil ?_; replace e0 := hE.g e0; replace e1 := hE.g e1; replace k := k.env hE; clear hE e4; refine Z00 (wp_seq ?_); refine wp_seq ?_; refine wp_region_lit ?_
 have hE := Env.refl a2 [6, 7, 8]; refine zm 6 hE k e0 ?_; intro a3 hE e6 kp; refine sd 7 hE k (Z1w Tryz.underlying40 rfl e6) ?_; intro a4 hE e7 kp; refine sd 8 hE k (Z02 rfl rfl) ?_; intro a5 hE e8 kp; replace e7 := kt kp e7; refine wpList_nil ?_; replace e0 := hE.g e0; replace e1 := hE.g e1; replace k := k.env hE; clear hE; refine Z00 ?_; refine wp_block ?_; refine wp_loop (fun a w => Fr 19 a ∧ a.eval (.tmp 0) = .slice A xs.length ca ∧ a.eval (.tmp 1) = .func (.func f) #[] lb ∧ a.eval (.tmp 7) = .int .i64 ↑xs.length ∧ ∃ z : Nat, a.eval (.tmp 8) = .int .i64 ↑z ∧ z ≤ xs.length ∧ (∀ v ∈ xs.take z, p v = false) ∧ OwnT W0.heap.size W0 [] w) (fun a w => xs.length - (intOf (a.eval (.tmp 8))).toNat) ?_ ?_
 · exact ⟨k, e0, e1, e7, 0, e8, Nat.zero_le _, (fun y h => by simp at h), O⟩
 intro a6 w7 hI; clear k e0 e1 e7; obtain ⟨k, e0, e1, e7, h_⟩ := hI
 clear O e8; obtain ⟨z, e8, hz, hall, O⟩ := h_
 have mz := e8
 by_cases hlt : z < xs.length
 · skip
   have hzI : (z : Int) < (xs.length : Int) := by omega
   obtain ⟨v, hv⟩ : ∃ v, xs[z]? = some v := ⟨_, List.getElem?_eq_getElem hlt⟩
   obtain ⟨b, o, hA, hc⟩ := Z2m hrow hv
   subst hA

   have hcall := hp v (List.mem_of_getElem? hv)
   obtain ⟨bb, hbb⟩ : ∃ b, p v = b := ⟨_, rfl⟩
   refine wp_seq ?_; refine wp_region_lit ?_
   have hE := Env.refl a6 [9]; refine sd 9 hE k (Z08 (Z0z rfl (hE.g e8) (hE.g e7)) (decide_eq_true (by omega))) ?_
   intro a8 hE e9 kp; refine wpList_nil ?_; replace e0 := hE.g e0; replace e1 := hE.g e1; replace e7 := hE.g e7; replace e8 := hE.g e8; replace k := k.env hE; clear hE; refine Z00 (wp_seq ?_); refine Z0h e9 rfl ?_
   refine wp_skip ?_; refine Z00 (wp_seq ?_); refine wp_block ?_; refine wp_seq ?_; refine wp_region_lit ?_
   have hE := Env.refl a8 [10, 5]; refine zm 10 hE k e8 ?_; intro a9 hE e10 kp; refine sd 5 hE k (Z01 rfl e10) ?_; intro a10 hE e5 kp; refine wpList_nil ?_; replace e0 := hE.g e0; replace e1 := hE.g e1; replace e7 := hE.g e7; replace e8 := hE.g e8; replace k := k.env hE; clear hE e9; refine Z00 (wp_seq ?_); refine wp_region_lit ?_
   have hE := Env.refl a10 [11, 12, 13, 14, 15, 16]; refine zm 11 hE k e1 ?_; intro a11 hE e11 kp; refine zm 12 hE k e0 ?_; intro a12 hE e12 kp; replace e11 := kt kp e11; refine zm 13 hE k e5 ?_; intro a13 hE e13 kp; replace e11 := kt kp e11; replace e12 := kt kp e12; apply Z03 14 hE k rfl rfl rfl rfl; case h =>
    simp [go_sem, ↓IntWalk.iteOmega, ev e12, ev e13]
    with_reducible rfl
   intro a14 hE e14 kp; replace e11 := kt kp e11; apply Z03 15 hE k rfl rfl rfl rfl; case h =>
    simp [go_sem, ↓IntWalk.iteOmega, ev e14, hc _ O.below]
    with_reducible rfl
   intro a15 hE e15 kp; replace e11 := kt kp e11; apply Z06 16 hE k rfl (by rfl) (by rfl) rfl
   case h =>
    exact x_callI rfl e11 e15 (eg _ _)
   case hc => exact hcall _ O.below
   rintro e w17 ⟨he, RE⟩
   replace O := OwnT.ext O RE; refine ⟨_, he.trans (congrArg (fun b => Ending.returned (.bool b)) hbb), ?_⟩
   intro a16 hE e16 kp; refine wpList_nil ?_; replace e0 := hE.g e0; replace e1 := hE.g e1; replace e5 := hE.g e5; replace e7 := hE.g e7; replace e8 := hE.g e8; replace k := k.env hE; clear hE; refine Z00 ?_; cases bb with
   | true =>
    refine Z0h e16 (rfl) ?_
    clear e0 e1 e7 e8 e16; refine wp_seq ?_; refine wp_region_lit ?_
    have hE := Env.refl a16 [17, 4]; refine zm 17 hE k e5 ?_; intro a18 hE e17 kp; refine sd 4 hE k (Z01 rfl e17) ?_; intro a19 hE e4 kp; refine wpList_nil ?_; replace k := k.env hE; clear hE e5; refine Z00 ?_; refine wp_ret ?_
    refine Z12 ?_
    refine Z0m ?_
    refine Z0m ?_
    refine Z12 ?_
    refine Z0m ?_
    refine Z0k rfl k e4 ?_
    exact ⟨_, rfl, by rw [decide_eq_true (by omega)]; exact (List.any_eq_true.2 ⟨v, List.mem_of_getElem? hv, hbb⟩).symm, O.below⟩
   | false =>
    refine Z07 e16 (rfl) ?_
    clear e5 e16; refine wp_skip ?_; refine Z0f ?_; refine Z00 ?_; refine wp_region_lit ?_
    have hE := Env.refl a16 [18, 8]; refine sd 18 hE k (Z1i rfl e8 rfl (by omega)) ?_; intro a20 hE e18 kp; replace e8 := kt kp e8; refine sd 8 hE k (Z02 rfl e18) ?_; intro a21 hE e8 kp; refine wpList_nil ?_; replace e0 := hE.g e0; replace e1 := hE.g e1; replace e7 := hE.g e7; replace k := k.env hE; clear hE; refine Z00 ?_; refine ⟨⟨k, e0, e1, e7, z + 1, e8, by omega, fun u hu => ?_, O⟩, ?_⟩
    · rw [List.take_add_one, hv] at hu; rcases List.mem_append.1 hu with hu | hu
      · exact hall u hu
      · simp at hu; rw [hu]; exact hbb
    · rw [e8, mz]; simp only [intOf]; omega
 · skip
   refine wp_seq ?_; refine wp_region_lit ?_
   have hE := Env.refl a6 [9]; refine sd 9 hE k (Z08 (Z0z rfl (hE.g e8) (hE.g e7)) (decide_eq_false (by omega))) ?_
   intro a22 hE e9 kp; refine wpList_nil ?_; replace e0 := hE.g e0; replace e1 := hE.g e1; replace e7 := hE.g e7; replace e8 := hE.g e8; replace k := k.env hE; clear hE; refine Z00 (wp_seq ?_); refine Z07 e9 rfl ?_
   refine wp_exit ?_
   refine Z0p ?_
   refine Z0p ?_
   refine Z11 ?_
   refine Z00 (wp_seq ?_); refine wp_region_lit ?_
   have hE := Env.refl a22 [4]; refine sd 4 hE k (Z01 rfl rfl) ?_; intro a23 hE e4 kp; refine wpList_nil ?_; replace k := k.env hE; clear hE e0 e1 e7 e8 e9; refine Z00 ?_; refine wp_ret ?_
   rw [List.take_of_length_le (by omega)] at hall
   refine Z0k rfl k e4 ?_
   exact ⟨_, rfl, by rw [decide_eq_false (by decide)]; exact (List.any_eq_false.2 (fun v hv => by rw [hall v hv]; decide)).symm, O.below⟩
set_option maxRecDepth 100000 in
set_option maxHeartbeats 4000000 in
theorem Z3k {A : Option Addr} {ca : Nat} {xs : List Int} {f : Nat} {lb : Array Value} (p : Int → Bool) (W0 : World) (hrow : Row1 W0 A (Value.int .i64) xs) (hn : xs.length ≤ 1000000000) (eg : ∀ args w, (callFunc f args).run Tryz.prog w = .ok (.enter f args) w) (hp : ∀ v ∈ xs, ∀ w, Below W0.heap.size W0 w → Calls Tryz.prog f (#[.int .i64 v] ++ lb) w fun e w' => e = .returned (.bool (p v)) ∧ Ext w w') : Calls Tryz.prog 58 #[.slice A xs.length ca, .func (.func f) #[] lb] W0 fun e w' => e = .returned (.bool (xs.any p)) ∧ Ext W0 w' := by
 have O := OwnT.start W0
 refine Z0c Tryz.func58 rfl 9 rfl (by rfl) ?_
 intro a1 k hargs; have e0 : a1.eval (.tmp 0) = .slice A xs.length ca := hargs 0 _ rfl
 have e1 : a1.eval (.tmp 1) = .func (.func f) #[] lb := hargs 1 _ rfl
 clear hargs; refine wp_seq ?_; refine wp_region_lit ?_
 have hE := Env.refl a1 [4]; refine sd 4 hE k (Z01 rfl rfl) ?_; intro a2 hE e4 kp; refine wpList_nil ?_; replace e0 := hE.g e0; replace e1 := hE.g e1; replace k := k.env hE; clear hE e4; refine Z00 (wp_seq ?_); refine wp_region_lit ?_
 have hE := Env.refl a2 [5, 6, 7, 8, 4]; refine zm 5 hE k e0 ?_; intro a3 hE e5 kp; refine zm 6 hE k e1 ?_; intro a4 hE e6 kp; replace e5 := kt kp e5; apply Z06 7 hE k rfl (by rfl) (by rfl) rfl
 case h =>
  simp [go_sem, ↓IntWalk.iteOmega, ev e5, ev e6]
  with_reducible exact ⟨rfl, rfl⟩
 case hc => exact idxfI_any p _ hrow hn eg hp
 rintro e w6 ⟨r, rfl, hr, RE⟩
 replace O := OwnT.ext O RE; refine ⟨_, rfl, ?_⟩
 intro a5 hE e7 kp; refine sd 8 hE k (Z1l rfl e7 rfl) ?_; intro a7 hE e8 kp; refine sd 4 hE k (Z01 rfl e8) ?_; intro a8 hE e4 kp; refine wpList_nil ?_; replace k := k.env hE; clear hE e0 e1; refine Z00 ?_; refine wp_ret ?_
 refine Z0k rfl k e4 ?_
 exact ⟨congrArg (fun b => Ending.returned (.bool b)) hr, O.below⟩
end Go.Proofs.YtakkhglbdljfiaaGreatDoor
