/- store: Commit (printed by XStF.gen.py). -/
import Derived.Test.YtakkhglbdljfiaaGreatDoorKStoreExact15
namespace Go.Proofs.YtakkhglbdljfiaaGreatDoor
attribute [local simp] BigFrame.eval_const BigFrame.eval_global BigFrame.eval_func
set_option linter.unusedVariables false
set_option linter.unusedSimpArgs false
open Go.RowKit Go.Maps

theorem Z83 {w : World} {o : Oper} {ρ : Operand → Value} {x y : Operand} {t u : TypeId} {a b : Int} (ho : o.op = .binOp .add t x y u) (hx : ρ x = .int .u64 a) (hy : ρ y = .int .u64 b) (h0 : 0 ≤ a + b) (h1 : a + b ≤ 18446744073709551615) : (execOp ρ o).run Tryz.prog w = .ok (.value (.int .u64 (a + b))) w :=
 Z3r ho hx hy (by simp [binOp, Op.intArith, IntWalk.u64_in _ (show 0 ≤ a + b ∧ a + b ≤ 18446744073709551615 from ⟨h0, h1⟩)])
/-- A head's bytes. -/
def hdB (h : Hd) : List UInt8 := sealL (headL h.g.toNat h.r.toNat h.a.toNat h.b.toNat h.c.toNat)
abbrev Hd.Ok (h : Hd) : Prop := HeadOk h.g h.r h.a h.b h.c
theorem Z5e (h : Hd) (ok : h.Ok) (w : World) : Calls Tryz.prog 42 #[h.v] w fun e w' => e = .returned (.tuple #[.string (sB (hdB h)), .int .i64 0]) ∧ Ext w w' := by
 obtain ⟨g, r, a, b, c⟩ := h
 obtain ⟨h1, h2, h3, h4, h5, h6, h7, h8, h9, h10⟩ := ok
 simp only at h1 h2 h3 h4 h5 h6 h7 h8 h9 h10
 obtain ⟨g, rfl⟩ := Int.eq_ofNat_of_zero_le (show 0 ≤ g by omega)
 obtain ⟨r, rfl⟩ := Int.eq_ofNat_of_zero_le h7
 obtain ⟨a, rfl⟩ := Int.eq_ofNat_of_zero_le (show 0 ≤ a by omega)
 obtain ⟨b, rfl⟩ := Int.eq_ofNat_of_zero_le (show 0 ≤ b by omega)
 obtain ⟨c, rfl⟩ := Int.eq_ofNat_of_zero_le (show 0 ≤ c by omega)
 exact hbytes_yes g r a b c w ⟨h1, h2, h3, h4, h5, h6, h7, h8, h9, h10⟩
theorem Z2n (h : Hd) : (hdB h).length = 16 := by
 unfold hdB
 rw [Z1t, Z28]
theorem Z69 {l : List UInt8} {x i : Int} {s : Sec} (hl : l.length ≤ 16) (h : wrS l x (fun _ => none) 1 i = some s) : i = x ∧ s = l := by
 rw [Z48] at h
 split at h
 · obtain rfl : i = x := by omega
   injection h with h
   refine ⟨rfl, ?_⟩
   rw [← h, Int.sub_self]
   unfold secOf
   show (l.drop (16 * 0)).take 16 = l
   rw [Nat.mul_zero, List.drop_zero, List.take_of_length_le hl]
 · cases h
def nextHd (h : Hd) (root : Int) : Hd := ⟨h.g + 1, root, h.a, h.b, h.c⟩
/-- What may not be committed. -/
def lostB (P : Nat) (K : Int → Bool) (F : Int → Option Nd) (x : Int) : Bool := !decide (1 ≤ x ∧ x < (P : Nat)) || freeB K F x
set_option maxRecDepth 100000 in
set_option maxHeartbeats 8000000 in
theorem Z37 {sb p kb fb mb n cap bm : Nat} {B : Option Addr} {S : List Sec} {L : Int → Option Sec} {h : Hd} {at_ : Int} {K : Int → Bool} {m : Int → Option Value} {F : Int → Option Nd} {vs : List Value} {N : List Nd} {cb : Nat} (x : Int) (W0 : World) (hs : StR sb p h at_ kb fb K m W0) (hd : DiscR p mb B n cap bm S L W0) (ok : StOk (pgs n) K F vs N m) (hb : W0.cell? ⟨cb, 0, none⟩ = some (.pointer (some ⟨sb, 0, none⟩))) : Calls Tryz.prog 56 #[.int .i64 x, .pointer (some ⟨cb, 0, none⟩)] W0 fun e w' => e = .returned (.bool (lostB (pgs n) K F x)) ∧ Ext W0 w' := by
 have O := OwnT.start W0
 refine Z0c Tryz.func56 rfl 13 rfl (by rfl) ?_
 intro a1 k hargs; have e0 : a1.eval (.tmp 0) = .int .i64 x := hargs 0 _ rfl
 have e1 : a1.eval (.tmp 1) = .pointer (some ⟨cb, 0, none⟩) := hargs 1 _ rfl
 clear hargs; by_cases hx : 1 ≤ x ∧ x < (pgs n : Nat)
 rotate_left
 · skip
   refine wp_seq ?_; refine wp_region_lit ?_
   have hE := Env.refl a1 [3]; refine sd 3 hE k (Z01 rfl rfl) ?_; intro a2 hE e3 kp; refine wpList_nil ?_; replace e0 := hE.g e0; replace e1 := hE.g e1; replace k := k.env hE; clear hE e3; refine Z00 (wp_seq ?_); refine wp_region_lit ?_
   have hE := Env.refl a2 [4, 5, 6, 7, 8, 9, 10, 11, 12, 3]; apply Z03 4 hE k rfl rfl rfl rfl; case h =>
    simp [go_sem, ↓IntWalk.iteOmega, ev (hE.g e1), cellB O.below hb]
    with_reducible rfl
   intro a3 hE e4 kp; refine zm 5 hE k e0 ?_; intro a4 hE e5 kp; replace e4 := kt kp e4; apply Z06 6 hE k rfl (by rfl) (by rfl) rfl
   case h =>
    simp [go_sem, ↓IntWalk.iteOmega, ev e4, ev e5]
    with_reducible exact ⟨rfl, rfl⟩
   case hc => exact Z24 x _ (hs.ext O.below) (hd.ext O.below)
   rintro e _ ⟨rfl, rfl⟩
   refine ⟨_, congrArg (fun b => Ending.returned (.bool b)) (decide_eq_false hx), ?_⟩
   intro a5 hE e6 kp; refine sd 7 hE k (Z15 rfl e6) ?_; intro a6 hE e7 kp; refine sd 8 hE k (Z02 rfl e7) ?_; intro a7 hE e8 kp; refine Z05 9 hE k rfl (by rfl) (by rfl) rfl rfl (.inl e8) ?_
   intro a8 hE e9 kp; replace e8 := kt kp e8; refine Z05 10 hE k rfl (by rfl) (by rfl) rfl rfl (.inl e8) ?_
   intro a9 hE e10 kp; replace e8 := kt kp e8; replace e9 := kt kp e9; refine Z05 11 hE k rfl (by rfl) (by rfl) rfl rfl (.inl e8) ?_
   intro a10 hE e11 kp; replace e8 := kt kp e8; refine sd 12 hE k (Z0b rfl e8 rfl) ?_; intro a11 hE e12 kp; refine sd 3 hE k (Z01 rfl e12) ?_; intro a12 hE e3 kp; refine wpList_nil ?_; replace k := k.env hE; clear hE e0 e1; refine Z00 ?_; refine wp_ret ?_
   refine Z0k rfl k e3 ?_
   exact ⟨by unfold lostB; rw [decide_eq_false hx]; rfl, O.below⟩
 obtain ⟨q, hq⟩ : ∃ b, freeB K F x = b := ⟨_, rfl⟩
 refine wp_seq ?_; refine wp_region_lit ?_
 have hE := Env.refl a1 [3]; refine sd 3 hE k (Z01 rfl rfl) ?_; intro a13 hE e3 kp; refine wpList_nil ?_; replace e0 := hE.g e0; replace e1 := hE.g e1; replace k := k.env hE; clear hE e3; refine Z00 (wp_seq ?_); refine wp_region_lit ?_
 have hE := Env.refl a13 [4, 5, 6, 7, 8, 9, 10, 11, 12, 3]; apply Z03 4 hE k rfl rfl rfl rfl; case h =>
  simp [go_sem, ↓IntWalk.iteOmega, ev (hE.g e1), cellB O.below hb]
  with_reducible rfl
 intro a14 hE e4 kp; refine zm 5 hE k e0 ?_; intro a15 hE e5 kp; replace e4 := kt kp e4; apply Z06 6 hE k rfl (by rfl) (by rfl) rfl
 case h =>
  simp [go_sem, ↓IntWalk.iteOmega, ev e4, ev e5]
  with_reducible exact ⟨rfl, rfl⟩
 case hc => exact Z24 x _ (hs.ext O.below) (hd.ext O.below)
 rintro e _ ⟨rfl, rfl⟩
 refine ⟨_, congrArg (fun b => Ending.returned (.bool b)) (decide_eq_true hx), ?_⟩
 intro a16 hE e6 kp; refine sd 7 hE k (Z15 rfl e6) ?_; intro a17 hE e7 kp; refine sd 8 hE k (Z02 rfl e7) ?_; intro a18 hE e8 kp; apply Z04 9 hE k rfl rfl rfl rfl rfl e8
 case h =>
  simp [go_sem, ↓IntWalk.iteOmega, ev (hE.g e1), cellB O.below hb]
  with_reducible rfl
 intro a19 hE e9 kp; replace e8 := kt kp e8; apply Z04 10 hE k rfl rfl rfl rfl rfl e8
 case h =>
  exact Z02 rfl (hE.g e0)
 intro a20 hE e10 kp; replace e8 := kt kp e8; replace e9 := kt kp e9; apply Z1r 11 hE k rfl (by rfl) (by rfl) rfl rfl e8
 case h =>
  simp [go_sem, ↓IntWalk.iteOmega, ev e9, ev e10]
  with_reducible exact ⟨rfl, rfl⟩
 case hc => exact Z79 x _ (hs.ext O.below) ok (ok.wf hx)
 rintro e w22 ⟨he, RE⟩
 replace O := OwnT.ext O RE; refine ⟨_, he.trans (congrArg (fun b => Ending.returned (.bool b)) hq), ?_⟩
 intro a21 hE e11 kp; replace e8 := kt kp e8; refine sd 12 hE k (Z09 rfl e8 e11) ?_; intro a23 hE e12 kp; refine sd 3 hE k (Z01 rfl e12) ?_; intro a24 hE e3 kp; refine wpList_nil ?_; replace k := k.env hE; clear hE e0 e1; refine Z00 ?_; refine wp_ret ?_
 refine Z0k rfl k e3 ?_
 exact ⟨by unfold lostB; rw [decide_eq_true hx, hq]; rfl, O.below⟩
set_option maxRecDepth 100000 in
set_option maxHeartbeats 8000000 in
theorem Z8b {H : Nat} {A0 : World} {R : List Thing} {sb p kb fb mb n cap bm : Nat} {B : Option Addr} {S : List Sec} {L : Int → Option Sec} {h : Hd} {at_ : Int} {K : Int → Bool} {m : Int → Option Value} {F : Int → Option Nd} {vs : List Value} {N : List Nd} {M : Mn} {A : Option Addr} {ca : Nat} {xs : List Int} (root : Int) (w : World) (O : OwnT H A0 (stL sb p h at_ kb fb K m vs N (tDisc p mb B n cap bm S L :: tMn mb M :: R)) w) (ok : StOk (pgs n) K F vs N m) (hrow : ∀ W, OwnT H A0 R W → Row1 W A (Value.int .i64) xs) (hn : xs.length ≤ 1000000) (hg : 0 ≤ h.g ∧ h.g ≤ 4294967295) (hno : ¬ ((nextHd h root).Ok ∧ xs.any (lostB (pgs n) K F) = false ∧ (root = 0 ∨ root ∈ xs))) : Calls Tryz.prog 19 #[.pointer (some ⟨sb, 0, none⟩), .int .i64 root, .slice A xs.length ca] w fun e w' => e = .returned (.int .i64 1) ∧ OwnT H A0 (stL sb p h at_ kb fb K m vs N (tDisc p mb B n cap bm S L :: tMn mb M :: R)) w' := by
 refine Z0c Tryz.func19 rfl 92 rfl (by rfl) ?_
 intro a1 k hargs; have e0 : a1.eval (.tmp 0) = .pointer (some ⟨sb, 0, none⟩) := hargs 0 _ rfl
 have e1 : a1.eval (.tmp 1) = .int .i64 root := hargs 1 _ rfl
 have e2 : a1.eval (.tmp 2) = .slice A xs.length ca := hargs 2 _ rfl
 clear hargs; refine wp_seq ?_; refine wp_region_lit ?_
 have hE := Env.refl a1 [3, 6]; refine Z0v O (cs := #[.pointer (some ⟨sb, 0, none⟩)]) (t := 27) 3 hE k rfl (by rfl) (by rfl) rfl (by simp [go_sem, ↓IntWalk.iteOmega, ev (hE.g e0)]) ?_
 clear O; intro cb a2 w3 O hE e3 kp; refine sd 6 hE k (Z01 rfl rfl) ?_; intro a4 hE e6 kp; replace e3 := kt kp e3; refine wpList_nil ?_; replace e1 := hE.g e1; replace e2 := hE.g e2; replace k := k.env hE; clear hE e0 e6; refine Z00 (wp_seq ?_); refine wp_seq ?_; refine wp_region_lit ?_
 have hE := Env.refl a4 [15, 16]; refine sd 15 hE k (Z0a O 0 rfl rfl (hE.g e3) rfl Tryz.underlying27 rfl) ?_; intro a5 hE e15 kp; apply Z03 16 hE k rfl rfl rfl rfl; case h =>
  simp [go_sem, ↓IntWalk.iteOmega, ev e15]
  with_reducible rfl
 intro a6 hE e16 kp; refine wpList_nil ?_; replace e1 := hE.g e1; replace e2 := hE.g e2; replace e3 := hE.g e3; replace k := k.env hE; clear hE; refine Z00 ?_; refine Z07 e16 rfl ?_
 refine wp_skip ?_; refine Z00 (wp_seq ?_); refine wp_region_lit ?_
 have hE := Env.refl a6 [17, 18, 19, 20, 7]; refine sd 17 hE k (Z0a O 0 rfl rfl (hE.g e3) rfl Tryz.underlying27 rfl) ?_; intro a7 hE e17 kp; refine sd 18 hE k (Z0d rfl e17) ?_; intro a8 hE e18 kp; apply Z03 19 hE k rfl rfl rfl rfl; case h =>
  simp [go_sem, ↓IntWalk.iteOmega, ev e18]
  with_reducible rfl
 intro a9 hE e19 kp; refine sd 20 hE k (Z1n O 1 rfl rfl e19 [.int .u64 h.g, .int .i64 h.r, .int .i64 h.a, .int .i64 h.b, .int .i64 h.c] rfl Tryz.underlying39 rfl (by kernel_rfl)) ?_; intro a10 hE e20 kp; refine Z0v O (cs := #[.int .u64 0, .int .i64 0, .int .i64 0, .int .i64 0, .int .i64 0]) (t := 39) 7 hE k rfl (by rfl) (by rfl) rfl (by simp [go_sem, ↓IntWalk.iteOmega]) ?_
 clear O; intro hb a11 w12 O hE e7 kp; replace e20 := kt kp e20; refine Z1b O 0 0 hE e7 e20 ?_
 clear O; intro w13 O; replace O : OwnT _ _ ((tBlk hb 39 #[.int .u64 h.g, .int .i64 h.r, .int .i64 h.a, .int .i64 h.b, .int .i64 h.c]) :: _) w13 := O
 refine wpList_nil ?_; replace e1 := hE.g e1; replace e2 := hE.g e2; replace e3 := hE.g e3; replace k := k.env hE; clear hE e16 e20; refine Z00 (wp_seq ?_); refine wp_region_lit ?_
 have hE := Env.refl a11 [21, 22, 23, 24]; apply Z03 21 hE k rfl rfl rfl rfl; case h =>
  simp [go_sem, ↓IntWalk.iteOmega, ev (hE.g e7)]
  with_reducible rfl
 intro a14 hE e21 kp; refine sd 22 hE k (Z0a O 0 rfl rfl e21 rfl Tryz.underlying37 rfl) ?_; intro a15 hE e22 kp; refine sd 23 hE k (Z83 rfl e22 rfl (by omega) (by omega)) ?_; intro a16 hE e23 kp; apply Z03 24 hE k rfl rfl rfl rfl; case h =>
  simp [go_sem, ↓IntWalk.iteOmega, ev (hE.g e7)]
  with_reducible rfl
 intro a17 hE e24 kp; replace e23 := kt kp e23; refine Z1b O 0 0 hE e24 e23 ?_
 clear O; intro w18 O; replace O : OwnT _ _ ((tBlk hb 39 #[.int .u64 (h.g + 1), .int .i64 h.r, .int .i64 h.a, .int .i64 h.b, .int .i64 h.c]) :: _) w18 := O
 refine wpList_nil ?_; replace e1 := hE.g e1; replace e2 := hE.g e2; replace e3 := hE.g e3; replace e7 := hE.g e7; replace k := k.env hE; clear hE e23 e24; refine Z00 (wp_seq ?_); refine wp_region_lit ?_
 have hE := Env.refl a17 [25, 26]; refine zm 25 hE k e1 ?_; intro a19 hE e25 kp; apply Z03 26 hE k rfl rfl rfl rfl; case h =>
  simp [go_sem, ↓IntWalk.iteOmega, ev (hE.g e7)]
  with_reducible rfl
 intro a20 hE e26 kp; replace e25 := kt kp e25; refine Z1b O 0 1 hE e26 e25 ?_
 clear O; intro w21 O; replace O : OwnT _ _ ((tBlk hb 39 #[.int .u64 (h.g + 1), .int .i64 root, .int .i64 h.a, .int .i64 h.b, .int .i64 h.c]) :: _) w21 := O
 refine wpList_nil ?_; replace e1 := hE.g e1; replace e2 := hE.g e2; replace e3 := hE.g e3; replace e7 := hE.g e7; replace k := k.env hE; clear hE e25 e26; refine Z00 ?_; by_cases hok : (nextHd h root).Ok
 rotate_left
 · skip
   refine wp_seq ?_; refine wp_region_lit ?_
   have hE := Env.refl a20 [28, 29, 27, 30, 31, 8, 9]; refine sd 28 hE k (Z1n O 0 rfl rfl (hE.g e7) [.int .u64 (h.g + 1), .int .i64 root, .int .i64 h.a, .int .i64 h.b, .int .i64 h.c] rfl Tryz.underlying39 rfl (by kernel_rfl)) ?_; intro a22 hE e28 kp; apply Z06 29 hE k rfl (by rfl) (by rfl) rfl
   case h =>
    simp [go_sem, ↓IntWalk.iteOmega, ev e28]
    with_reducible exact ⟨rfl, rfl⟩
   case hc => exact hbytes_no _ _ _ _ _ _ hok
   rintro e w24 ⟨he, RE⟩
   replace O := OwnT.ext O RE; refine ⟨.tuple #[.string (sB ([])), .int .i64 1], he.trans rfl, ?_⟩
   intro a23 hE e29 kp; refine sd 27 hE k (Z02 rfl e29) ?_; intro a25 hE e27 kp; apply Z03 30 hE k rfl rfl rfl rfl; case h =>
    simp [go_sem, ↓IntWalk.iteOmega, ev e27]
    with_reducible rfl
   intro a26 hE e30 kp; replace e27 := kt kp e27; apply Z03 31 hE k rfl rfl rfl rfl; case h =>
    simp [go_sem, ↓IntWalk.iteOmega, ev e27]
    with_reducible rfl
   intro a27 hE e31 kp; replace e30 := kt kp e30; refine sd 8 hE k (Z01 rfl e30) ?_; intro a28 hE e8 kp; replace e31 := kt kp e31; refine sd 9 hE k (Z01 rfl e31) ?_; intro a29 hE e9 kp; replace e8 := kt kp e8; refine wpList_nil ?_; replace e1 := hE.g e1; replace e2 := hE.g e2; replace e3 := hE.g e3; replace e7 := hE.g e7; replace k := k.env hE; clear hE; refine Z00 (wp_seq ?_); refine wp_region_lit ?_
   have hE := Env.refl a29 [32, 10]; apply Z03 32 hE k rfl rfl rfl rfl; case h =>
    simp [go_sem, ↓IntWalk.iteOmega, ev (hE.g e3)]
    with_reducible rfl
   intro a30 hE e32 kp; refine sd 10 hE k (Z01 rfl e32) ?_; intro a31 hE e10 kp; refine wpList_nil ?_; replace e1 := hE.g e1; replace e2 := hE.g e2; replace e3 := hE.g e3; replace e7 := hE.g e7; replace e8 := hE.g e8; replace e9 := hE.g e9; replace k := k.env hE; clear hE; refine Z00 (wp_seq ?_); refine wp_seq ?_; refine wp_region_lit ?_
   have hE := Env.refl a31 [33, 34, 35, 36, 37, 38, 39, 40, 41, 42, 43, 44, 45, 46, 47, 48, 49]; refine zm 33 hE k e9 ?_; intro a32 hE e33 kp; refine sd 34 hE k (Z08 (Z0x rfl e33 rfl) (decide_eq_true (by omega))) ?_
   intro a33 hE e34 kp; refine sd 35 hE k (Z02 rfl e34) ?_; intro a34 hE e35 kp; refine Z05 36 hE k rfl (by rfl) (by rfl) rfl rfl (.inl e35) ?_
   intro a35 hE e36 kp; replace e35 := kt kp e35; refine Z05 37 hE k rfl (by rfl) (by rfl) rfl rfl (.inl e35) ?_
   intro a36 hE e37 kp; replace e35 := kt kp e35; replace e36 := kt kp e36; refine Z05 38 hE k rfl (by rfl) (by rfl) rfl rfl (.inl e35) ?_
   intro a37 hE e38 kp; replace e35 := kt kp e35; refine sd 39 hE k (Z0b rfl e35 rfl) ?_; intro a38 hE e39 kp; refine sd 40 hE k (Z02 rfl e39) ?_; intro a39 hE e40 kp; refine Z05 41 hE k rfl (by rfl) (by rfl) rfl rfl (.inl e40) ?_
   intro a40 hE e41 kp; replace e40 := kt kp e40; refine Z05 42 hE k rfl (by rfl) (by rfl) rfl rfl (.inl e40) ?_
   intro a41 hE e42 kp; replace e40 := kt kp e40; refine Z05 43 hE k rfl (by rfl) (by rfl) rfl rfl (.inl e40) ?_
   intro a42 hE e43 kp; replace e40 := kt kp e40; refine Z05 44 hE k rfl (by rfl) (by rfl) rfl rfl (.inr e43) ?_
   intro a43 hE e44 kp; replace e40 := kt kp e40; replace e43 := kt kp e43; refine Z05 45 hE k rfl (by rfl) (by rfl) rfl rfl (.inr e43) ?_
   intro a44 hE e45 kp; replace e40 := kt kp e40; replace e43 := kt kp e43; replace e44 := kt kp e44; refine Z05 46 hE k rfl (by rfl) (by rfl) rfl rfl (.inr e43) ?_
   intro a45 hE e46 kp; replace e40 := kt kp e40; replace e43 := kt kp e43; refine Z05 47 hE k rfl (by rfl) (by rfl) rfl rfl (.inr e43) ?_
   intro a46 hE e47 kp; replace e40 := kt kp e40; replace e43 := kt kp e43; refine Z05 48 hE k rfl (by rfl) (by rfl) rfl rfl (.inl e40) ?_
   intro a47 hE e48 kp; replace e40 := kt kp e40; refine sd 49 hE k (Z0b rfl e40 rfl) ?_; intro a48 hE e49 kp; refine wpList_nil ?_; replace e2 := hE.g e2; replace e3 := hE.g e3; replace e7 := hE.g e7; replace e8 := hE.g e8; replace k := k.env hE; clear hE e1 e9 e10; refine Z00 ?_; refine Z0h e49 rfl ?_
   refine wp_seq ?_; refine wp_region_lit ?_
   have hE := Env.refl a48 [6]; refine sd 6 hE k (Z01 rfl rfl) ?_; intro a49 hE e6 kp; refine wpList_nil ?_; replace k := k.env hE; clear hE e2 e3 e7 e8 e49; refine Z00 ?_; refine wp_ret ?_
   refine Z0m ?_
   replace O : OwnT _ _ ((tBlk sb 102 #[.pointer (some ⟨p, 0, none⟩), .int .u64 h.g, .int .i64 h.r, .int .i64 h.a, .int .i64 h.b, .int .i64 h.c, .int .i64 at_, .map (some kb), .map (some fb)]) :: (tMap kb 512 (keptV K)) :: (tMap fb 512 m) :: (tPool vs N) :: (tDisc p mb B n cap bm S L) :: (tMn mb M) :: R) w24 := OwnT.pickR (L := [_, _, _, _, _, _, _, _]) (R := R) O [2, 3, 4, 5, 6, 7] (by decide)
   refine Z0k rfl k e6 ?_
   exact ⟨rfl, O⟩
 refine wp_seq ?_; refine wp_region_lit ?_
 have hE := Env.refl a20 [28, 29, 27, 30, 31, 8, 9]; refine sd 28 hE k (Z1n O 0 rfl rfl (hE.g e7) [.int .u64 (h.g + 1), .int .i64 root, .int .i64 h.a, .int .i64 h.b, .int .i64 h.c] rfl Tryz.underlying39 rfl (by kernel_rfl)) ?_; intro a50 hE e28 kp; apply Z06 29 hE k rfl (by rfl) (by rfl) rfl
 case h =>
  simp [go_sem, ↓IntWalk.iteOmega, ev e28]
  with_reducible exact ⟨rfl, rfl⟩
 case hc => exact Z5e (nextHd h root) hok _
 rintro e w52 ⟨he, RE⟩
 replace O := OwnT.ext O RE; refine ⟨.tuple #[.string (sB (hdB (nextHd h root))), .int .i64 0], he, ?_⟩
 intro a51 hE e29 kp; refine sd 27 hE k (Z02 rfl e29) ?_; intro a53 hE e27 kp; apply Z03 30 hE k rfl rfl rfl rfl; case h =>
  simp [go_sem, ↓IntWalk.iteOmega, ev e27]
  with_reducible rfl
 intro a54 hE e30 kp; replace e27 := kt kp e27; apply Z03 31 hE k rfl rfl rfl rfl; case h =>
  simp [go_sem, ↓IntWalk.iteOmega, ev e27]
  with_reducible rfl
 intro a55 hE e31 kp; replace e30 := kt kp e30; refine sd 8 hE k (Z01 rfl e30) ?_; intro a56 hE e8 kp; replace e31 := kt kp e31; refine sd 9 hE k (Z01 rfl e31) ?_; intro a57 hE e9 kp; replace e8 := kt kp e8; refine wpList_nil ?_; replace e1 := hE.g e1; replace e2 := hE.g e2; replace e3 := hE.g e3; replace e7 := hE.g e7; replace k := k.env hE; clear hE; refine Z00 (wp_seq ?_); refine wp_region_lit ?_
 have hE := Env.refl a57 [32, 10]; apply Z03 32 hE k rfl rfl rfl rfl; case h =>
  simp [go_sem, ↓IntWalk.iteOmega, ev (hE.g e3)]
  with_reducible rfl
 intro a58 hE e32 kp; refine sd 10 hE k (Z01 rfl e32) ?_; intro a59 hE e10 kp; refine wpList_nil ?_; replace e1 := hE.g e1; replace e2 := hE.g e2; replace e3 := hE.g e3; replace e7 := hE.g e7; replace e8 := hE.g e8; replace e9 := hE.g e9; replace k := k.env hE; clear hE; refine Z00 ?_; cases hlost : xs.any (lostB (pgs n) K F) with
 | true =>
  refine wp_seq ?_; refine wp_seq ?_; refine wp_region_lit ?_
  have hE := Env.refl a59 [33, 34, 35, 36, 37, 38, 39, 40, 41, 42, 43, 44, 45, 46, 47, 48, 49]; refine zm 33 hE k e9 ?_; intro a60 hE e33 kp; refine sd 34 hE k (Z08 (Z0x rfl e33 rfl) (decide_eq_false (by omega))) ?_
  intro a61 hE e34 kp; refine sd 35 hE k (Z02 rfl e34) ?_; intro a62 hE e35 kp; apply Z04 36 hE k rfl rfl rfl rfl rfl e35
  case h =>
   exact Z02 rfl (hE.g e2)
  intro a63 hE e36 kp; replace e35 := kt kp e35; apply Z04 37 hE k rfl rfl rfl rfl rfl e35
  case h =>
   exact Z02 rfl (hE.g e10)
  intro a64 hE e37 kp; replace e35 := kt kp e35; replace e36 := kt kp e36; apply Z1r 38 hE k rfl (by rfl) (by rfl) rfl rfl e35
  case h =>
   simp [go_sem, ↓IntWalk.iteOmega, ev e36, ev e37]
   with_reducible exact ⟨rfl, rfl⟩
  case hc => exact Z3k (lostB (pgs n) K F) _ (hrow _ (OwnT.pickR (L := [_, _, _, _, _, _, _, _]) (R := R) O [] (by decide))) (by omega) (Go.Proofs.enters_of Tryz.func56 (by kernel_rfl) rfl) (fun v hv W hW => Z37 v W (OwnT.stR (OwnT.pickR (L := [_, _, _, _, _, _, _, _]) (R := R) (OwnT.ext O hW) [2, 3, 4, 5, 6] (by decide))) (OwnT.disc (OwnT.pull (OwnT.ext O hW) 6 rfl)) ok ((OwnT.blk (OwnT.ext O hW) 1 rfl).cell 0))
  rintro e w66 ⟨he, RE⟩
  replace O := OwnT.ext O RE; refine ⟨_, he.trans (congrArg (fun b => Ending.returned (.bool b)) hlost), ?_⟩
  intro a65 hE e38 kp; replace e35 := kt kp e35; refine sd 39 hE k (Z09 rfl e35 e38) ?_; intro a67 hE e39 kp; refine sd 40 hE k (Z02 rfl e39) ?_; intro a68 hE e40 kp; refine Z05 41 hE k rfl (by rfl) (by rfl) rfl rfl (.inl e40) ?_
  intro a69 hE e41 kp; replace e40 := kt kp e40; refine Z05 42 hE k rfl (by rfl) (by rfl) rfl rfl (.inl e40) ?_
  intro a70 hE e42 kp; replace e40 := kt kp e40; refine Z05 43 hE k rfl (by rfl) (by rfl) rfl rfl (.inl e40) ?_
  intro a71 hE e43 kp; replace e40 := kt kp e40; refine Z05 44 hE k rfl (by rfl) (by rfl) rfl rfl (.inr e43) ?_
  intro a72 hE e44 kp; replace e40 := kt kp e40; replace e43 := kt kp e43; refine Z05 45 hE k rfl (by rfl) (by rfl) rfl rfl (.inr e43) ?_
  intro a73 hE e45 kp; replace e40 := kt kp e40; replace e43 := kt kp e43; replace e44 := kt kp e44; refine Z05 46 hE k rfl (by rfl) (by rfl) rfl rfl (.inr e43) ?_
  intro a74 hE e46 kp; replace e40 := kt kp e40; replace e43 := kt kp e43; refine Z05 47 hE k rfl (by rfl) (by rfl) rfl rfl (.inr e43) ?_
  intro a75 hE e47 kp; replace e40 := kt kp e40; replace e43 := kt kp e43; refine Z05 48 hE k rfl (by rfl) (by rfl) rfl rfl (.inl e40) ?_
  intro a76 hE e48 kp; replace e40 := kt kp e40; refine sd 49 hE k (Z0b rfl e40 rfl) ?_; intro a77 hE e49 kp; refine wpList_nil ?_; replace e2 := hE.g e2; replace e3 := hE.g e3; replace e7 := hE.g e7; replace e8 := hE.g e8; replace k := k.env hE; clear hE e1 e9 e10; refine Z00 ?_; refine Z0h e49 rfl ?_
  refine wp_seq ?_; refine wp_region_lit ?_
  have hE := Env.refl a77 [6]; refine sd 6 hE k (Z01 rfl rfl) ?_; intro a78 hE e6 kp; refine wpList_nil ?_; replace k := k.env hE; clear hE e2 e3 e7 e8 e49; refine Z00 ?_; refine wp_ret ?_
  refine Z0m ?_
  replace O : OwnT _ _ ((tBlk sb 102 #[.pointer (some ⟨p, 0, none⟩), .int .u64 h.g, .int .i64 h.r, .int .i64 h.a, .int .i64 h.b, .int .i64 h.c, .int .i64 at_, .map (some kb), .map (some fb)]) :: (tMap kb 512 (keptV K)) :: (tMap fb 512 m) :: (tPool vs N) :: (tDisc p mb B n cap bm S L) :: (tMn mb M) :: R) w66 := OwnT.pickR (L := [_, _, _, _, _, _, _, _]) (R := R) O [2, 3, 4, 5, 6, 7] (by decide)
  refine Z0k rfl k e6 ?_
  exact ⟨rfl, O⟩
 | false =>
  have hr0 : ¬ root = 0 := fun e => hno ⟨hok, hlost, .inl e⟩
  have hin : ¬ root ∈ xs := fun e => hno ⟨hok, hlost, .inr e⟩

  refine wp_seq ?_; refine wp_seq ?_; refine wp_region_lit ?_
  have hE := Env.refl a59 [33, 34, 35, 36, 37, 38, 39, 40, 41, 42, 43, 44, 45, 46, 47, 48, 49]; refine zm 33 hE k e9 ?_; intro a79 hE e33 kp; refine sd 34 hE k (Z08 (Z0x rfl e33 rfl) (decide_eq_false (by omega))) ?_
  intro a80 hE e34 kp; refine sd 35 hE k (Z02 rfl e34) ?_; intro a81 hE e35 kp; apply Z04 36 hE k rfl rfl rfl rfl rfl e35
  case h =>
   exact Z02 rfl (hE.g e2)
  intro a82 hE e36 kp; replace e35 := kt kp e35; apply Z04 37 hE k rfl rfl rfl rfl rfl e35
  case h =>
   exact Z02 rfl (hE.g e10)
  intro a83 hE e37 kp; replace e35 := kt kp e35; replace e36 := kt kp e36; apply Z1r 38 hE k rfl (by rfl) (by rfl) rfl rfl e35
  case h =>
   simp [go_sem, ↓IntWalk.iteOmega, ev e36, ev e37]
   with_reducible exact ⟨rfl, rfl⟩
  case hc => exact Z3k (lostB (pgs n) K F) _ (hrow _ (OwnT.pickR (L := [_, _, _, _, _, _, _, _]) (R := R) O [] (by decide))) (by omega) (Go.Proofs.enters_of Tryz.func56 (by kernel_rfl) rfl) (fun v hv W hW => Z37 v W (OwnT.stR (OwnT.pickR (L := [_, _, _, _, _, _, _, _]) (R := R) (OwnT.ext O hW) [2, 3, 4, 5, 6] (by decide))) (OwnT.disc (OwnT.pull (OwnT.ext O hW) 6 rfl)) ok ((OwnT.blk (OwnT.ext O hW) 1 rfl).cell 0))
  rintro e w85 ⟨he, RE⟩
  replace O := OwnT.ext O RE; refine ⟨_, he.trans (congrArg (fun b => Ending.returned (.bool b)) hlost), ?_⟩
  intro a84 hE e38 kp; replace e35 := kt kp e35; refine sd 39 hE k (Z09 rfl e35 e38) ?_; intro a86 hE e39 kp; refine sd 40 hE k (Z02 rfl e39) ?_; intro a87 hE e40 kp; apply Z04 41 hE k rfl rfl rfl rfl rfl e40
  case h =>
   exact Z02 rfl (hE.g e1)
  intro a88 hE e41 kp; replace e40 := kt kp e40; apply Z04 42 hE k rfl rfl rfl rfl rfl e40
  case h =>
   exact Z08 (Z0x rfl e41 rfl) (decide_eq_true (by omega))
  intro a89 hE e42 kp; replace e40 := kt kp e40; apply Z04 43 hE k rfl rfl rfl rfl rfl e40
  case h =>
   exact Z02 rfl e42
  intro a90 hE e43 kp; replace e40 := kt kp e40; apply Z04 44 hE k rfl rfl rfl rfl rfl e43
  case h =>
   exact Z02 rfl (hE.g e2)
  intro a91 hE e44 kp; replace e40 := kt kp e40; replace e43 := kt kp e43; apply Z04 45 hE k rfl rfl rfl rfl rfl e43
  case h =>
   exact Z02 rfl (hE.g e1)
  intro a92 hE e45 kp; replace e40 := kt kp e40; replace e43 := kt kp e43; replace e44 := kt kp e44; apply Z1r 46 hE k rfl (by rfl) (by rfl) rfl rfl e43
  case h =>
   simp [go_sem, ↓IntWalk.iteOmega, ev e44, ev e45]
   with_reducible exact ⟨rfl, rfl⟩
  case hc => exact Z3l root _ (hrow _ (OwnT.pickR (L := [_, _, _, _, _, _, _, _]) (R := R) O [] (by decide))) (by omega)
  rintro e w94 ⟨he, RE⟩
  replace O := OwnT.ext O RE; refine ⟨_, he.trans (congrArg (fun b => Ending.returned (.bool b)) (decide_eq_false hin)), ?_⟩
  intro a93 hE e46 kp; replace e40 := kt kp e40; replace e43 := kt kp e43; apply Z04 47 hE k rfl rfl rfl rfl rfl e43
  case h =>
   exact Z15 rfl e46
  intro a95 hE e47 kp; replace e40 := kt kp e40; replace e43 := kt kp e43; apply Z04 48 hE k rfl rfl rfl rfl rfl e40
  case h =>
   exact Z0b rfl e43 e47
  intro a96 hE e48 kp; replace e40 := kt kp e40; refine sd 49 hE k (Z09 rfl e40 e48) ?_; intro a97 hE e49 kp; refine wpList_nil ?_; replace e2 := hE.g e2; replace e3 := hE.g e3; replace e7 := hE.g e7; replace e8 := hE.g e8; replace k := k.env hE; clear hE e1 e9 e10; refine Z00 ?_; refine Z0h e49 rfl ?_
  refine wp_seq ?_; refine wp_region_lit ?_
  have hE := Env.refl a97 [6]; refine sd 6 hE k (Z01 rfl rfl) ?_; intro a98 hE e6 kp; refine wpList_nil ?_; replace k := k.env hE; clear hE e2 e3 e7 e8 e49; refine Z00 ?_; refine wp_ret ?_
  refine Z0m ?_
  replace O : OwnT _ _ ((tBlk sb 102 #[.pointer (some ⟨p, 0, none⟩), .int .u64 h.g, .int .i64 h.r, .int .i64 h.a, .int .i64 h.b, .int .i64 h.c, .int .i64 at_, .map (some kb), .map (some fb)]) :: (tMap kb 512 (keptV K)) :: (tMap fb 512 m) :: (tPool vs N) :: (tDisc p mb B n cap bm S L) :: (tMn mb M) :: R) w94 := OwnT.pickR (L := [_, _, _, _, _, _, _, _]) (R := R) O [2, 3, 4, 5, 6, 7] (by decide)
  refine Z0k rfl k e6 ?_
  exact ⟨rfl, O⟩
set_option maxRecDepth 100000 in
set_option maxHeartbeats 8000000 in
theorem scommit_go {H : Nat} {A0 : World} {R : List Thing} {sb p kb fb mb n cap bm : Nat} {B : Option Addr} {S : List Sec} {L : Int → Option Sec} {h : Hd} {at_ : Int} {K : Int → Bool} {m : Int → Option Value} {F : Int → Option Nd} {vs : List Value} {N : List Nd} {M : Mn} {A : Option Addr} {ca : Nat} {xs : List Int} {c0 : Int} (root : Int) (w : World) (O : OwnT H A0 (stL sb p h at_ kb fb K m vs N (tDisc p mb B n cap bm S L :: tMn mb M :: R)) w) (ok : StOk (pgs n) K F vs N m) (hrow : ∀ W, OwnT H A0 R W → Row1 W A (Value.int .i64) xs) (hn : xs.length ≤ 1000000) (hg : 0 ≤ h.g ∧ h.g ≤ 4294967295) (hL : L = fun _ => none) (hat : at_ = 0 ∨ at_ = 1) (hn32 : 2 ≤ n) (hM : M.Ok c0) (hc : c0 ≤ 800000000000) (hok : (nextHd h root).Ok) (hlost : xs.any (lostB (pgs n) K F) = false) (hrt : root = 0 ∨ root ∈ xs) : Calls Tryz.prog 19 #[.pointer (some ⟨sb, 0, none⟩), .int .i64 root, .slice A xs.length ca] w fun e w' => ∃ (c : Int) (j : Nat), e = .returned (.int .i64 c) ∧ j ≤ 9100 ∧ ((c = 0 ∧ ∃ m', OwnT H A0 (stL sb p (nextHd h root) (1 - at_) kb fb (inP (pgs n) xs) m' vs N (tDisc p mb B n cap bm (nowL (nowL S (wrF F (fun _ => none) (todo (pgs n) F xs))) (wrS (hdB (nextHd h root)) (1 - at_) (fun _ => none) 1)) (fun _ => none) :: tMn mb (M.useN j) :: R)) w' ∧ StOk (pgs n) (inP (pgs n) xs) (fun _ => none) vs N m') ∨ (c = 4 ∧ ¬ M.Free ∧ ∃ S' L', OwnT H A0 (stL sb p h at_ kb fb K m vs N (tDisc p mb B n cap bm S' L' :: tMn mb (M.useN j) :: R)) w' ∧ ((S' = S ∧ Pend F (todo (pgs n) F xs) (fun _ => none) L') ∨ (S' = (nowL S (wrF F (fun _ => none) (todo (pgs n) F xs))) ∧ ∀ i s, L' i = some s → i = 1 - at_ ∧ s = (hdB (nextHd h root)))))) := by
 subst hL
 refine Z0c Tryz.func19 rfl 92 rfl (by rfl) ?_
 intro a1 k hargs; have e0 : a1.eval (.tmp 0) = .pointer (some ⟨sb, 0, none⟩) := hargs 0 _ rfl
 have e1 : a1.eval (.tmp 1) = .int .i64 root := hargs 1 _ rfl
 have e2 : a1.eval (.tmp 2) = .slice A xs.length ca := hargs 2 _ rfl
 clear hargs; have hhl := Z2n (nextHd h root)
 refine wp_seq ?_; refine wp_region_lit ?_
 have hE := Env.refl a1 [3, 6]; refine Z0v O (cs := #[.pointer (some ⟨sb, 0, none⟩)]) (t := 27) 3 hE k rfl (by rfl) (by rfl) rfl (by simp [go_sem, ↓IntWalk.iteOmega, ev (hE.g e0)]) ?_
 clear O; intro cb a2 w3 O hE e3 kp; refine sd 6 hE k (Z01 rfl rfl) ?_; intro a4 hE e6 kp; replace e3 := kt kp e3; refine wpList_nil ?_; replace e1 := hE.g e1; replace e2 := hE.g e2; replace k := k.env hE; clear hE e0 e6; refine Z00 (wp_seq ?_); refine wp_seq ?_; refine wp_region_lit ?_
 have hE := Env.refl a4 [15, 16]; refine sd 15 hE k (Z0a O 0 rfl rfl (hE.g e3) rfl Tryz.underlying27 rfl) ?_; intro a5 hE e15 kp; apply Z03 16 hE k rfl rfl rfl rfl; case h =>
  simp [go_sem, ↓IntWalk.iteOmega, ev e15]
  with_reducible rfl
 intro a6 hE e16 kp; refine wpList_nil ?_; replace e1 := hE.g e1; replace e2 := hE.g e2; replace e3 := hE.g e3; replace k := k.env hE; clear hE; refine Z00 ?_; refine Z07 e16 rfl ?_
 refine wp_skip ?_; refine Z00 (wp_seq ?_); refine wp_region_lit ?_
 have hE := Env.refl a6 [17, 18, 19, 20, 7]; refine sd 17 hE k (Z0a O 0 rfl rfl (hE.g e3) rfl Tryz.underlying27 rfl) ?_; intro a7 hE e17 kp; refine sd 18 hE k (Z0d rfl e17) ?_; intro a8 hE e18 kp; apply Z03 19 hE k rfl rfl rfl rfl; case h =>
  simp [go_sem, ↓IntWalk.iteOmega, ev e18]
  with_reducible rfl
 intro a9 hE e19 kp; refine sd 20 hE k (Z1n O 1 rfl rfl e19 [.int .u64 h.g, .int .i64 h.r, .int .i64 h.a, .int .i64 h.b, .int .i64 h.c] rfl Tryz.underlying39 rfl (by kernel_rfl)) ?_; intro a10 hE e20 kp; refine Z0v O (cs := #[.int .u64 0, .int .i64 0, .int .i64 0, .int .i64 0, .int .i64 0]) (t := 39) 7 hE k rfl (by rfl) (by rfl) rfl (by simp [go_sem, ↓IntWalk.iteOmega]) ?_
 clear O; intro hb a11 w12 O hE e7 kp; replace e20 := kt kp e20; refine Z1b O 0 0 hE e7 e20 ?_
 clear O; intro w13 O; replace O : OwnT _ _ ((tBlk hb 39 #[.int .u64 h.g, .int .i64 h.r, .int .i64 h.a, .int .i64 h.b, .int .i64 h.c]) :: _) w13 := O
 refine wpList_nil ?_; replace e1 := hE.g e1; replace e2 := hE.g e2; replace e3 := hE.g e3; replace k := k.env hE; clear hE e16 e20; refine Z00 (wp_seq ?_); refine wp_region_lit ?_
 have hE := Env.refl a11 [21, 22, 23, 24]; apply Z03 21 hE k rfl rfl rfl rfl; case h =>
  simp [go_sem, ↓IntWalk.iteOmega, ev (hE.g e7)]
  with_reducible rfl
 intro a14 hE e21 kp; refine sd 22 hE k (Z0a O 0 rfl rfl e21 rfl Tryz.underlying37 rfl) ?_; intro a15 hE e22 kp; refine sd 23 hE k (Z83 rfl e22 rfl (by omega) (by omega)) ?_; intro a16 hE e23 kp; apply Z03 24 hE k rfl rfl rfl rfl; case h =>
  simp [go_sem, ↓IntWalk.iteOmega, ev (hE.g e7)]
  with_reducible rfl
 intro a17 hE e24 kp; replace e23 := kt kp e23; refine Z1b O 0 0 hE e24 e23 ?_
 clear O; intro w18 O; replace O : OwnT _ _ ((tBlk hb 39 #[.int .u64 (h.g + 1), .int .i64 h.r, .int .i64 h.a, .int .i64 h.b, .int .i64 h.c]) :: _) w18 := O
 refine wpList_nil ?_; replace e1 := hE.g e1; replace e2 := hE.g e2; replace e3 := hE.g e3; replace e7 := hE.g e7; replace k := k.env hE; clear hE e23 e24; refine Z00 (wp_seq ?_); refine wp_region_lit ?_
 have hE := Env.refl a17 [25, 26]; refine zm 25 hE k e1 ?_; intro a19 hE e25 kp; apply Z03 26 hE k rfl rfl rfl rfl; case h =>
  simp [go_sem, ↓IntWalk.iteOmega, ev (hE.g e7)]
  with_reducible rfl
 intro a20 hE e26 kp; replace e25 := kt kp e25; refine Z1b O 0 1 hE e26 e25 ?_
 clear O; intro w21 O; replace O : OwnT _ _ ((tBlk hb 39 #[.int .u64 (h.g + 1), .int .i64 root, .int .i64 h.a, .int .i64 h.b, .int .i64 h.c]) :: _) w21 := O
 refine wpList_nil ?_; replace e1 := hE.g e1; replace e2 := hE.g e2; replace e3 := hE.g e3; replace e7 := hE.g e7; replace k := k.env hE; clear hE e25 e26; refine Z00 (wp_seq ?_); refine wp_region_lit ?_
 have hE := Env.refl a20 [28, 29, 27, 30, 31, 8, 9]; refine sd 28 hE k (Z1n O 0 rfl rfl (hE.g e7) [.int .u64 (h.g + 1), .int .i64 root, .int .i64 h.a, .int .i64 h.b, .int .i64 h.c] rfl Tryz.underlying39 rfl (by kernel_rfl)) ?_; intro a22 hE e28 kp; apply Z06 29 hE k rfl (by rfl) (by rfl) rfl
 case h =>
  simp [go_sem, ↓IntWalk.iteOmega, ev e28]
  with_reducible exact ⟨rfl, rfl⟩
 case hc => exact Z5e (nextHd h root) hok _
 rintro e w24 ⟨he, RE⟩
 replace O := OwnT.ext O RE; refine ⟨.tuple #[.string (sB (hdB (nextHd h root))), .int .i64 0], he, ?_⟩
 intro a23 hE e29 kp; refine sd 27 hE k (Z02 rfl e29) ?_; intro a25 hE e27 kp; apply Z03 30 hE k rfl rfl rfl rfl; case h =>
  simp [go_sem, ↓IntWalk.iteOmega, ev e27]
  with_reducible rfl
 intro a26 hE e30 kp; replace e27 := kt kp e27; apply Z03 31 hE k rfl rfl rfl rfl; case h =>
  simp [go_sem, ↓IntWalk.iteOmega, ev e27]
  with_reducible rfl
 intro a27 hE e31 kp; replace e30 := kt kp e30; refine sd 8 hE k (Z01 rfl e30) ?_; intro a28 hE e8 kp; replace e31 := kt kp e31; refine sd 9 hE k (Z01 rfl e31) ?_; intro a29 hE e9 kp; replace e8 := kt kp e8; refine wpList_nil ?_; replace e1 := hE.g e1; replace e2 := hE.g e2; replace e3 := hE.g e3; replace e7 := hE.g e7; replace k := k.env hE; clear hE; refine Z00 (wp_seq ?_); refine wp_region_lit ?_
 have hE := Env.refl a29 [32, 10]; apply Z03 32 hE k rfl rfl rfl rfl; case h =>
  simp [go_sem, ↓IntWalk.iteOmega, ev (hE.g e3)]
  with_reducible rfl
 intro a30 hE e32 kp; refine sd 10 hE k (Z01 rfl e32) ?_; intro a31 hE e10 kp; refine wpList_nil ?_; replace e1 := hE.g e1; replace e2 := hE.g e2; replace e3 := hE.g e3; replace e7 := hE.g e7; replace e8 := hE.g e8; replace e9 := hE.g e9; replace k := k.env hE; clear hE; refine Z00 ?_; have key : ∃ b, b = decide (root ≠ 0) ∧ (b = true → root ∈ xs) := ⟨_, rfl, fun h => by rcases hrt with e | e; exact absurd e (of_decide_eq_true h); exact e⟩
 by_cases hr0 : root = 0
 · skip
   refine wp_seq ?_; refine wp_seq ?_; refine wp_region_lit ?_
   have hE := Env.refl a31 [33, 34, 35, 36, 37, 38, 39, 40, 41, 42, 43, 44, 45, 46, 47, 48, 49]; refine zm 33 hE k e9 ?_; intro a32 hE e33 kp; refine sd 34 hE k (Z08 (Z0x rfl e33 rfl) (decide_eq_false (by omega))) ?_
   intro a33 hE e34 kp; refine sd 35 hE k (Z02 rfl e34) ?_; intro a34 hE e35 kp; apply Z04 36 hE k rfl rfl rfl rfl rfl e35
   case h =>
    exact Z02 rfl (hE.g e2)
   intro a35 hE e36 kp; replace e35 := kt kp e35; apply Z04 37 hE k rfl rfl rfl rfl rfl e35
   case h =>
    exact Z02 rfl (hE.g e10)
   intro a36 hE e37 kp; replace e35 := kt kp e35; replace e36 := kt kp e36; apply Z1r 38 hE k rfl (by rfl) (by rfl) rfl rfl e35
   case h =>
    simp [go_sem, ↓IntWalk.iteOmega, ev e36, ev e37]
    with_reducible exact ⟨rfl, rfl⟩
   case hc => exact Z3k (lostB (pgs n) K F) _ (hrow _ (OwnT.pickR (L := [_, _, _, _, _, _, _, _]) (R := R) O [] (by decide))) (by omega) (Go.Proofs.enters_of Tryz.func56 (by kernel_rfl) rfl) (fun v hv W hW => Z37 v W (OwnT.stR (OwnT.pickR (L := [_, _, _, _, _, _, _, _]) (R := R) (OwnT.ext O hW) [2, 3, 4, 5, 6] (by decide))) (OwnT.disc (OwnT.pull (OwnT.ext O hW) 6 rfl)) ok ((OwnT.blk (OwnT.ext O hW) 1 rfl).cell 0))
   rintro e w38 ⟨he, RE⟩
   replace O := OwnT.ext O RE; refine ⟨_, he.trans (congrArg (fun b => Ending.returned (.bool b)) hlost), ?_⟩
   intro a37 hE e38 kp; replace e35 := kt kp e35; refine sd 39 hE k (Z09 rfl e35 e38) ?_; intro a39 hE e39 kp; refine sd 40 hE k (Z02 rfl e39) ?_; intro a40 hE e40 kp; apply Z04 41 hE k rfl rfl rfl rfl rfl e40
   case h =>
    exact Z02 rfl (hE.g e1)
   intro a41 hE e41 kp; replace e40 := kt kp e40; apply Z04 42 hE k rfl rfl rfl rfl rfl e40
   case h =>
    exact Z08 (Z0x rfl e41 rfl) (decide_eq_false (by omega))
   intro a42 hE e42 kp; replace e40 := kt kp e40; apply Z04 43 hE k rfl rfl rfl rfl rfl e40
   case h =>
    exact Z02 rfl e42
   intro a43 hE e43 kp; replace e40 := kt kp e40; refine Z05 44 hE k rfl (by rfl) (by rfl) rfl rfl (.inl e43) ?_
   intro a44 hE e44 kp; replace e40 := kt kp e40; replace e43 := kt kp e43; refine Z05 45 hE k rfl (by rfl) (by rfl) rfl rfl (.inl e43) ?_
   intro a45 hE e45 kp; replace e40 := kt kp e40; replace e43 := kt kp e43; replace e44 := kt kp e44; refine Z05 46 hE k rfl (by rfl) (by rfl) rfl rfl (.inl e43) ?_
   intro a46 hE e46 kp; replace e40 := kt kp e40; replace e43 := kt kp e43; refine Z05 47 hE k rfl (by rfl) (by rfl) rfl rfl (.inl e43) ?_
   intro a47 hE e47 kp; replace e40 := kt kp e40; replace e43 := kt kp e43; apply Z04 48 hE k rfl rfl rfl rfl rfl e40
   case h =>
    exact Z09 rfl e43 rfl
   intro a48 hE e48 kp; replace e40 := kt kp e40; refine sd 49 hE k (Z09 rfl e40 e48) ?_; intro a49 hE e49 kp; refine wpList_nil ?_; replace e2 := hE.g e2; replace e3 := hE.g e3; replace e7 := hE.g e7; replace e8 := hE.g e8; replace k := k.env hE; clear hE e1 e9 e10; refine Z00 ?_; refine Z07 e49 rfl ?_
   refine wp_skip ?_; refine Z00 ?_; replace O : OwnT _ _ ((tBlk sb 102 #[.pointer (some ⟨p, 0, none⟩), .int .u64 h.g, .int .i64 h.r, .int .i64 h.a, .int .i64 h.b, .int .i64 h.c, .int .i64 at_, .map (some kb), .map (some fb)]) :: (tMap kb 512 (keptV K)) :: (tMap fb 512 m) :: (tPool vs N) :: (tDisc p mb B n cap bm S (fun _ => none)) :: (tMn mb M) :: (tBlk cb 27 #[.pointer (some ⟨sb, 0, none⟩)]) :: (tBlk hb 39 #[.int .u64 (h.g + 1), .int .i64 root, .int .i64 h.a, .int .i64 h.b, .int .i64 h.c]) :: R) w38 := OwnT.pickR (L := [_, _, _, _, _, _, _, _]) (R := R) O [2, 3, 4, 5, 6, 7, 1, 0] (by decide)
   refine wp_seq ?_; refine wp_seq ?_; refine wp_region_lit ?_
   have hE := Env.refl a49 [50, 51, 52, 11]; refine sd 50 hE k (Z0a O 6 rfl rfl (hE.g e3) rfl Tryz.underlying27 rfl) ?_; intro a50 hE e50 kp; refine zm 51 hE k e2 ?_; intro a51 hE e51 kp; replace e50 := kt kp e50; apply Z06 52 hE k rfl (by rfl) (by rfl) rfl
   case h =>
    simp [go_sem, ↓IntWalk.iteOmega, ev e50, ev e51]
    with_reducible exact ⟨rfl, rfl⟩
   case hc => exact Z5t (R := (tBlk cb 27 #[.pointer (some ⟨sb, 0, none⟩)] :: tBlk hb 39 #[.int .u64 (h.g + 1), .int .i64 root, .int .i64 h.a, .int .i64 h.b, .int .i64 h.c] :: R)) _ O ok (fun W OW => hrow W (OwnT.pickR (L := [_, _]) (R := R) OW [] (by decide))) hn hM (by omega)
   clear O; rintro e w53 ⟨cW, S1, L1, j1, rfl, hj1, O, hcW⟩
   refine ⟨_, rfl, ?_⟩
   intro a52 hE e52 kp; refine sd 11 hE k (Z01 rfl e52) ?_; intro a54 hE e11 kp; refine wpList_nil ?_; replace e2 := hE.g e2; replace e3 := hE.g e3; replace e7 := hE.g e7; replace e8 := hE.g e8; replace k := k.env hE; clear hE e49; refine Z00 ?_; rcases hcW with ⟨rfl, rfl, rfl⟩ | ⟨rfl, hF, rfl, hP1⟩
   rotate_left
   · skip
     refine wp_seq ?_; refine wp_region_lit ?_
     have hE := Env.refl a54 [53, 54]; refine zm 53 hE k e11 ?_; intro a55 hE e53 kp; refine sd 54 hE k (Z08 (Z0x rfl e53 rfl) (decide_eq_true (by omega))) ?_
     intro a56 hE e54 kp; refine wpList_nil ?_; replace e2 := hE.g e2; replace e3 := hE.g e3; replace e7 := hE.g e7; replace e8 := hE.g e8; replace e11 := hE.g e11; replace k := k.env hE; clear hE; refine Z00 ?_; refine Z0h e54 rfl ?_
     refine wp_seq ?_; refine wp_region_lit ?_
     have hE := Env.refl a56 [55, 6]; refine zm 55 hE k e11 ?_; intro a57 hE e55 kp; refine sd 6 hE k (Z01 rfl e55) ?_; intro a58 hE e6 kp; refine wpList_nil ?_; replace k := k.env hE; clear hE e2 e3 e7 e8 e11 e54; refine Z00 ?_; refine wp_ret ?_
     refine Z0m ?_
     replace O : OwnT _ _ ((tBlk sb 102 #[.pointer (some ⟨p, 0, none⟩), .int .u64 h.g, .int .i64 h.r, .int .i64 h.a, .int .i64 h.b, .int .i64 h.c, .int .i64 at_, .map (some kb), .map (some fb)]) :: (tMap kb 512 (keptV K)) :: (tMap fb 512 m) :: (tPool vs N) :: (tDisc p mb B n cap bm S1 L1) :: (tMn mb (M.useN j1)) :: R) w53 := OwnT.pickR (L := [_, _, _, _, _, _, _, _]) (R := R) O [0, 1, 2, 3, 4, 5] (by decide)
     refine Z0k rfl k e6 ?_
     exact ⟨4, j1, rfl, by omega, .inr ⟨rfl, hF, S1, L1, O, .inl ⟨rfl, hP1⟩⟩⟩
   have hSn : ((nowL S (wrF F (fun _ => none) (todo (pgs n) F xs)))).length = n := (OwnT.disc (OwnT.pull O 4 rfl)).ok.len
   refine wp_seq ?_; refine wp_region_lit ?_
   have hE := Env.refl a54 [53, 54]; refine zm 53 hE k e11 ?_; intro a59 hE e53 kp; refine sd 54 hE k (Z08 (Z0x rfl e53 rfl) (decide_eq_false (by omega))) ?_
   intro a60 hE e54 kp; refine wpList_nil ?_; replace e2 := hE.g e2; replace e3 := hE.g e3; replace e7 := hE.g e7; replace e8 := hE.g e8; replace e11 := hE.g e11; replace k := k.env hE; clear hE; refine Z00 ?_; refine Z07 e54 rfl ?_
   refine wp_skip ?_; refine Z00 (wp_seq ?_); refine wp_region_lit ?_
   have hE := Env.refl a60 [56, 57, 58, 59, 60, 12]; refine sd 56 hE k (Z0a O 6 rfl rfl (hE.g e3) rfl Tryz.underlying27 rfl) ?_; intro a61 hE e56 kp; refine sd 57 hE k (Z0d rfl e56) ?_; intro a62 hE e57 kp; apply Z03 58 hE k rfl rfl rfl rfl; case h =>
    simp [go_sem, ↓IntWalk.iteOmega, ev e57]
    with_reducible rfl
   intro a63 hE e58 kp; refine sd 59 hE k (Z0a O 0 rfl rfl e58 rfl Tryz.underlying3 rfl) ?_; intro a64 hE e59 kp; refine sd 60 hE k (Z80 rfl rfl e59 (by omega)) ?_; intro a65 hE e60 kp; refine sd 12 hE k (Z01 rfl e60) ?_; intro a66 hE e12 kp; refine wpList_nil ?_; replace e2 := hE.g e2; replace e3 := hE.g e3; replace e7 := hE.g e7; replace e8 := hE.g e8; replace k := k.env hE; clear hE e11 e54; refine Z00 ?_; replace O : OwnT _ _ ((tDisc p mb B n cap bm ((nowL S (wrF F (fun _ => none) (todo (pgs n) F xs)))) (fun _ => none)) :: (tMn mb (M.useN j1)) :: (tBlk sb 102 #[.pointer (some ⟨p, 0, none⟩), .int .u64 h.g, .int .i64 h.r, .int .i64 h.a, .int .i64 h.b, .int .i64 h.c, .int .i64 at_, .map (some kb), .map (some fb)]) :: (tMap kb 512 (keptV K)) :: (tMap fb 512 m) :: (tPool vs N) :: (tBlk cb 27 #[.pointer (some ⟨sb, 0, none⟩)]) :: (tBlk hb 39 #[.int .u64 (h.g + 1), .int .i64 root, .int .i64 h.a, .int .i64 h.b, .int .i64 h.c]) :: R) w53 := OwnT.pickR (L := [_, _, _, _, _, _, _, _]) (R := R) O [4, 5, 0, 1, 2, 3, 6, 7] (by decide)
   refine wp_seq ?_; refine wp_seq ?_; refine wp_region_lit ?_
   have hE := Env.refl a66 [61, 62, 63, 64, 65, 66, 67, 13]; refine sd 61 hE k (Z0a O 6 rfl rfl (hE.g e3) rfl Tryz.underlying27 rfl) ?_; intro a67 hE e61 kp; refine sd 62 hE k (Z0d rfl e61) ?_; intro a68 hE e62 kp; apply Z03 63 hE k rfl rfl rfl rfl; case h =>
    simp [go_sem, ↓IntWalk.iteOmega, ev e62]
    with_reducible rfl
   intro a69 hE e63 kp; refine sd 64 hE k (Z0a O 2 rfl rfl e63 rfl Tryz.underlying31 rfl) ?_; intro a70 hE e64 kp; refine zm 65 hE k e12 ?_; intro a71 hE e65 kp; replace e64 := kt kp e64; refine zm 66 hE k e8 ?_; intro a72 hE e66 kp; replace e64 := kt kp e64; replace e65 := kt kp e65; apply Z06 67 hE k rfl (by rfl) (by rfl) rfl
   case h =>
    simp [go_sem, ↓IntWalk.iteOmega, ev e64, ev e65, ev e66]
    with_reducible exact ⟨rfl, rfl⟩
   case hc => exact Z2x (1 - at_) (hdB (nextHd h root)) 1 _ O (by omega) (by decide) (decide_eq_true (by omega)) (hM.useN j1) (by omega)
   clear O; rintro e w74 ⟨cV, L2, j2, rfl, hj2, O, hcV⟩
   refine ⟨_, rfl, ?_⟩
   intro a73 hE e67 kp; refine sd 13 hE k (Z01 rfl e67) ?_; intro a75 hE e13 kp; refine wpList_nil ?_; replace e2 := hE.g e2; replace e3 := hE.g e3; replace e7 := hE.g e7; replace e12 := hE.g e12; replace k := k.env hE; clear hE e8; refine Z00 ?_; rw [Z4j] at O
   rcases hcV with ⟨rfl, rfl, rfl⟩ | ⟨rfl, hF, i2, hi2, rfl⟩
   rotate_left
   · obtain rfl : i2 = 0 := by omega
     refine wp_seq ?_; refine wp_region_lit ?_
     have hE := Env.refl a75 [68, 69]; refine zm 68 hE k e13 ?_; intro a76 hE e68 kp; refine sd 69 hE k (Z08 (Z0x rfl e68 rfl) (decide_eq_true (by omega))) ?_
     intro a77 hE e69 kp; refine wpList_nil ?_; replace e2 := hE.g e2; replace e3 := hE.g e3; replace e7 := hE.g e7; replace e12 := hE.g e12; replace e13 := hE.g e13; replace k := k.env hE; clear hE; refine Z00 ?_; refine Z0h e69 rfl ?_
     refine wp_seq ?_; refine wp_region_lit ?_
     have hE := Env.refl a77 [70, 6]; refine zm 70 hE k e13 ?_; intro a78 hE e70 kp; refine sd 6 hE k (Z01 rfl e70) ?_; intro a79 hE e6 kp; refine wpList_nil ?_; replace k := k.env hE; clear hE e2 e3 e7 e12 e13 e69; refine Z00 ?_; refine wp_ret ?_
     refine Z0m ?_
     replace O : OwnT _ _ ((tBlk sb 102 #[.pointer (some ⟨p, 0, none⟩), .int .u64 h.g, .int .i64 h.r, .int .i64 h.a, .int .i64 h.b, .int .i64 h.c, .int .i64 at_, .map (some kb), .map (some fb)]) :: (tMap kb 512 (keptV K)) :: (tMap fb 512 m) :: (tPool vs N) :: (tDisc p mb B n cap bm ((nowL S (wrF F (fun _ => none) (todo (pgs n) F xs)))) (wrS (hdB (nextHd h root)) (1 - at_) (fun _ => none) 0)) :: (tMn mb (M.useN (j1 + j2))) :: R) w74 := OwnT.pickR (L := [_, _, _, _, _, _, _, _]) (R := R) O [2, 3, 4, 5, 0, 1] (by decide)
     refine Z0k rfl k e6 ?_
     exact ⟨4, j1 + j2, rfl, by omega, .inr ⟨rfl, Z2g hF, _, _, O, .inr ⟨rfl, fun i s hs => by cases hs⟩⟩⟩
   refine wp_seq ?_; refine wp_region_lit ?_
   have hE := Env.refl a75 [68, 69]; refine zm 68 hE k e13 ?_; intro a80 hE e68 kp; refine sd 69 hE k (Z08 (Z0x rfl e68 rfl) (decide_eq_false (by omega))) ?_
   intro a81 hE e69 kp; refine wpList_nil ?_; replace e2 := hE.g e2; replace e3 := hE.g e3; replace e7 := hE.g e7; replace e12 := hE.g e12; replace e13 := hE.g e13; replace k := k.env hE; clear hE; refine Z00 ?_; refine Z07 e69 rfl ?_
   refine wp_skip ?_; refine Z00 (wp_seq ?_); refine wp_seq ?_; refine wp_region_lit ?_
   have hE := Env.refl a81 [71, 72, 73, 74, 75, 14]; refine sd 71 hE k (Z0a O 6 rfl rfl (hE.g e3) rfl Tryz.underlying27 rfl) ?_; intro a82 hE e71 kp; refine sd 72 hE k (Z0d rfl e71) ?_; intro a83 hE e72 kp; apply Z03 73 hE k rfl rfl rfl rfl; case h =>
    simp [go_sem, ↓IntWalk.iteOmega, ev e72]
    with_reducible rfl
   intro a84 hE e73 kp; refine sd 74 hE k (Z0a O 2 rfl rfl e73 rfl Tryz.underlying31 rfl) ?_; intro a85 hE e74 kp; apply Z06 75 hE k rfl (by rfl) (by rfl) rfl
   case h =>
    simp [go_sem, ↓IntWalk.iteOmega, ev e74]
    with_reducible exact ⟨rfl, rfl⟩
   case hc => exact Z2y _ O (hM.useN (j1 + 1)) (by omega)
   clear O; rintro e w87 ⟨cF, S3, L3, rfl, O, hcF⟩
   refine ⟨_, rfl, ?_⟩
   intro a86 hE e75 kp; refine sd 14 hE k (Z01 rfl e75) ?_; intro a88 hE e14 kp; refine wpList_nil ?_; replace e2 := hE.g e2; replace e3 := hE.g e3; replace e7 := hE.g e7; replace e12 := hE.g e12; replace k := k.env hE; clear hE e13 e69; refine Z00 ?_; rcases hcF with ⟨rfl, rfl, rfl⟩ | ⟨rfl, hF, rfl, rfl⟩
   rotate_left
   · skip
     refine wp_seq ?_; refine wp_region_lit ?_
     have hE := Env.refl a88 [76, 77]; refine zm 76 hE k e14 ?_; intro a89 hE e76 kp; refine sd 77 hE k (Z08 (Z0x rfl e76 rfl) (decide_eq_true (by omega))) ?_
     intro a90 hE e77 kp; refine wpList_nil ?_; replace e2 := hE.g e2; replace e3 := hE.g e3; replace e7 := hE.g e7; replace e12 := hE.g e12; replace e14 := hE.g e14; replace k := k.env hE; clear hE; refine Z00 ?_; refine Z0h e77 rfl ?_
     refine wp_seq ?_; refine wp_region_lit ?_
     have hE := Env.refl a90 [78, 6]; refine zm 78 hE k e14 ?_; intro a91 hE e78 kp; refine sd 6 hE k (Z01 rfl e78) ?_; intro a92 hE e6 kp; refine wpList_nil ?_; replace k := k.env hE; clear hE e2 e3 e7 e12 e14 e77; refine Z00 ?_; refine wp_ret ?_
     refine Z0m ?_
     replace O : OwnT _ _ ((tBlk sb 102 #[.pointer (some ⟨p, 0, none⟩), .int .u64 h.g, .int .i64 h.r, .int .i64 h.a, .int .i64 h.b, .int .i64 h.c, .int .i64 at_, .map (some kb), .map (some fb)]) :: (tMap kb 512 (keptV K)) :: (tMap fb 512 m) :: (tPool vs N) :: (tDisc p mb B n cap bm ((nowL S (wrF F (fun _ => none) (todo (pgs n) F xs)))) (wrS (hdB (nextHd h root)) (1 - at_) (fun _ => none) 1)) :: (tMn mb (M.useN (j1 + 2))) :: R) w87 := OwnT.pickR (L := [_, _, _, _, _, _, _, _]) (R := R) O [2, 3, 4, 5, 0, 1] (by decide)
     refine Z0k rfl k e6 ?_
     exact ⟨4, j1 + 2, rfl, by omega, .inr ⟨rfl, Z2g hF, _, _, O, .inr ⟨rfl, fun i s hs => Z69 (by omega) hs⟩⟩⟩
   refine wp_seq ?_; refine wp_region_lit ?_
   have hE := Env.refl a88 [76, 77]; refine zm 76 hE k e14 ?_; intro a93 hE e76 kp; refine sd 77 hE k (Z08 (Z0x rfl e76 rfl) (decide_eq_false (by omega))) ?_
   intro a94 hE e77 kp; refine wpList_nil ?_; replace e2 := hE.g e2; replace e3 := hE.g e3; replace e7 := hE.g e7; replace e12 := hE.g e12; replace e14 := hE.g e14; replace k := k.env hE; clear hE; refine Z00 ?_; refine Z07 e77 rfl ?_
   refine wp_skip ?_; refine Z00 ?_; replace O : OwnT _ _ ((tBlk sb 102 #[.pointer (some ⟨p, 0, none⟩), .int .u64 h.g, .int .i64 h.r, .int .i64 h.a, .int .i64 h.b, .int .i64 h.c, .int .i64 at_, .map (some kb), .map (some fb)]) :: (tMap kb 512 (keptV K)) :: (tMap fb 512 m) :: (tPool vs N) :: (tDisc p mb B n cap bm (nowL (nowL S (wrF F (fun _ => none) (todo (pgs n) F xs))) (wrS (hdB (nextHd h root)) (1 - at_) (fun _ => none) 1)) (fun _ => none)) :: (tMn mb (M.useN (j1 + 2))) :: (tBlk cb 27 #[.pointer (some ⟨sb, 0, none⟩)]) :: (tBlk hb 39 #[.int .u64 (h.g + 1), .int .i64 root, .int .i64 h.a, .int .i64 h.b, .int .i64 h.c]) :: R) w87 := OwnT.pickR (L := [_, _, _, _, _, _, _, _]) (R := R) O [2, 3, 4, 5, 0, 1, 6, 7] (by decide)
   refine wp_seq ?_; refine wp_stm (L0 := (tBlk sb 102 #[.pointer (some ⟨p, 0, none⟩), .int .u64 h.g, .int .i64 h.r, .int .i64 h.a, .int .i64 h.b, .int .i64 h.c, .int .i64 at_, .map (some kb), .map (some fb)]) :: (tMap kb 512 (keptV K)) :: (tMap fb 512 m) :: (tPool vs N) :: (tDisc p mb B n cap bm (nowL (nowL S (wrF F (fun _ => none) (todo (pgs n) F xs))) (wrS (hdB (nextHd h root)) (1 - at_) (fun _ => none) 1)) (fun _ => none)) :: (tMn mb (M.useN (j1 + 2))) :: (tBlk cb 27 #[.pointer (some ⟨sb, 0, none⟩)]) :: (tBlk hb 39 #[.int .u64 (h.g + 1), .int .i64 root, .int .i64 h.a, .int .i64 h.b, .int .i64 h.c]) :: R) (L1 := (tBlk sb 102 #[.pointer (some ⟨p, 0, none⟩), .int .u64 (h.g + 1), .int .i64 root, .int .i64 h.a, .int .i64 h.b, .int .i64 h.c, .int .i64 at_, .map (some kb), .map (some fb)]) :: (tMap kb 512 (keptV K)) :: (tMap fb 512 m) :: (tPool vs N) :: (tDisc p mb B n cap bm (nowL (nowL S (wrF F (fun _ => none) (todo (pgs n) F xs))) (wrS (hdB (nextHd h root)) (1 - at_) (fun _ => none) 1)) (fun _ => none)) :: (tMn mb (M.useN (j1 + 2))) :: (tBlk cb 27 #[.pointer (some ⟨sb, 0, none⟩)]) :: (tBlk hb 39 #[.int .u64 (h.g + 1), .int .i64 root, .int .i64 h.a, .int .i64 h.b, .int .i64 h.c]) :: R) (L2 := (tBlk sb 102 #[.pointer (some ⟨p, 0, none⟩), .int .u64 (h.g + 1), .int .i64 root, .int .i64 h.a, .int .i64 h.b, .int .i64 h.c, .int .i64 (1 - at_), .map (some kb), .map (some fb)]) :: (tMap kb 512 (keptV K)) :: (tMap fb 512 m) :: (tPool vs N) :: (tDisc p mb B n cap bm (nowL (nowL S (wrF F (fun _ => none) (todo (pgs n) F xs))) (wrS (hdB (nextHd h root)) (1 - at_) (fun _ => none) 1)) (fun _ => none)) :: (tMn mb (M.useN (j1 + 2))) :: (tBlk cb 27 #[.pointer (some ⟨sb, 0, none⟩)]) :: (tBlk hb 39 #[.int .u64 (h.g + 1), .int .i64 root, .int .i64 h.a, .int .i64 h.b, .int .i64 h.c]) :: R) 6 9 [[], [], [], [], [0, 2], [0, 2, 4], [0, 2, 4, 5], rg 7, rg 8, rg 9] [79, 80, 81, 82, 83, 84, 85, 86] O (by kernel_rfl) ?_
   apply BuildS.det 79 (by kernel_rfl) (by rfl) (by rw [k.size]; rfl) rfl
   case h =>
    intro ax wx hE hO hF; have q0 : wx.cell? ⟨cb, 0, none⟩ = some (.pointer (some ⟨sb, 0, none⟩)) := by rcases hO with O | O | O <;> exact (OwnT.blk O 6 rfl).cell 0
    simp [go_sem, ↓IntWalk.iteOmega, ev (hE.g e3), q0]
    with_reducible rfl
   apply BuildS.det 80 (by kernel_rfl) (by rfl) (by rw [k.size]; rfl) rfl
   case h =>
    intro ax wx hE hO hF; have q0 : wx.cell? ⟨cb, 0, none⟩ = some (.pointer (some ⟨sb, 0, none⟩)) := by rcases hO with O | O | O <;> exact (OwnT.blk O 6 rfl).cell 0
    simp [go_sem, ↓IntWalk.iteOmega, ev (hE.g e3), q0]
    with_reducible rfl
   apply BuildS.det 81 (by kernel_rfl) (by rfl) (by rw [k.size]; rfl) rfl
   case h =>
    intro ax wx hE hO hF; have q0 : wx.cell? ⟨hb, 0, none⟩ = some (.int .u64 (h.g + 1)) := by rcases hO with O | O | O <;> exact (OwnT.blk O 7 rfl).cell 0
    have q1 : wx.cell? ⟨hb, 1, none⟩ = some (.int .i64 root) := by rcases hO with O | O | O <;> exact (OwnT.blk O 7 rfl).cell 1
    have q2 : wx.cell? ⟨hb, 2, none⟩ = some (.int .i64 h.a) := by rcases hO with O | O | O <;> exact (OwnT.blk O 7 rfl).cell 2
    have q3 : wx.cell? ⟨hb, 3, none⟩ = some (.int .i64 h.b) := by rcases hO with O | O | O <;> exact (OwnT.blk O 7 rfl).cell 3
    have q4 : wx.cell? ⟨hb, 4, none⟩ = some (.int .i64 h.c) := by rcases hO with O | O | O <;> exact (OwnT.blk O 7 rfl).cell 4
    simp [go_sem, ↓IntWalk.iteOmega, ev (hE.g e7), q0, q1, q2, q3, q4]
    with_reducible rfl
   apply BuildS.det 82 (by kernel_rfl) (by rfl) (by rw [k.size]; rfl) rfl
   case h =>
    intro ax wx hE hO hF; exact Z02 rfl (hE.g e12)
   apply BuildS.det 83 (by kernel_rfl) (by rfl) (by rw [k.size]; rfl) rfl
   case h =>
    intro ax wx hE hO hF; have e79 := hF 0 (detL 0 79 _) (by decide) ml3
    exact Z0d rfl e79
   apply BuildS.det 84 (by kernel_rfl) (by rfl) (by rw [k.size]; rfl) rfl
   case h =>
    intro ax wx hE hO hF; have e83 := hF 4 (detL 4 83 _) (by decide) ml0
    simp [go_sem, ↓IntWalk.iteOmega, ev e83]
    with_reducible rfl
   refine BuildS.store1 rfl rfl rfl rfl ?_ ?_
   · intro ax wx hE O hF; have e81 := hF 2 (detL 2 81 _) (by decide) ml3
     have e84 := hF 5 (detL 5 84 _) (by decide) ml0
     have hbk := OwnT.blk O 0 rfl
     have q1 : wx.cell? ⟨sb, 1, none⟩ = some (.int .u64 h.g) := hbk.cell 1
     have q2 : wx.cell? ⟨sb, 2, none⟩ = some (.int .i64 h.r) := hbk.cell 2
     have q3 : wx.cell? ⟨sb, 3, none⟩ = some (.int .i64 h.a) := hbk.cell 3
     have q4 : wx.cell? ⟨sb, 4, none⟩ = some (.int .i64 h.b) := hbk.cell 4
     have q5 : wx.cell? ⟨sb, 5, none⟩ = some (.int .i64 h.c) := hbk.cell 5
     have z1 : wx.frozen? ⟨sb, 1, none⟩ = false := hbk.frozen 1
     have z2 : wx.frozen? ⟨sb, 2, none⟩ = false := hbk.frozen 2
     have z3 : wx.frozen? ⟨sb, 3, none⟩ = false := hbk.frozen 3
     have z4 : wx.frozen? ⟨sb, 4, none⟩ = false := hbk.frozen 4
     have z5 : wx.frozen? ⟨sb, 5, none⟩ = false := hbk.frozen 5
     refine ⟨(((((wx.setCell ⟨sb, 1, none⟩ (.int .u64 (h.g + 1))).setCell ⟨sb, 2, none⟩ (.int .i64 root)).setCell ⟨sb, 3, none⟩ (.int .i64 h.a)).setCell ⟨sb, 4, none⟩ (.int .i64 h.b)).setCell ⟨sb, 5, none⟩ (.int .i64 h.c)), by simp [go_sem, ↓IntWalk.iteOmega, ev e81, ev e84, q1, z1, q2, z2, q3, z3, q4, z4, q5, z5], OwnT.push 0 rfl ((((((OwnT.pull O 0 rfl).set 1 (.int .u64 (h.g + 1))).set 2 (.int .i64 root)).set 3 (.int .i64 h.a)).set 4 (.int .i64 h.b)).set 5 (.int .i64 h.c))⟩
   apply BuildS.det 85 (by kernel_rfl) (by rfl) (by rw [k.size]; rfl) rfl
   case h =>
    intro ax wx hE hO hF; have e80 := hF 1 (detL 1 80 _) (by decide) ml5
    exact Z0d rfl e80
   apply BuildS.det 86 (by kernel_rfl) (by rfl) (by rw [k.size]; rfl) rfl
   case h =>
    intro ax wx hE hO hF; have e85 := hF 7 (detL 7 85 _) (by decide) ml0
    simp [go_sem, ↓IntWalk.iteOmega, ev e85]
    with_reducible rfl
   refine BuildS.store2 rfl rfl (by decide) rfl rfl ?_ ?_
   · intro ax wx hE O hF; have e82 := hF 3 (detL 3 82 _) (by decide) ml5
     have e86 := hF 8 (detL 8 86 _) (by decide) ml0
     have hbk := OwnT.blk O 0 rfl
     have q6 : wx.cell? ⟨sb, 6, none⟩ = some (.int .i64 at_) := hbk.cell 6
     have z6 : wx.frozen? ⟨sb, 6, none⟩ = false := hbk.frozen 6
     refine ⟨wx.setCell ⟨sb, 6, none⟩ (.int .i64 (1 - at_)), by simp [go_sem, ↓IntWalk.iteOmega, ev e82, ev e86, q6, z6], OwnT.push 0 rfl ((OwnT.pull O 0 rfl).set 6 (.int .i64 (1 - at_)))⟩
   apply BuildL.stop
   refine ⟨by kernel_rfl, ?_⟩
   clear O; intro lx a95 w96 hE hI hL hF; have O := hI.end_ (hL 9 (Nat.le_of_ble_eq_true rfl))
   clear hF hI hL; simp only [List.length_cons, List.length_nil, Nat.zero_add, Nat.reduceAdd, List.drop_succ_cons, List.drop_zero, List.drop_nil, tailOps]
   replace e2 := hE.g e2; replace e3 := hE.g e3; replace k := k.env hE; clear hE e7 e12 e14 e77; refine Z00 (wp_seq ?_); refine wp_region_lit ?_
   have hE := Env.refl a95 [87, 88]; refine sd 87 hE k (Z0a O 6 rfl rfl (hE.g e3) rfl Tryz.underlying27 rfl) ?_; intro a97 hE e87 kp; apply Z06 88 hE k rfl (by rfl) (by rfl) rfl
   case h =>
    simp [go_sem, ↓IntWalk.iteOmega, ev e87]
    with_reducible exact ⟨rfl, rfl⟩
   case hc => exact Z3y (h := nextHd h root) (R := (tDisc p mb B n cap bm (nowL (nowL S (wrF F (fun _ => none) (todo (pgs n) F xs))) (wrS (hdB (nextHd h root)) (1 - at_) (fun _ => none) 1)) (fun _ => none) :: tMn mb (M.useN (j1 + 2)) :: tBlk cb 27 #[.pointer (some ⟨sb, 0, none⟩)] :: tBlk hb 39 #[.int .u64 (h.g + 1), .int .i64 root, .int .i64 h.a, .int .i64 h.b, .int .i64 h.c] :: R)) (A := none) (ca := 0) (xs := []) _ O ok (fun W OW i x hx => by simp at hx) (by decide)
   clear O; rintro e w99 ⟨m2, rfl, O, ok2⟩
   refine ⟨_, rfl, ?_⟩
   intro a98 hE e88 kp; refine wpList_nil ?_; replace e2 := hE.g e2; replace e3 := hE.g e3; replace k := k.env hE; clear hE e88; refine Z00 ?_; have ok3 : StOk (pgs n) K (fun _ => none) vs N m2 := by
    have e : (fun i => if (!decide (i ∈ ([] : List Int))) = true then none else F i) = fun _ => none := by funext i; simp
    rwa [e] at ok2
   refine wp_seq ?_; refine wp_region_lit ?_
   have hE := Env.refl a98 [89, 90, 91]; refine sd 89 hE k (Z0a O 6 rfl rfl (hE.g e3) rfl Tryz.underlying27 rfl) ?_; intro a100 hE e89 kp; refine zm 90 hE k e2 ?_; intro a101 hE e90 kp; replace e89 := kt kp e89; apply Z06 91 hE k rfl (by rfl) (by rfl) rfl
   case h =>
    simp [go_sem, ↓IntWalk.iteOmega, ev e89, ev e90]
    with_reducible exact ⟨rfl, rfl⟩
   case hc => exact Z51 (h := nextHd h root) (R := (tMn mb (M.useN (j1 + 2)) :: tBlk cb 27 #[.pointer (some ⟨sb, 0, none⟩)] :: tBlk hb 39 #[.int .u64 (h.g + 1), .int .i64 root, .int .i64 h.a, .int .i64 h.b, .int .i64 h.c] :: R)) _ O ok3 (fun W OW => hrow W (OwnT.pickR (L := [_, _, _]) (R := R) OW [] (by decide))) hn
   clear O; rintro e w103 ⟨m3, rfl, O, ok4⟩
   refine ⟨_, rfl, ?_⟩
   intro a102 hE e91 kp; refine wpList_nil ?_; replace k := k.env hE; clear hE e2 e3 e91; refine Z00 (wp_seq ?_); refine wp_region_lit ?_
   have hE := Env.refl a102 [6]; refine sd 6 hE k (Z01 rfl rfl) ?_; intro a104 hE e6 kp; refine wpList_nil ?_; replace k := k.env hE; clear hE; refine Z00 ?_; refine wp_ret ?_
   replace O : OwnT _ _ ((tBlk sb 102 #[.pointer (some ⟨p, 0, none⟩), .int .u64 (h.g + 1), .int .i64 root, .int .i64 h.a, .int .i64 h.b, .int .i64 h.c, .int .i64 (1 - at_), .map (some kb), .map (some fb)]) :: (tMap kb 512 (keptV (inP (pgs n) xs))) :: (tMap fb 512 m3) :: (tPool vs N) :: (tDisc p mb B n cap bm (nowL (nowL S (wrF F (fun _ => none) (todo (pgs n) F xs))) (wrS (hdB (nextHd h root)) (1 - at_) (fun _ => none) 1)) (fun _ => none)) :: (tMn mb (M.useN (j1 + 2))) :: R) w103 := OwnT.pickR (L := [_, _, _, _, _, _, _, _]) (R := R) O [0, 1, 2, 3, 4, 5] (by decide)
   have ok5 : StOk (pgs n) (inP (pgs n) xs) (fun _ => none) vs N m3 := by
    have e : (fun i => if inP (pgs n) xs i = true then none else (none : Option Nd)) = fun _ => none := by funext i; split <;> rfl
    rwa [e] at ok4
   refine Z0k rfl k e6 ?_
   exact ⟨0, j1 + 2, rfl, by omega, .inl ⟨rfl, m3, O, ok5⟩⟩
 · skip
   have hin : root ∈ xs := by rcases hrt with e | e; exact absurd e hr0; exact e
   refine wp_seq ?_; refine wp_seq ?_; refine wp_region_lit ?_
   have hE := Env.refl a31 [33, 34, 35, 36, 37, 38, 39, 40, 41, 42, 43, 44, 45, 46, 47, 48, 49]; refine zm 33 hE k e9 ?_; intro a105 hE e33 kp; refine sd 34 hE k (Z08 (Z0x rfl e33 rfl) (decide_eq_false (by omega))) ?_
   intro a106 hE e34 kp; refine sd 35 hE k (Z02 rfl e34) ?_; intro a107 hE e35 kp; apply Z04 36 hE k rfl rfl rfl rfl rfl e35
   case h =>
    exact Z02 rfl (hE.g e2)
   intro a108 hE e36 kp; replace e35 := kt kp e35; apply Z04 37 hE k rfl rfl rfl rfl rfl e35
   case h =>
    exact Z02 rfl (hE.g e10)
   intro a109 hE e37 kp; replace e35 := kt kp e35; replace e36 := kt kp e36; apply Z1r 38 hE k rfl (by rfl) (by rfl) rfl rfl e35
   case h =>
    simp [go_sem, ↓IntWalk.iteOmega, ev e36, ev e37]
    with_reducible exact ⟨rfl, rfl⟩
   case hc => exact Z3k (lostB (pgs n) K F) _ (hrow _ (OwnT.pickR (L := [_, _, _, _, _, _, _, _]) (R := R) O [] (by decide))) (by omega) (Go.Proofs.enters_of Tryz.func56 (by kernel_rfl) rfl) (fun v hv W hW => Z37 v W (OwnT.stR (OwnT.pickR (L := [_, _, _, _, _, _, _, _]) (R := R) (OwnT.ext O hW) [2, 3, 4, 5, 6] (by decide))) (OwnT.disc (OwnT.pull (OwnT.ext O hW) 6 rfl)) ok ((OwnT.blk (OwnT.ext O hW) 1 rfl).cell 0))
   rintro e w111 ⟨he, RE⟩
   replace O := OwnT.ext O RE; refine ⟨_, he.trans (congrArg (fun b => Ending.returned (.bool b)) hlost), ?_⟩
   intro a110 hE e38 kp; replace e35 := kt kp e35; refine sd 39 hE k (Z09 rfl e35 e38) ?_; intro a112 hE e39 kp; refine sd 40 hE k (Z02 rfl e39) ?_; intro a113 hE e40 kp; apply Z04 41 hE k rfl rfl rfl rfl rfl e40
   case h =>
    exact Z02 rfl (hE.g e1)
   intro a114 hE e41 kp; replace e40 := kt kp e40; apply Z04 42 hE k rfl rfl rfl rfl rfl e40
   case h =>
    exact Z08 (Z0x rfl e41 rfl) (decide_eq_true (by omega))
   intro a115 hE e42 kp; replace e40 := kt kp e40; apply Z04 43 hE k rfl rfl rfl rfl rfl e40
   case h =>
    exact Z02 rfl e42
   intro a116 hE e43 kp; replace e40 := kt kp e40; apply Z04 44 hE k rfl rfl rfl rfl rfl e43
   case h =>
    exact Z02 rfl (hE.g e2)
   intro a117 hE e44 kp; replace e40 := kt kp e40; replace e43 := kt kp e43; apply Z04 45 hE k rfl rfl rfl rfl rfl e43
   case h =>
    exact Z02 rfl (hE.g e1)
   intro a118 hE e45 kp; replace e40 := kt kp e40; replace e43 := kt kp e43; replace e44 := kt kp e44; apply Z1r 46 hE k rfl (by rfl) (by rfl) rfl rfl e43
   case h =>
    simp [go_sem, ↓IntWalk.iteOmega, ev e44, ev e45]
    with_reducible exact ⟨rfl, rfl⟩
   case hc => exact Z3l root _ (hrow _ (OwnT.pickR (L := [_, _, _, _, _, _, _, _]) (R := R) O [] (by decide))) (by omega)
   rintro e w120 ⟨he, RE⟩
   replace O := OwnT.ext O RE; refine ⟨_, he.trans (congrArg (fun b => Ending.returned (.bool b)) (decide_eq_true hin)), ?_⟩
   intro a119 hE e46 kp; replace e40 := kt kp e40; replace e43 := kt kp e43; apply Z04 47 hE k rfl rfl rfl rfl rfl e43
   case h =>
    exact Z15 rfl e46
   intro a121 hE e47 kp; replace e40 := kt kp e40; replace e43 := kt kp e43; apply Z04 48 hE k rfl rfl rfl rfl rfl e40
   case h =>
    exact Z0b rfl e43 e47
   intro a122 hE e48 kp; replace e40 := kt kp e40; refine sd 49 hE k (Z09 rfl e40 e48) ?_; intro a123 hE e49 kp; refine wpList_nil ?_; replace e2 := hE.g e2; replace e3 := hE.g e3; replace e7 := hE.g e7; replace e8 := hE.g e8; replace k := k.env hE; clear hE e1 e9 e10; refine Z00 ?_; refine Z07 e49 rfl ?_
   refine wp_skip ?_; refine Z00 ?_; replace O : OwnT _ _ ((tBlk sb 102 #[.pointer (some ⟨p, 0, none⟩), .int .u64 h.g, .int .i64 h.r, .int .i64 h.a, .int .i64 h.b, .int .i64 h.c, .int .i64 at_, .map (some kb), .map (some fb)]) :: (tMap kb 512 (keptV K)) :: (tMap fb 512 m) :: (tPool vs N) :: (tDisc p mb B n cap bm S (fun _ => none)) :: (tMn mb M) :: (tBlk cb 27 #[.pointer (some ⟨sb, 0, none⟩)]) :: (tBlk hb 39 #[.int .u64 (h.g + 1), .int .i64 root, .int .i64 h.a, .int .i64 h.b, .int .i64 h.c]) :: R) w120 := OwnT.pickR (L := [_, _, _, _, _, _, _, _]) (R := R) O [2, 3, 4, 5, 6, 7, 1, 0] (by decide)
   refine wp_seq ?_; refine wp_seq ?_; refine wp_region_lit ?_
   have hE := Env.refl a123 [50, 51, 52, 11]; refine sd 50 hE k (Z0a O 6 rfl rfl (hE.g e3) rfl Tryz.underlying27 rfl) ?_; intro a124 hE e50 kp; refine zm 51 hE k e2 ?_; intro a125 hE e51 kp; replace e50 := kt kp e50; apply Z06 52 hE k rfl (by rfl) (by rfl) rfl
   case h =>
    simp [go_sem, ↓IntWalk.iteOmega, ev e50, ev e51]
    with_reducible exact ⟨rfl, rfl⟩
   case hc => exact Z5t (R := (tBlk cb 27 #[.pointer (some ⟨sb, 0, none⟩)] :: tBlk hb 39 #[.int .u64 (h.g + 1), .int .i64 root, .int .i64 h.a, .int .i64 h.b, .int .i64 h.c] :: R)) _ O ok (fun W OW => hrow W (OwnT.pickR (L := [_, _]) (R := R) OW [] (by decide))) hn hM (by omega)
   clear O; rintro e w127 ⟨cW, S1, L1, j1, rfl, hj1, O, hcW⟩
   refine ⟨_, rfl, ?_⟩
   intro a126 hE e52 kp; refine sd 11 hE k (Z01 rfl e52) ?_; intro a128 hE e11 kp; refine wpList_nil ?_; replace e2 := hE.g e2; replace e3 := hE.g e3; replace e7 := hE.g e7; replace e8 := hE.g e8; replace k := k.env hE; clear hE e49; refine Z00 ?_; rcases hcW with ⟨rfl, rfl, rfl⟩ | ⟨rfl, hF, rfl, hP1⟩
   rotate_left
   · skip
     refine wp_seq ?_; refine wp_region_lit ?_
     have hE := Env.refl a128 [53, 54]; refine zm 53 hE k e11 ?_; intro a129 hE e53 kp; refine sd 54 hE k (Z08 (Z0x rfl e53 rfl) (decide_eq_true (by omega))) ?_
     intro a130 hE e54 kp; refine wpList_nil ?_; replace e2 := hE.g e2; replace e3 := hE.g e3; replace e7 := hE.g e7; replace e8 := hE.g e8; replace e11 := hE.g e11; replace k := k.env hE; clear hE; refine Z00 ?_; refine Z0h e54 rfl ?_
     refine wp_seq ?_; refine wp_region_lit ?_
     have hE := Env.refl a130 [55, 6]; refine zm 55 hE k e11 ?_; intro a131 hE e55 kp; refine sd 6 hE k (Z01 rfl e55) ?_; intro a132 hE e6 kp; refine wpList_nil ?_; replace k := k.env hE; clear hE e2 e3 e7 e8 e11 e54; refine Z00 ?_; refine wp_ret ?_
     refine Z0m ?_
     replace O : OwnT _ _ ((tBlk sb 102 #[.pointer (some ⟨p, 0, none⟩), .int .u64 h.g, .int .i64 h.r, .int .i64 h.a, .int .i64 h.b, .int .i64 h.c, .int .i64 at_, .map (some kb), .map (some fb)]) :: (tMap kb 512 (keptV K)) :: (tMap fb 512 m) :: (tPool vs N) :: (tDisc p mb B n cap bm S1 L1) :: (tMn mb (M.useN j1)) :: R) w127 := OwnT.pickR (L := [_, _, _, _, _, _, _, _]) (R := R) O [0, 1, 2, 3, 4, 5] (by decide)
     refine Z0k rfl k e6 ?_
     exact ⟨4, j1, rfl, by omega, .inr ⟨rfl, hF, S1, L1, O, .inl ⟨rfl, hP1⟩⟩⟩
   have hSn : ((nowL S (wrF F (fun _ => none) (todo (pgs n) F xs)))).length = n := (OwnT.disc (OwnT.pull O 4 rfl)).ok.len
   refine wp_seq ?_; refine wp_region_lit ?_
   have hE := Env.refl a128 [53, 54]; refine zm 53 hE k e11 ?_; intro a133 hE e53 kp; refine sd 54 hE k (Z08 (Z0x rfl e53 rfl) (decide_eq_false (by omega))) ?_
   intro a134 hE e54 kp; refine wpList_nil ?_; replace e2 := hE.g e2; replace e3 := hE.g e3; replace e7 := hE.g e7; replace e8 := hE.g e8; replace e11 := hE.g e11; replace k := k.env hE; clear hE; refine Z00 ?_; refine Z07 e54 rfl ?_
   refine wp_skip ?_; refine Z00 (wp_seq ?_); refine wp_region_lit ?_
   have hE := Env.refl a134 [56, 57, 58, 59, 60, 12]; refine sd 56 hE k (Z0a O 6 rfl rfl (hE.g e3) rfl Tryz.underlying27 rfl) ?_; intro a135 hE e56 kp; refine sd 57 hE k (Z0d rfl e56) ?_; intro a136 hE e57 kp; apply Z03 58 hE k rfl rfl rfl rfl; case h =>
    simp [go_sem, ↓IntWalk.iteOmega, ev e57]
    with_reducible rfl
   intro a137 hE e58 kp; refine sd 59 hE k (Z0a O 0 rfl rfl e58 rfl Tryz.underlying3 rfl) ?_; intro a138 hE e59 kp; refine sd 60 hE k (Z80 rfl rfl e59 (by omega)) ?_; intro a139 hE e60 kp; refine sd 12 hE k (Z01 rfl e60) ?_; intro a140 hE e12 kp; refine wpList_nil ?_; replace e2 := hE.g e2; replace e3 := hE.g e3; replace e7 := hE.g e7; replace e8 := hE.g e8; replace k := k.env hE; clear hE e11 e54; refine Z00 ?_; replace O : OwnT _ _ ((tDisc p mb B n cap bm ((nowL S (wrF F (fun _ => none) (todo (pgs n) F xs)))) (fun _ => none)) :: (tMn mb (M.useN j1)) :: (tBlk sb 102 #[.pointer (some ⟨p, 0, none⟩), .int .u64 h.g, .int .i64 h.r, .int .i64 h.a, .int .i64 h.b, .int .i64 h.c, .int .i64 at_, .map (some kb), .map (some fb)]) :: (tMap kb 512 (keptV K)) :: (tMap fb 512 m) :: (tPool vs N) :: (tBlk cb 27 #[.pointer (some ⟨sb, 0, none⟩)]) :: (tBlk hb 39 #[.int .u64 (h.g + 1), .int .i64 root, .int .i64 h.a, .int .i64 h.b, .int .i64 h.c]) :: R) w127 := OwnT.pickR (L := [_, _, _, _, _, _, _, _]) (R := R) O [4, 5, 0, 1, 2, 3, 6, 7] (by decide)
   refine wp_seq ?_; refine wp_seq ?_; refine wp_region_lit ?_
   have hE := Env.refl a140 [61, 62, 63, 64, 65, 66, 67, 13]; refine sd 61 hE k (Z0a O 6 rfl rfl (hE.g e3) rfl Tryz.underlying27 rfl) ?_; intro a141 hE e61 kp; refine sd 62 hE k (Z0d rfl e61) ?_; intro a142 hE e62 kp; apply Z03 63 hE k rfl rfl rfl rfl; case h =>
    simp [go_sem, ↓IntWalk.iteOmega, ev e62]
    with_reducible rfl
   intro a143 hE e63 kp; refine sd 64 hE k (Z0a O 2 rfl rfl e63 rfl Tryz.underlying31 rfl) ?_; intro a144 hE e64 kp; refine zm 65 hE k e12 ?_; intro a145 hE e65 kp; replace e64 := kt kp e64; refine zm 66 hE k e8 ?_; intro a146 hE e66 kp; replace e64 := kt kp e64; replace e65 := kt kp e65; apply Z06 67 hE k rfl (by rfl) (by rfl) rfl
   case h =>
    simp [go_sem, ↓IntWalk.iteOmega, ev e64, ev e65, ev e66]
    with_reducible exact ⟨rfl, rfl⟩
   case hc => exact Z2x (1 - at_) (hdB (nextHd h root)) 1 _ O (by omega) (by decide) (decide_eq_true (by omega)) (hM.useN j1) (by omega)
   clear O; rintro e w148 ⟨cV, L2, j2, rfl, hj2, O, hcV⟩
   refine ⟨_, rfl, ?_⟩
   intro a147 hE e67 kp; refine sd 13 hE k (Z01 rfl e67) ?_; intro a149 hE e13 kp; refine wpList_nil ?_; replace e2 := hE.g e2; replace e3 := hE.g e3; replace e7 := hE.g e7; replace e12 := hE.g e12; replace k := k.env hE; clear hE e8; refine Z00 ?_; rw [Z4j] at O
   rcases hcV with ⟨rfl, rfl, rfl⟩ | ⟨rfl, hF, i2, hi2, rfl⟩
   rotate_left
   · obtain rfl : i2 = 0 := by omega
     refine wp_seq ?_; refine wp_region_lit ?_
     have hE := Env.refl a149 [68, 69]; refine zm 68 hE k e13 ?_; intro a150 hE e68 kp; refine sd 69 hE k (Z08 (Z0x rfl e68 rfl) (decide_eq_true (by omega))) ?_
     intro a151 hE e69 kp; refine wpList_nil ?_; replace e2 := hE.g e2; replace e3 := hE.g e3; replace e7 := hE.g e7; replace e12 := hE.g e12; replace e13 := hE.g e13; replace k := k.env hE; clear hE; refine Z00 ?_; refine Z0h e69 rfl ?_
     refine wp_seq ?_; refine wp_region_lit ?_
     have hE := Env.refl a151 [70, 6]; refine zm 70 hE k e13 ?_; intro a152 hE e70 kp; refine sd 6 hE k (Z01 rfl e70) ?_; intro a153 hE e6 kp; refine wpList_nil ?_; replace k := k.env hE; clear hE e2 e3 e7 e12 e13 e69; refine Z00 ?_; refine wp_ret ?_
     refine Z0m ?_
     replace O : OwnT _ _ ((tBlk sb 102 #[.pointer (some ⟨p, 0, none⟩), .int .u64 h.g, .int .i64 h.r, .int .i64 h.a, .int .i64 h.b, .int .i64 h.c, .int .i64 at_, .map (some kb), .map (some fb)]) :: (tMap kb 512 (keptV K)) :: (tMap fb 512 m) :: (tPool vs N) :: (tDisc p mb B n cap bm ((nowL S (wrF F (fun _ => none) (todo (pgs n) F xs)))) (wrS (hdB (nextHd h root)) (1 - at_) (fun _ => none) 0)) :: (tMn mb (M.useN (j1 + j2))) :: R) w148 := OwnT.pickR (L := [_, _, _, _, _, _, _, _]) (R := R) O [2, 3, 4, 5, 0, 1] (by decide)
     refine Z0k rfl k e6 ?_
     exact ⟨4, j1 + j2, rfl, by omega, .inr ⟨rfl, Z2g hF, _, _, O, .inr ⟨rfl, fun i s hs => by cases hs⟩⟩⟩
   refine wp_seq ?_; refine wp_region_lit ?_
   have hE := Env.refl a149 [68, 69]; refine zm 68 hE k e13 ?_; intro a154 hE e68 kp; refine sd 69 hE k (Z08 (Z0x rfl e68 rfl) (decide_eq_false (by omega))) ?_
   intro a155 hE e69 kp; refine wpList_nil ?_; replace e2 := hE.g e2; replace e3 := hE.g e3; replace e7 := hE.g e7; replace e12 := hE.g e12; replace e13 := hE.g e13; replace k := k.env hE; clear hE; refine Z00 ?_; refine Z07 e69 rfl ?_
   refine wp_skip ?_; refine Z00 (wp_seq ?_); refine wp_seq ?_; refine wp_region_lit ?_
   have hE := Env.refl a155 [71, 72, 73, 74, 75, 14]; refine sd 71 hE k (Z0a O 6 rfl rfl (hE.g e3) rfl Tryz.underlying27 rfl) ?_; intro a156 hE e71 kp; refine sd 72 hE k (Z0d rfl e71) ?_; intro a157 hE e72 kp; apply Z03 73 hE k rfl rfl rfl rfl; case h =>
    simp [go_sem, ↓IntWalk.iteOmega, ev e72]
    with_reducible rfl
   intro a158 hE e73 kp; refine sd 74 hE k (Z0a O 2 rfl rfl e73 rfl Tryz.underlying31 rfl) ?_; intro a159 hE e74 kp; apply Z06 75 hE k rfl (by rfl) (by rfl) rfl
   case h =>
    simp [go_sem, ↓IntWalk.iteOmega, ev e74]
    with_reducible exact ⟨rfl, rfl⟩
   case hc => exact Z2y _ O (hM.useN (j1 + 1)) (by omega)
   clear O; rintro e w161 ⟨cF, S3, L3, rfl, O, hcF⟩
   refine ⟨_, rfl, ?_⟩
   intro a160 hE e75 kp; refine sd 14 hE k (Z01 rfl e75) ?_; intro a162 hE e14 kp; refine wpList_nil ?_; replace e2 := hE.g e2; replace e3 := hE.g e3; replace e7 := hE.g e7; replace e12 := hE.g e12; replace k := k.env hE; clear hE e13 e69; refine Z00 ?_; rcases hcF with ⟨rfl, rfl, rfl⟩ | ⟨rfl, hF, rfl, rfl⟩
   rotate_left
   · skip
     refine wp_seq ?_; refine wp_region_lit ?_
     have hE := Env.refl a162 [76, 77]; refine zm 76 hE k e14 ?_; intro a163 hE e76 kp; refine sd 77 hE k (Z08 (Z0x rfl e76 rfl) (decide_eq_true (by omega))) ?_
     intro a164 hE e77 kp; refine wpList_nil ?_; replace e2 := hE.g e2; replace e3 := hE.g e3; replace e7 := hE.g e7; replace e12 := hE.g e12; replace e14 := hE.g e14; replace k := k.env hE; clear hE; refine Z00 ?_; refine Z0h e77 rfl ?_
     refine wp_seq ?_; refine wp_region_lit ?_
     have hE := Env.refl a164 [78, 6]; refine zm 78 hE k e14 ?_; intro a165 hE e78 kp; refine sd 6 hE k (Z01 rfl e78) ?_; intro a166 hE e6 kp; refine wpList_nil ?_; replace k := k.env hE; clear hE e2 e3 e7 e12 e14 e77; refine Z00 ?_; refine wp_ret ?_
     refine Z0m ?_
     replace O : OwnT _ _ ((tBlk sb 102 #[.pointer (some ⟨p, 0, none⟩), .int .u64 h.g, .int .i64 h.r, .int .i64 h.a, .int .i64 h.b, .int .i64 h.c, .int .i64 at_, .map (some kb), .map (some fb)]) :: (tMap kb 512 (keptV K)) :: (tMap fb 512 m) :: (tPool vs N) :: (tDisc p mb B n cap bm ((nowL S (wrF F (fun _ => none) (todo (pgs n) F xs)))) (wrS (hdB (nextHd h root)) (1 - at_) (fun _ => none) 1)) :: (tMn mb (M.useN (j1 + 2))) :: R) w161 := OwnT.pickR (L := [_, _, _, _, _, _, _, _]) (R := R) O [2, 3, 4, 5, 0, 1] (by decide)
     refine Z0k rfl k e6 ?_
     exact ⟨4, j1 + 2, rfl, by omega, .inr ⟨rfl, Z2g hF, _, _, O, .inr ⟨rfl, fun i s hs => Z69 (by omega) hs⟩⟩⟩
   refine wp_seq ?_; refine wp_region_lit ?_
   have hE := Env.refl a162 [76, 77]; refine zm 76 hE k e14 ?_; intro a167 hE e76 kp; refine sd 77 hE k (Z08 (Z0x rfl e76 rfl) (decide_eq_false (by omega))) ?_
   intro a168 hE e77 kp; refine wpList_nil ?_; replace e2 := hE.g e2; replace e3 := hE.g e3; replace e7 := hE.g e7; replace e12 := hE.g e12; replace e14 := hE.g e14; replace k := k.env hE; clear hE; refine Z00 ?_; refine Z07 e77 rfl ?_
   refine wp_skip ?_; refine Z00 ?_; replace O : OwnT _ _ ((tBlk sb 102 #[.pointer (some ⟨p, 0, none⟩), .int .u64 h.g, .int .i64 h.r, .int .i64 h.a, .int .i64 h.b, .int .i64 h.c, .int .i64 at_, .map (some kb), .map (some fb)]) :: (tMap kb 512 (keptV K)) :: (tMap fb 512 m) :: (tPool vs N) :: (tDisc p mb B n cap bm (nowL (nowL S (wrF F (fun _ => none) (todo (pgs n) F xs))) (wrS (hdB (nextHd h root)) (1 - at_) (fun _ => none) 1)) (fun _ => none)) :: (tMn mb (M.useN (j1 + 2))) :: (tBlk cb 27 #[.pointer (some ⟨sb, 0, none⟩)]) :: (tBlk hb 39 #[.int .u64 (h.g + 1), .int .i64 root, .int .i64 h.a, .int .i64 h.b, .int .i64 h.c]) :: R) w161 := OwnT.pickR (L := [_, _, _, _, _, _, _, _]) (R := R) O [2, 3, 4, 5, 0, 1, 6, 7] (by decide)
   refine wp_seq ?_; refine wp_stm (L0 := (tBlk sb 102 #[.pointer (some ⟨p, 0, none⟩), .int .u64 h.g, .int .i64 h.r, .int .i64 h.a, .int .i64 h.b, .int .i64 h.c, .int .i64 at_, .map (some kb), .map (some fb)]) :: (tMap kb 512 (keptV K)) :: (tMap fb 512 m) :: (tPool vs N) :: (tDisc p mb B n cap bm (nowL (nowL S (wrF F (fun _ => none) (todo (pgs n) F xs))) (wrS (hdB (nextHd h root)) (1 - at_) (fun _ => none) 1)) (fun _ => none)) :: (tMn mb (M.useN (j1 + 2))) :: (tBlk cb 27 #[.pointer (some ⟨sb, 0, none⟩)]) :: (tBlk hb 39 #[.int .u64 (h.g + 1), .int .i64 root, .int .i64 h.a, .int .i64 h.b, .int .i64 h.c]) :: R) (L1 := (tBlk sb 102 #[.pointer (some ⟨p, 0, none⟩), .int .u64 (h.g + 1), .int .i64 root, .int .i64 h.a, .int .i64 h.b, .int .i64 h.c, .int .i64 at_, .map (some kb), .map (some fb)]) :: (tMap kb 512 (keptV K)) :: (tMap fb 512 m) :: (tPool vs N) :: (tDisc p mb B n cap bm (nowL (nowL S (wrF F (fun _ => none) (todo (pgs n) F xs))) (wrS (hdB (nextHd h root)) (1 - at_) (fun _ => none) 1)) (fun _ => none)) :: (tMn mb (M.useN (j1 + 2))) :: (tBlk cb 27 #[.pointer (some ⟨sb, 0, none⟩)]) :: (tBlk hb 39 #[.int .u64 (h.g + 1), .int .i64 root, .int .i64 h.a, .int .i64 h.b, .int .i64 h.c]) :: R) (L2 := (tBlk sb 102 #[.pointer (some ⟨p, 0, none⟩), .int .u64 (h.g + 1), .int .i64 root, .int .i64 h.a, .int .i64 h.b, .int .i64 h.c, .int .i64 (1 - at_), .map (some kb), .map (some fb)]) :: (tMap kb 512 (keptV K)) :: (tMap fb 512 m) :: (tPool vs N) :: (tDisc p mb B n cap bm (nowL (nowL S (wrF F (fun _ => none) (todo (pgs n) F xs))) (wrS (hdB (nextHd h root)) (1 - at_) (fun _ => none) 1)) (fun _ => none)) :: (tMn mb (M.useN (j1 + 2))) :: (tBlk cb 27 #[.pointer (some ⟨sb, 0, none⟩)]) :: (tBlk hb 39 #[.int .u64 (h.g + 1), .int .i64 root, .int .i64 h.a, .int .i64 h.b, .int .i64 h.c]) :: R) 6 9 [[], [], [], [], [0, 2], [0, 2, 4], [0, 2, 4, 5], rg 7, rg 8, rg 9] [79, 80, 81, 82, 83, 84, 85, 86] O (by kernel_rfl) ?_
   apply BuildS.det 79 (by kernel_rfl) (by rfl) (by rw [k.size]; rfl) rfl
   case h =>
    intro ax wx hE hO hF; have q0 : wx.cell? ⟨cb, 0, none⟩ = some (.pointer (some ⟨sb, 0, none⟩)) := by rcases hO with O | O | O <;> exact (OwnT.blk O 6 rfl).cell 0
    simp [go_sem, ↓IntWalk.iteOmega, ev (hE.g e3), q0]
    with_reducible rfl
   apply BuildS.det 80 (by kernel_rfl) (by rfl) (by rw [k.size]; rfl) rfl
   case h =>
    intro ax wx hE hO hF; have q0 : wx.cell? ⟨cb, 0, none⟩ = some (.pointer (some ⟨sb, 0, none⟩)) := by rcases hO with O | O | O <;> exact (OwnT.blk O 6 rfl).cell 0
    simp [go_sem, ↓IntWalk.iteOmega, ev (hE.g e3), q0]
    with_reducible rfl
   apply BuildS.det 81 (by kernel_rfl) (by rfl) (by rw [k.size]; rfl) rfl
   case h =>
    intro ax wx hE hO hF; have q0 : wx.cell? ⟨hb, 0, none⟩ = some (.int .u64 (h.g + 1)) := by rcases hO with O | O | O <;> exact (OwnT.blk O 7 rfl).cell 0
    have q1 : wx.cell? ⟨hb, 1, none⟩ = some (.int .i64 root) := by rcases hO with O | O | O <;> exact (OwnT.blk O 7 rfl).cell 1
    have q2 : wx.cell? ⟨hb, 2, none⟩ = some (.int .i64 h.a) := by rcases hO with O | O | O <;> exact (OwnT.blk O 7 rfl).cell 2
    have q3 : wx.cell? ⟨hb, 3, none⟩ = some (.int .i64 h.b) := by rcases hO with O | O | O <;> exact (OwnT.blk O 7 rfl).cell 3
    have q4 : wx.cell? ⟨hb, 4, none⟩ = some (.int .i64 h.c) := by rcases hO with O | O | O <;> exact (OwnT.blk O 7 rfl).cell 4
    simp [go_sem, ↓IntWalk.iteOmega, ev (hE.g e7), q0, q1, q2, q3, q4]
    with_reducible rfl
   apply BuildS.det 82 (by kernel_rfl) (by rfl) (by rw [k.size]; rfl) rfl
   case h =>
    intro ax wx hE hO hF; exact Z02 rfl (hE.g e12)
   apply BuildS.det 83 (by kernel_rfl) (by rfl) (by rw [k.size]; rfl) rfl
   case h =>
    intro ax wx hE hO hF; have e79 := hF 0 (detL 0 79 _) (by decide) ml3
    exact Z0d rfl e79
   apply BuildS.det 84 (by kernel_rfl) (by rfl) (by rw [k.size]; rfl) rfl
   case h =>
    intro ax wx hE hO hF; have e83 := hF 4 (detL 4 83 _) (by decide) ml0
    simp [go_sem, ↓IntWalk.iteOmega, ev e83]
    with_reducible rfl
   refine BuildS.store1 rfl rfl rfl rfl ?_ ?_
   · intro ax wx hE O hF; have e81 := hF 2 (detL 2 81 _) (by decide) ml3
     have e84 := hF 5 (detL 5 84 _) (by decide) ml0
     have hbk := OwnT.blk O 0 rfl
     have q1 : wx.cell? ⟨sb, 1, none⟩ = some (.int .u64 h.g) := hbk.cell 1
     have q2 : wx.cell? ⟨sb, 2, none⟩ = some (.int .i64 h.r) := hbk.cell 2
     have q3 : wx.cell? ⟨sb, 3, none⟩ = some (.int .i64 h.a) := hbk.cell 3
     have q4 : wx.cell? ⟨sb, 4, none⟩ = some (.int .i64 h.b) := hbk.cell 4
     have q5 : wx.cell? ⟨sb, 5, none⟩ = some (.int .i64 h.c) := hbk.cell 5
     have z1 : wx.frozen? ⟨sb, 1, none⟩ = false := hbk.frozen 1
     have z2 : wx.frozen? ⟨sb, 2, none⟩ = false := hbk.frozen 2
     have z3 : wx.frozen? ⟨sb, 3, none⟩ = false := hbk.frozen 3
     have z4 : wx.frozen? ⟨sb, 4, none⟩ = false := hbk.frozen 4
     have z5 : wx.frozen? ⟨sb, 5, none⟩ = false := hbk.frozen 5
     refine ⟨(((((wx.setCell ⟨sb, 1, none⟩ (.int .u64 (h.g + 1))).setCell ⟨sb, 2, none⟩ (.int .i64 root)).setCell ⟨sb, 3, none⟩ (.int .i64 h.a)).setCell ⟨sb, 4, none⟩ (.int .i64 h.b)).setCell ⟨sb, 5, none⟩ (.int .i64 h.c)), by simp [go_sem, ↓IntWalk.iteOmega, ev e81, ev e84, q1, z1, q2, z2, q3, z3, q4, z4, q5, z5], OwnT.push 0 rfl ((((((OwnT.pull O 0 rfl).set 1 (.int .u64 (h.g + 1))).set 2 (.int .i64 root)).set 3 (.int .i64 h.a)).set 4 (.int .i64 h.b)).set 5 (.int .i64 h.c))⟩
   apply BuildS.det 85 (by kernel_rfl) (by rfl) (by rw [k.size]; rfl) rfl
   case h =>
    intro ax wx hE hO hF; have e80 := hF 1 (detL 1 80 _) (by decide) ml5
    exact Z0d rfl e80
   apply BuildS.det 86 (by kernel_rfl) (by rfl) (by rw [k.size]; rfl) rfl
   case h =>
    intro ax wx hE hO hF; have e85 := hF 7 (detL 7 85 _) (by decide) ml0
    simp [go_sem, ↓IntWalk.iteOmega, ev e85]
    with_reducible rfl
   refine BuildS.store2 rfl rfl (by decide) rfl rfl ?_ ?_
   · intro ax wx hE O hF; have e82 := hF 3 (detL 3 82 _) (by decide) ml5
     have e86 := hF 8 (detL 8 86 _) (by decide) ml0
     have hbk := OwnT.blk O 0 rfl
     have q6 : wx.cell? ⟨sb, 6, none⟩ = some (.int .i64 at_) := hbk.cell 6
     have z6 : wx.frozen? ⟨sb, 6, none⟩ = false := hbk.frozen 6
     refine ⟨wx.setCell ⟨sb, 6, none⟩ (.int .i64 (1 - at_)), by simp [go_sem, ↓IntWalk.iteOmega, ev e82, ev e86, q6, z6], OwnT.push 0 rfl ((OwnT.pull O 0 rfl).set 6 (.int .i64 (1 - at_)))⟩
   apply BuildL.stop
   refine ⟨by kernel_rfl, ?_⟩
   clear O; intro lx a169 w170 hE hI hL hF; have O := hI.end_ (hL 9 (Nat.le_of_ble_eq_true rfl))
   clear hF hI hL; simp only [List.length_cons, List.length_nil, Nat.zero_add, Nat.reduceAdd, List.drop_succ_cons, List.drop_zero, List.drop_nil, tailOps]
   replace e2 := hE.g e2; replace e3 := hE.g e3; replace k := k.env hE; clear hE e7 e12 e14 e77; refine Z00 (wp_seq ?_); refine wp_region_lit ?_
   have hE := Env.refl a169 [87, 88]; refine sd 87 hE k (Z0a O 6 rfl rfl (hE.g e3) rfl Tryz.underlying27 rfl) ?_; intro a171 hE e87 kp; apply Z06 88 hE k rfl (by rfl) (by rfl) rfl
   case h =>
    simp [go_sem, ↓IntWalk.iteOmega, ev e87]
    with_reducible exact ⟨rfl, rfl⟩
   case hc => exact Z3y (h := nextHd h root) (R := (tDisc p mb B n cap bm (nowL (nowL S (wrF F (fun _ => none) (todo (pgs n) F xs))) (wrS (hdB (nextHd h root)) (1 - at_) (fun _ => none) 1)) (fun _ => none) :: tMn mb (M.useN (j1 + 2)) :: tBlk cb 27 #[.pointer (some ⟨sb, 0, none⟩)] :: tBlk hb 39 #[.int .u64 (h.g + 1), .int .i64 root, .int .i64 h.a, .int .i64 h.b, .int .i64 h.c] :: R)) (A := none) (ca := 0) (xs := []) _ O ok (fun W OW i x hx => by simp at hx) (by decide)
   clear O; rintro e w173 ⟨m2, rfl, O, ok2⟩
   refine ⟨_, rfl, ?_⟩
   intro a172 hE e88 kp; refine wpList_nil ?_; replace e2 := hE.g e2; replace e3 := hE.g e3; replace k := k.env hE; clear hE e88; refine Z00 ?_; have ok3 : StOk (pgs n) K (fun _ => none) vs N m2 := by
    have e : (fun i => if (!decide (i ∈ ([] : List Int))) = true then none else F i) = fun _ => none := by funext i; simp
    rwa [e] at ok2
   refine wp_seq ?_; refine wp_region_lit ?_
   have hE := Env.refl a172 [89, 90, 91]; refine sd 89 hE k (Z0a O 6 rfl rfl (hE.g e3) rfl Tryz.underlying27 rfl) ?_; intro a174 hE e89 kp; refine zm 90 hE k e2 ?_; intro a175 hE e90 kp; replace e89 := kt kp e89; apply Z06 91 hE k rfl (by rfl) (by rfl) rfl
   case h =>
    simp [go_sem, ↓IntWalk.iteOmega, ev e89, ev e90]
    with_reducible exact ⟨rfl, rfl⟩
   case hc => exact Z51 (h := nextHd h root) (R := (tMn mb (M.useN (j1 + 2)) :: tBlk cb 27 #[.pointer (some ⟨sb, 0, none⟩)] :: tBlk hb 39 #[.int .u64 (h.g + 1), .int .i64 root, .int .i64 h.a, .int .i64 h.b, .int .i64 h.c] :: R)) _ O ok3 (fun W OW => hrow W (OwnT.pickR (L := [_, _, _]) (R := R) OW [] (by decide))) hn
   clear O; rintro e w177 ⟨m3, rfl, O, ok4⟩
   refine ⟨_, rfl, ?_⟩
   intro a176 hE e91 kp; refine wpList_nil ?_; replace k := k.env hE; clear hE e2 e3 e91; refine Z00 (wp_seq ?_); refine wp_region_lit ?_
   have hE := Env.refl a176 [6]; refine sd 6 hE k (Z01 rfl rfl) ?_; intro a178 hE e6 kp; refine wpList_nil ?_; replace k := k.env hE; clear hE; refine Z00 ?_; refine wp_ret ?_
   replace O : OwnT _ _ ((tBlk sb 102 #[.pointer (some ⟨p, 0, none⟩), .int .u64 (h.g + 1), .int .i64 root, .int .i64 h.a, .int .i64 h.b, .int .i64 h.c, .int .i64 (1 - at_), .map (some kb), .map (some fb)]) :: (tMap kb 512 (keptV (inP (pgs n) xs))) :: (tMap fb 512 m3) :: (tPool vs N) :: (tDisc p mb B n cap bm (nowL (nowL S (wrF F (fun _ => none) (todo (pgs n) F xs))) (wrS (hdB (nextHd h root)) (1 - at_) (fun _ => none) 1)) (fun _ => none)) :: (tMn mb (M.useN (j1 + 2))) :: R) w177 := OwnT.pickR (L := [_, _, _, _, _, _, _, _]) (R := R) O [0, 1, 2, 3, 4, 5] (by decide)
   have ok5 : StOk (pgs n) (inP (pgs n) xs) (fun _ => none) vs N m3 := by
    have e : (fun i => if inP (pgs n) xs i = true then none else (none : Option Nd)) = fun _ => none := by funext i; split <;> rfl
    rwa [e] at ok4
   refine Z0k rfl k e6 ?_
   exact ⟨0, j1 + 2, rfl, by omega, .inl ⟨rfl, m3, O, ok5⟩⟩
end Go.Proofs.YtakkhglbdljfiaaGreatDoor
