/- store's law: StoreWhole (printed by XStO.gen.py). -/
import Derived.Test.YtakkhglbdljfiaaGreatDoorKStoreWhole20
namespace Go.Proofs.YtakkhglbdljfiaaGreatDoor
attribute [local simp] BigFrame.eval_const BigFrame.eval_global BigFrame.eval_func
set_option linter.unusedVariables false
set_option linter.unusedSimpArgs false
open Go.RowKit Go.Maps

abbrev wh6 : Hd := fmtHd 9 3 1
def wh0 : List Sec := fmS (List.replicate 480 zsec) noL wh6
theorem wh0_held : Held (pgs 480) wh0 wh6 0 0 [] :=
 ⟨heads_fm (by rw [List.length_replicate]; decide) (by decide), rfl, fun _ => rfl, fun h => absurd h (by decide), fun j c h => by simp at h⟩
theorem pgs480 : pgs 480 = 30 := by decide
theorem next_ok {h : Hd} {c : Int} (ha : h.a = 9 ∧ h.b = 3 ∧ h.c = 1) (hg : 1 ≤ h.g) (hg2 : h.g ≤ 1000) (h1 : 0 ≤ c) (h2 : c < 512) : (nextHd h c).Ok := by
 obtain ⟨a1, a2, a3⟩ := ha
 show HeadOk (h.g + 1) c h.a h.b h.c
 rw [a1, a2, a3]
 exact ⟨by decide, by decide, by decide, by decide, by omega, by omega, h1, h2, by decide, by decide⟩

set_option maxRecDepth 100000 in
set_option maxHeartbeats 8000000 in
theorem Z4e {A : Option Addr} {n1 c1 : Nat} (xs : List Int) (fz : Int) (qk : List UInt8) (W0 : World) (hl1 : xs.length = n1) (hrow1 : Row1 W0 A (Value.int .i64) xs) : Calls Tryz.prog 4 #[.slice A n1 c1, .int .i64 fz, .string (sB qk)] W0 fun e w' => e = .returned (.bool true) ∧ Below W0.heap.size W0 w' := by
 have O := OwnT.start W0
 refine Z0c Tryz.func4 rfl 196 rfl (by rfl) ?_
 intro a1 k hargs; have e0 : a1.eval (.tmp 0) = .slice A n1 c1 := hargs 0 _ rfl
 have e1 : a1.eval (.tmp 1) = .int .i64 fz := hargs 1 _ rfl
 have e2 : a1.eval (.tmp 2) = .string (sB qk) := hargs 2 _ rfl
 clear hargs; refine wp_seq ?_; refine wp_region_lit ?_
 have hE := Env.refl a1 [6]; refine sd 6 hE k (Z01 rfl rfl) ?_; intro a2 hE e6 kp; refine wpList_nil ?_; replace e0 := hE.g e0; replace e1 := hE.g e1; replace e2 := hE.g e2; replace k := k.env hE; clear hE e6; refine Z00 (wp_seq ?_); refine wp_seq ?_; refine wp_region_lit ?_
 have hE := Env.refl a2 [26, 27]; apply Z06 26 hE k rfl (by rfl) (by rfl) rfl
 case h =>
  simp [go_sem, ↓IntWalk.iteOmega]
  with_reducible exact ⟨rfl, rfl⟩
 case hc => exact awake07 _
 rintro e w4 ⟨rfl, RE⟩
 replace O := OwnT.ext O RE; refine ⟨_, rfl, ?_⟩
 intro a3 hE e26 kp; refine sd 27 hE k (Z21 rfl e26) ?_; intro a5 hE e27 kp; refine wpList_nil ?_; replace e0 := hE.g e0; replace e1 := hE.g e1; replace e2 := hE.g e2; replace k := k.env hE; clear hE; refine Z00 ?_; refine Z07 e27 rfl ?_
 refine wp_skip ?_; refine Z00 ?_; by_cases hl : n1 ≤ 8
 rotate_left
 · skip
   refine wp_seq ?_; refine wp_seq ?_; refine wp_region_lit ?_
   have hE := Env.refl a5 [28, 29, 30, 31, 32, 33, 34, 35]; refine zm 28 hE k e0 ?_; intro a6 hE e28 kp; refine sd 29 hE k (Z1x Tryz.underlying40 rfl e28) ?_; intro a7 hE e29 kp; refine sd 30 hE k (Z08 (x_gtr rfl e29 rfl) (decide_eq_true (by omega))) ?_
   intro a8 hE e30 kp; refine sd 31 hE k (Z03 rfl e30) ?_; intro a9 hE e31 kp; refine Z05 32 hE k rfl (by rfl) (by rfl) rfl rfl (.inl e31) ?_
   intro a10 hE e32 kp; replace e31 := kt kp e31; refine Z05 33 hE k rfl (by rfl) (by rfl) rfl rfl (.inl e31) ?_
   intro a11 hE e33 kp; replace e31 := kt kp e31; refine Z05 34 hE k rfl (by rfl) (by rfl) rfl rfl (.inl e31) ?_
   intro a12 hE e34 kp; replace e31 := kt kp e31; refine sd 35 hE k (Z0e rfl e31 rfl) ?_; intro a13 hE e35 kp; refine wpList_nil ?_; replace e0 := hE.g e0; replace e1 := hE.g e1; replace e2 := hE.g e2; replace k := k.env hE; clear hE e27; refine Z00 ?_; refine Z0j e35 rfl ?_
   refine wp_seq ?_; refine wp_region_lit ?_
   have hE := Env.refl a13 [6]; refine sd 6 hE k (Z01 rfl rfl) ?_; intro a14 hE e6 kp; refine wpList_nil ?_; replace k := k.env hE; clear hE e0 e1 e2 e35; refine Z00 ?_; refine wp_ret ?_
   refine Z0t ?_
   refine Z0d rfl k e6 ?_
   exact ⟨rfl, O.below⟩
 by_cases hq20 : qk.length ≤ 20
 rotate_left
 · skip
   refine wp_seq ?_; refine wp_seq ?_; refine wp_region_lit ?_
   have hE := Env.refl a5 [28, 29, 30, 31, 32, 33, 34, 35]; refine zm 28 hE k e0 ?_; intro a15 hE e28 kp; refine sd 29 hE k (Z1x Tryz.underlying40 rfl e28) ?_; intro a16 hE e29 kp; refine sd 30 hE k (Z08 (x_gtr rfl e29 rfl) (decide_eq_false (by omega))) ?_
   intro a17 hE e30 kp; refine sd 31 hE k (Z03 rfl e30) ?_; intro a18 hE e31 kp; apply Z04 32 hE k rfl rfl rfl rfl rfl e31
   case h =>
    exact Z03 rfl (hE.g e2)
   intro a19 hE e32 kp; replace e31 := kt kp e31; apply Z04 33 hE k rfl rfl rfl rfl rfl e31
   case h =>
    exact Z2b Tryz.underlying9 rfl e32
   intro a20 hE e33 kp; replace e31 := kt kp e31; apply Z04 34 hE k rfl rfl rfl rfl rfl e31
   case h =>
    exact Z08 (x_gtr rfl e33 rfl) (decide_eq_true (by omega))
   intro a21 hE e34 kp; replace e31 := kt kp e31; refine sd 35 hE k (Z0i rfl e31 e34) ?_; intro a22 hE e35 kp; refine wpList_nil ?_; replace e0 := hE.g e0; replace e1 := hE.g e1; replace e2 := hE.g e2; replace k := k.env hE; clear hE e27; refine Z00 ?_; refine Z0j e35 rfl ?_
   refine wp_seq ?_; refine wp_region_lit ?_
   have hE := Env.refl a22 [6]; refine sd 6 hE k (Z01 rfl rfl) ?_; intro a23 hE e6 kp; refine wpList_nil ?_; replace k := k.env hE; clear hE e0 e1 e2 e35; refine Z00 ?_; refine wp_ret ?_
   refine Z0t ?_
   refine Z0d rfl k e6 ?_
   exact ⟨rfl, O.below⟩
 have hp30 := pgs480
 obtain ⟨fu, hfu⟩ : ∃ f, uN fz % 400 = f := ⟨_, rfl⟩
 refine wp_seq ?_; refine wp_seq ?_; refine wp_region_lit ?_
 have hE := Env.refl a5 [28, 29, 30, 31, 32, 33, 34, 35]; refine zm 28 hE k e0 ?_; intro a24 hE e28 kp; refine sd 29 hE k (Z1x Tryz.underlying40 rfl e28) ?_; intro a25 hE e29 kp; refine sd 30 hE k (Z08 (x_gtr rfl e29 rfl) (decide_eq_false (by omega))) ?_
 intro a26 hE e30 kp; refine sd 31 hE k (Z03 rfl e30) ?_; intro a27 hE e31 kp; apply Z04 32 hE k rfl rfl rfl rfl rfl e31
 case h =>
  exact Z03 rfl (hE.g e2)
 intro a28 hE e32 kp; replace e31 := kt kp e31; apply Z04 33 hE k rfl rfl rfl rfl rfl e31
 case h =>
  exact Z2b Tryz.underlying9 rfl e32
 intro a29 hE e33 kp; replace e31 := kt kp e31; apply Z04 34 hE k rfl rfl rfl rfl rfl e31
 case h =>
  exact Z08 (x_gtr rfl e33 rfl) (decide_eq_false (by omega))
 intro a30 hE e34 kp; replace e31 := kt kp e31; refine sd 35 hE k (Z0i rfl e31 e34) ?_; intro a31 hE e35 kp; refine wpList_nil ?_; replace e0 := hE.g e0; replace e1 := hE.g e1; replace e2 := hE.g e2; replace k := k.env hE; clear hE e27; refine Z00 ?_; refine Z07 e35 rfl ?_
 refine wp_skip ?_; refine Z00 (wp_seq ?_); refine wp_region_lit ?_
 have hE := Env.refl a31 [36, 7]; apply Z06 36 hE k rfl (by rfl) (by rfl) rfl
 case h =>
  simp [go_sem, ↓IntWalk.iteOmega]
  with_reducible exact ⟨rfl, rfl⟩
 case hc => exact new_mn O
 clear O; rintro e w33 ⟨mb, rfl, O⟩
 refine ⟨_, rfl, ?_⟩
 intro a32 hE e36 kp; refine sd 7 hE k (Z01 rfl e36) ?_; intro a34 hE e7 kp; refine wpList_nil ?_; replace e0 := hE.g e0; replace e1 := hE.g e1; replace e2 := hE.g e2; replace k := k.env hE; clear hE e35; refine Z00 (wp_seq ?_); refine wp_region_lit ?_
 have hE := Env.refl a34 [37, 38, 8]; refine zm 37 hE k e7 ?_; intro a35 hE e37 kp; apply Z06 38 hE k rfl (by rfl) (by rfl) rfl
 case h =>
  simp [go_sem, ↓IntWalk.iteOmega, ev e37]
  with_reducible exact ⟨rfl, rfl⟩
 case hc => exact dnew_any 480 480 _ O (by decide)
 clear O; rintro e w37 ⟨p, B, cap, bm, rfl, O⟩
 refine ⟨_, rfl, ?_⟩
 intro a36 hE e38 kp; refine sd 8 hE k (Z01 rfl e38) ?_; intro a38 hE e8 kp; refine wpList_nil ?_; replace e0 := hE.g e0; replace e1 := hE.g e1; replace e2 := hE.g e2; replace e7 := hE.g e7; replace k := k.env hE; clear hE; refine Z00 (wp_seq ?_); refine wp_region_lit ?_
 have hE := Env.refl a38 [40, 41, 42, 39, 43, 44, 9, 10]; refine zm 40 hE k e8 ?_; intro a39 hE e40 kp; apply Z06 41 hE k rfl (by rfl) (by rfl) rfl
 case h =>
  simp [go_sem, ↓IntWalk.iteOmega]
  with_reducible exact ⟨rfl, rfl⟩
 case hc => exact Z6i _
 rintro e w41 ⟨rfl, RE⟩
 replace O := OwnT.ext O RE; refine ⟨_, rfl, ?_⟩
 intro a40 hE e41 kp; replace e40 := kt kp e40; apply Z06 42 hE k rfl (by rfl) (by rfl) rfl
 case h =>
  simp [go_sem, ↓IntWalk.iteOmega, ev e40, ev e41]
  with_reducible exact ⟨rfl, rfl⟩
 case hc => exact Z3w 9 3 1 _ O (by decide) (by decide) mn0_ok (by decide) mn0_free
 clear O; rintro e w43 ⟨j0, sb, kb, fb, hj0, rfl, O⟩
 refine ⟨_, rfl, ?_⟩
 intro a42 hE e42 kp; refine sd 39 hE k (Z03 rfl e42) ?_; intro a44 hE e39 kp; apply Z02 43 hE k rfl rfl rfl rfl; case h =>
  simp [go_sem, ↓IntWalk.iteOmega, ev e39]
  with_reducible rfl
 intro a45 hE e43 kp; replace e39 := kt kp e39; apply Z02 44 hE k rfl rfl rfl rfl; case h =>
  simp [go_sem, ↓IntWalk.iteOmega, ev e39]
  with_reducible rfl
 intro a46 hE e44 kp; replace e43 := kt kp e43; refine sd 9 hE k (Z01 rfl e43) ?_; intro a47 hE e9 kp; replace e44 := kt kp e44; refine sd 10 hE k (Z01 rfl e44) ?_; intro a48 hE e10 kp; replace e9 := kt kp e9; refine wpList_nil ?_; replace e0 := hE.g e0; replace e1 := hE.g e1; replace e2 := hE.g e2; replace e7 := hE.g e7; replace e8 := hE.g e8; replace k := k.env hE; clear hE; refine Z00 (wp_seq ?_); refine wp_seq ?_; refine wp_region_lit ?_
 have hE := Env.refl a48 [45, 46]; refine zm 45 hE k e10 ?_; intro a49 hE e45 kp; refine sd 46 hE k (Z08 (Z0u rfl e45 rfl) (decide_eq_false (by omega))) ?_
 intro a50 hE e46 kp; refine wpList_nil ?_; replace e0 := hE.g e0; replace e1 := hE.g e1; replace e2 := hE.g e2; replace e7 := hE.g e7; replace e8 := hE.g e8; replace e9 := hE.g e9; replace k := k.env hE; clear hE e10; refine Z00 ?_; refine Z07 e46 rfl ?_
 refine wp_skip ?_; refine Z00 (wp_seq ?_); refine wp_region_lit ?_
 have hE := Env.refl a50 [47, 48, 49, 50, 51, 52]; refine zm 47 hE k e7 ?_; intro a51 hE e47 kp; refine zm 48 hE k e1 ?_; intro a52 hE e48 kp; replace e47 := kt kp e47; refine sd 49 hE k (Z3t rfl e48 (Z78 fz _)) ?_; intro a53 hE e49 kp; replace e47 := kt kp e47; refine sd 50 hE k (x_remU (m := uN fz) (j := 400) rfl e49 rfl rfl (by decide)) ?_; intro a54 hE e50 kp; replace e47 := kt kp e47; refine sd 51 hE k (Z3t rfl e50 (conv_int _ _ (by omega))) ?_
 intro a55 hE e51 kp; replace e47 := kt kp e47; replace e51 := e51.trans (Z1k (show ((uN fz % 400 : Nat) : Int) = (fu : Int) by rw [hfu]))
 apply Z06 52 hE k rfl (by rfl) (by rfl) rfl
 case h =>
  simp [go_sem, ↓IntWalk.iteOmega, ev e47, ev e51]
  with_reducible exact ⟨rfl, rfl⟩
 case hc => exact fuse_mn _ (OwnT.pull O 5 rfl)
 clear O; rintro e w57 ⟨rfl, O⟩
 refine ⟨_, rfl, ?_⟩
 intro a56 hE e52 kp; refine wpList_nil ?_; replace e0 := hE.g e0; replace e2 := hE.g e2; replace e7 := hE.g e7; replace e8 := hE.g e8; replace e9 := hE.g e9; replace k := k.env hE; clear hE e1 e46 e52; refine Z00 ?_; have hM0 : ((mn0.useN j0).fused ((fu : Nat) : Int)).Ok 100 := ((mn0_ok.useN j0).fused (by omega)).mono (by omega)
 obtain ⟨M0, hM0e⟩ : ∃ z, (mn0.useN j0).fused ((fu : Nat) : Int) = z := ⟨_, rfl⟩
 rw [hM0e] at hM0 O
 clear hM0e

 replace O : OwnT _ _ ([tBlk sb 102 (stB p wh6 0 kb fb), tMap kb 512 (keptV ((fun _ => false))), tMap fb 512 ((fun _ => none)), tPool ([]) ([]), tDisc p mb B 480 cap bm wh0 noL, tMn mb M0]) w57 := OwnT.pick O [1, 2, 3, 4, 5, 0] (by decide)
 refine wp_seq ?_; refine wp_region_lit ?_
 have hE := Env.refl a56 [53, 54, 11]; refine Z2f (m := 0) (c := 0) O (cs := #[]) (t := 3) 53 hE k rfl (by rfl) (by rfl) rfl (by simp [go_sem, ↓IntWalk.iteOmega]) ?_
 clear O; intro g0 a58 w59 O hE e53 kp; refine Z2f (m := 1) (c := 1) O (cs := #[.slice (some ⟨g0, 0, none⟩) 0 0]) (t := 40) 54 hE k rfl (by rfl) (by rfl) rfl (by simp [go_sem, ↓IntWalk.iteOmega, ev e53]) ?_
 clear O; intro g1 a60 w61 O hE e54 kp; refine sd 11 hE k (Z01 rfl e54) ?_; intro a62 hE e11 kp; refine wpList_nil ?_; replace e0 := hE.g e0; replace e2 := hE.g e2; replace e7 := hE.g e7; replace e8 := hE.g e8; replace e9 := hE.g e9; replace k := k.env hE; clear hE; refine Z00 ?_; replace O : OwnT _ _ ([tBlk g0 3 #[], tBlk g1 40 #[.slice (some ⟨g0, 0, none⟩) 0 0], tBlk sb 102 (stB p wh6 0 kb fb), tMap kb 512 (keptV ((fun _ => false))), tMap fb 512 ((fun _ => none)), tPool ([]) ([]), tDisc p mb B 480 cap bm wh0 noL, tMn mb M0]) w61 := OwnT.pick O [1, 0, 2, 3, 4, 5, 6, 7] (by decide)
 replace O := OwnT.asRowE (k := 1) O
 replace O := poolI_nil O
 replace O : OwnT _ _ ([tRow 3 1 (.slice (some ⟨g0, 0, none⟩) 0 0) 0 (intsV ([])), tPoolI ([]) ([]), tBlk g1 40 #[.slice (some ⟨g0, 0, none⟩) 0 0], tBlk sb 102 (stB p wh6 0 kb fb), tMap kb 512 (keptV ((fun _ => false))), tMap fb 512 ((fun _ => none)), tPool ([]) ([]), tDisc p mb B 480 cap bm wh0 noL, tMn mb M0]) w61 := OwnT.pick O [1, 0, 2, 3, 4, 5, 6, 7, 8] (by decide)
 replace O := OwnT.poolIAdd (l := []) O
 replace O : OwnT _ _ ([tPoolI ([.slice (some ⟨g0, 0, none⟩) 0 0]) ([[]]), tBlk g1 40 #[.slice (some ⟨g0, 0, none⟩) 0 0], tBlk sb 102 (stB p wh6 0 kb fb), tMap kb 512 (keptV ((fun _ => false))), tMap fb 512 ((fun _ => none)), tPool ([]) ([]), tDisc p mb B 480 cap bm wh0 noL, tMn mb M0]) w61 := O
 replace O : OwnT _ _ ([tBlk g1 40 #[.slice (some ⟨g0, 0, none⟩) 0 0], tPoolI ([.slice (some ⟨g0, 0, none⟩) 0 0]) ([[]]), tBlk sb 102 (stB p wh6 0 kb fb), tMap kb 512 (keptV ((fun _ => false))), tMap fb 512 ((fun _ => none)), tPool ([]) ([]), tDisc p mb B 480 cap bm wh0 noL, tMn mb M0]) w61 := OwnT.pick O [1, 0, 2, 3, 4, 5, 6, 7] (by decide)
 replace O := OwnT.asRowN (k := 1) (n := 1) (cs := [.slice (some ⟨g0, 0, none⟩) 0 0]) O rfl (by decide)
 replace O : OwnT _ _ ([tBlk sb 102 (stB p wh6 0 kb fb), tMap kb 512 (keptV ((fun _ => false))), tMap fb 512 ((fun _ => none)), tPool ([]) ([]), tDisc p mb B 480 cap bm wh0 noL, tMn mb M0, tRow 40 1 (.slice (some ⟨g1, 0, none⟩) 1 1) 1 ([.slice (some ⟨g0, 0, none⟩) 0 0]), tPoolI ([.slice (some ⟨g0, 0, none⟩) 0 0]) ([[]])]) w61 := OwnT.pick O [2, 3, 4, 5, 6, 7, 0, 1] (by decide)
 refine wp_seq ?_; refine wp_region_lit ?_
 have hE := Env.refl a62 [12]; refine sd 12 hE k (Z01 rfl rfl) ?_; intro a63 hE e12 kp; refine wpList_nil ?_; replace e0 := hE.g e0; replace e2 := hE.g e2; replace e7 := hE.g e7; replace e8 := hE.g e8; replace e9 := hE.g e9; replace e11 := hE.g e11; replace k := k.env hE; clear hE; refine Z00 ?_; refine wp_cutF (fun a w => Fr 196 a ∧ a.eval (.tmp 2) = .string (sB qk) ∧ a.eval (.tmp 7) = .pointer (some ⟨mb, 0, none⟩) ∧ a.eval (.tmp 8) = .pointer (some ⟨p, 0, none⟩) ∧ ∃ (sure : Nat) (Qs : List (List Int)) (us : List Value) (Bl : Option Addr) (cl : Nat) (S : List Sec) (L : Int → Option Sec) (M : Mn), a.eval (.tmp 11) = .slice Bl Qs.length cl ∧ a.eval (.tmp 12) = .int .i64 ↑sure ∧ sure ≤ 8 ∧ Qs.length ≤ 10 ∧ (∀ l ∈ Qs, l.length ≤ 5) ∧ Sound7 (pgs 480) 480 Qs sure S L ∧ M.Ok 200000 ∧ OwnT W0.heap.size W0 [tDisc p mb B 480 cap bm S L, tMn mb M, tRow 40 1 (.slice Bl Qs.length cl) Qs.length us, tPoolI us Qs] w) ?_ ?_
 · skip
   refine wp_seq ?_; refine wp_region_lit ?_
   have hE := Env.refl a63 [13]; refine sd 13 hE k (Z01 rfl rfl) ?_; intro a64 hE e13 kp; refine wpList_nil ?_; replace e0 := hE.g e0; replace e2 := hE.g e2; replace e7 := hE.g e7; replace e8 := hE.g e8; replace e9 := hE.g e9; replace e11 := hE.g e11; replace e12 := hE.g e12; replace k := k.env hE; clear hE; refine Z00 ?_; refine wp_block ?_; have ok0 := Z5w (P := pgs 480) (by decide)
   refine wp_loop (fun a w => Fr 196 a ∧ a.eval (.tmp 0) = .slice A n1 c1 ∧ a.eval (.tmp 2) = .string (sB qk) ∧ a.eval (.tmp 7) = .pointer (some ⟨mb, 0, none⟩) ∧ a.eval (.tmp 8) = .pointer (some ⟨p, 0, none⟩) ∧ a.eval (.tmp 9) = .pointer (some ⟨sb, 0, none⟩) ∧ ∃ (i : Nat) (h : Hd) (o : Nat) (K : Int → Bool) (m : Int → Option Value) (vs : List Value) (N : List Nd) (S : List Sec) (M : Mn) (Qs : List (List Int)) (us : List Value) (Bl : Option Addr) (cl : Nat) (ps : List Int), a.eval (.tmp 11) = .slice Bl ((i + 1)) cl ∧ a.eval (.tmp 12) = .int .i64 ↑i ∧ a.eval (.tmp 13) = .int .i64 ↑i ∧ i ≤ n1 ∧ Qs.length = i + 1 ∧ (∀ l ∈ Qs, l.length ≤ 5) ∧ Qs[i]? = some ps ∧ Held (pgs 480) S h o i ps ∧ (∀ c ∈ ps, K c = true) ∧ (kL (pgs 480) K).length ≤ 5 ∧ (h.a = 9 ∧ h.b = 3 ∧ h.c = 1) ∧ StOk (pgs 480) K (fun _ => none) vs N m ∧ M.Ok (100 + 10000 * (i : Int)) ∧ OwnT W0.heap.size W0 ([tBlk sb 102 (stB p h (((o : Nat) : Int)) kb fb), tMap kb 512 (keptV K), tMap fb 512 m, tPool vs N, tDisc p mb B 480 cap bm S noL, tMn mb M, tRow 40 1 (.slice Bl (i + 1) cl) (i + 1) us, tPoolI us Qs]) w) (fun a w => n1 - (intOf (a.eval (.tmp 13))).toNat) ?_ ?_
   · exact ⟨k, e0, e2, e7, e8, e9, 0, wh6, 0, fun _ => false, fun _ => none, [], [], wh0, M0, [[]], _, _, _, [], e11, e12, e13, Nat.zero_le _, rfl, (fun l hl => by obtain rfl := List.mem_singleton.1 hl; decide), rfl, wh0_held, fun c hc => (by cases hc), (by rw [kL_no]; decide), ⟨rfl, rfl, rfl⟩, ok0, hM0.mono (by omega), O⟩
   intro a65 w66 hI; clear k e0 e2 e7 e8 e9; obtain ⟨k, e0, e2, e7, e8, e9, h_⟩ := hI
   clear O e11 e12 e13 ok0 hM0; obtain ⟨i, h, o, K, m, vs, N, S, M, Qs, us, Bl, cl, ps, e11, e12, e13, hi, hQ, hQ5, hps, hH, hk, hkl, hcs, ok, hM, O⟩ := h_
   have mi := e13
   by_cases hlt : i < n1
   rotate_left
   · obtain rfl : i = n1 := by omega
     refine wp_seq ?_; refine wp_seq ?_; refine wp_region_lit ?_
     have hE := Env.refl a65 [55, 56, 57, 58]; refine zm 55 hE k e13 ?_; intro a67 hE e55 kp; refine zm 56 hE k e0 ?_; intro a68 hE e56 kp; replace e55 := kt kp e55; refine sd 57 hE k (Z1x Tryz.underlying40 rfl e56) ?_; intro a69 hE e57 kp; replace e55 := kt kp e55; refine sd 58 hE k (Z08 (Z1s rfl e55 e57) (decide_eq_false (by omega))) ?_
     intro a70 hE e58 kp; refine wpList_nil ?_; replace e0 := hE.g e0; replace e2 := hE.g e2; replace e7 := hE.g e7; replace e8 := hE.g e8; replace e9 := hE.g e9; replace e11 := hE.g e11; replace e12 := hE.g e12; replace e13 := hE.g e13; replace k := k.env hE; clear hE; refine Z00 ?_; refine Z07 e58 rfl ?_
     refine wp_exit ?_
     refine Z0q ?_
     refine Z0q ?_
     refine Z12 ?_
     refine Z00 ?_; replace O : OwnT _ _ ([tDisc p mb B 480 cap bm S noL, tMn mb M, tRow 40 1 (.slice Bl (i + 1) cl) (i + 1) us, tPoolI us Qs]) w66 := OwnT.pick O [4, 5, 6, 7] (by decide)
     rw [← hQ] at O e11
     exact ⟨k, e2, e7, e8, i, Qs, us, Bl, cl, S, noL, M, e11, e12, hl, by omega, hQ5, hH.sound hps, hM.mono (by omega), O⟩
   have hltI : (i : Int) < (n1 : Int) := by omega
   obtain ⟨x, hx⟩ : ∃ x, xs[i]? = some x := ⟨_, List.getElem?_eq_getElem (by omega)⟩
   obtain ⟨b1, o1, rfl, d0⟩ := row1I hrow1 O.below hx
   obtain ⟨nn, hnn⟩ : ∃ n, n = 1 + uN x % 5 := ⟨_, rfl⟩
   have hnn5 : 1 ≤ nn ∧ nn ≤ 5 := by omega

   refine wp_seq ?_; refine wp_seq ?_; refine wp_region_lit ?_
   have hE := Env.refl a65 [55, 56, 57, 58]; refine zm 55 hE k e13 ?_; intro a71 hE e55 kp; refine zm 56 hE k e0 ?_; intro a72 hE e56 kp; replace e55 := kt kp e55; refine sd 57 hE k (Z1x Tryz.underlying40 rfl e56) ?_; intro a73 hE e57 kp; replace e55 := kt kp e55; refine sd 58 hE k (Z08 (Z1s rfl e55 e57) (decide_eq_true (by omega))) ?_
   intro a74 hE e58 kp; refine wpList_nil ?_; replace e0 := hE.g e0; replace e2 := hE.g e2; replace e7 := hE.g e7; replace e8 := hE.g e8; replace e9 := hE.g e9; replace e11 := hE.g e11; replace e12 := hE.g e12; replace e13 := hE.g e13; replace k := k.env hE; clear hE; refine Z00 ?_; refine Z0j e58 rfl ?_
   refine wp_skip ?_; refine Z00 (wp_seq ?_); refine wp_block ?_; refine wp_seq ?_; refine wp_region_lit ?_
   have hE := Env.refl a74 [61, 62, 63, 64, 65, 66, 67, 68, 14]; refine zm 61 hE k e0 ?_; intro a75 hE e61 kp; refine zm 62 hE k e13 ?_; intro a76 hE e62 kp; replace e61 := kt kp e61; apply Z02 63 hE k rfl rfl rfl rfl; case h =>
    simp [go_sem, ↓IntWalk.iteOmega, ev e61, ev e62]
    with_reducible rfl
   intro a77 hE e63 kp; apply Z02 64 hE k rfl rfl rfl rfl; case h =>
    simp [go_sem, ↓IntWalk.iteOmega, ev e63, d0]
    with_reducible rfl
   intro a78 hE e64 kp; refine sd 65 hE k (Z3t rfl e64 (Z78 x _)) ?_; intro a79 hE e65 kp; refine sd 66 hE k (x_remU (m := uN x) (j := 5) rfl e65 rfl rfl (by decide)) ?_; intro a80 hE e66 kp; refine sd 67 hE k (Z3t rfl e66 (conv_int _ _ (by omega))) ?_
   intro a81 hE e67 kp; refine sd 68 hE k (Z1z rfl rfl e67 (by omega)) ?_; intro a82 hE e68 kp; replace e68 := e68.trans (Z1k (show (1 : Int) + ((uN x % 5 : Nat) : Int) = (nn : Int) by omega))
   refine sd 14 hE k (Z01 rfl e68) ?_; intro a83 hE e14 kp; refine wpList_nil ?_; replace e0 := hE.g e0; replace e2 := hE.g e2; replace e7 := hE.g e7; replace e8 := hE.g e8; replace e9 := hE.g e9; replace e11 := hE.g e11; replace e12 := hE.g e12; replace e13 := hE.g e13; replace k := k.env hE; clear hE e58; refine Z00 (wp_seq ?_); refine wp_region_lit ?_
   have hE := Env.refl a83 [69, 15]; refine Z2f (m := 0) (c := 0) O (cs := #[]) (t := 3) 69 hE k rfl (by rfl) (by rfl) rfl (by simp [go_sem, ↓IntWalk.iteOmega]) ?_
   clear O; intro gp0 a84 w85 O hE e69 kp; refine sd 15 hE k (Z01 rfl e69) ?_; intro a86 hE e15 kp; refine wpList_nil ?_; replace e0 := hE.g e0; replace e2 := hE.g e2; replace e7 := hE.g e7; replace e8 := hE.g e8; replace e9 := hE.g e9; replace e11 := hE.g e11; replace e12 := hE.g e12; replace e13 := hE.g e13; replace e14 := hE.g e14; replace k := k.env hE; clear hE; refine Z00 ?_; clear d0; replace O := OwnT.asRowE (k := 1) O
   refine wp_seq ?_; refine wp_seq ?_; refine wp_region_lit ?_
   have hE := Env.refl a86 [16]; refine sd 16 hE k (Z01 rfl rfl) ?_; intro a87 hE e16 kp; refine wpList_nil ?_; replace e0 := hE.g e0; replace e2 := hE.g e2; replace e7 := hE.g e7; replace e8 := hE.g e8; replace e9 := hE.g e9; replace e11 := hE.g e11; replace e12 := hE.g e12; replace e13 := hE.g e13; replace e14 := hE.g e14; replace e15 := hE.g e15; replace k := k.env hE; clear hE; refine Z00 ?_; refine wp_block ?_; refine wp_loop (fun a w => Fr 196 a ∧ a.eval (.tmp 0) = .slice (some ⟨b1, o1, none⟩) n1 c1 ∧ a.eval (.tmp 2) = .string (sB qk) ∧ a.eval (.tmp 7) = .pointer (some ⟨mb, 0, none⟩) ∧ a.eval (.tmp 8) = .pointer (some ⟨p, 0, none⟩) ∧ a.eval (.tmp 9) = .pointer (some ⟨sb, 0, none⟩) ∧ a.eval (.tmp 11) = .slice Bl ((i + 1)) cl ∧ a.eval (.tmp 12) = .int .i64 ↑i ∧ a.eval (.tmp 13) = .int .i64 ↑i ∧ a.eval (.tmp 14) = .int .i64 ↑nn ∧ ∃ (qs : List Int) (F : Int → Option Nd) (m2 : Int → Option Value) (vs2 : List Value) (N2 : List Nd) (Bp : Option Addr) (cp : Nat), a.eval (.tmp 15) = .slice Bp qs.length cp ∧ a.eval (.tmp 16) = .int .i64 ↑qs.length ∧ qs.length ≤ nn ∧ StOk (pgs 480) K F vs2 N2 m2 ∧ Adds (pgs 480) K F qs (fun j => 100 * (i : Int) + (j : Int)) ∧ OwnT W0.heap.size W0 ([tRow 3 1 (.slice Bp qs.length cp) qs.length (intsV qs), tBlk sb 102 (stB p h (((o : Nat) : Int)) kb fb), tMap kb 512 (keptV K), tMap fb 512 m2, tPool vs2 N2, tDisc p mb B 480 cap bm S noL, tMn mb M, tRow 40 1 (.slice Bl (i + 1) cl) (i + 1) us, tPoolI us Qs]) w) (fun a w => nn - (intOf (a.eval (.tmp 16))).toNat) ?_ ?_
   · exact ⟨k, e0, e2, e7, e8, e9, e11, e12, e13, e14, [], _, _, _, _, _, _, e15, e16, Nat.zero_le _, ok, Adds.nil _ _ _, O⟩
   intro a88 w89 hI; clear k e0 e2 e7 e8 e9 e11 e12 e13 e14; obtain ⟨k, e0, e2, e7, e8, e9, e11, e12, e13, e14, h_⟩ := hI
   clear O e15 e16 ok; obtain ⟨qs, F, m2, vs2, N2, Bp, cp, e15, e16, hql, ok, hA, O⟩ := h_
   have mq := e16
   by_cases hlq : qs.length < nn
   · have hlqI : (qs.length : Int) < (nn : Int) := by omega
     have hnf : ¬ NoFree (pgs 480) K F := fun h => by
      have := (ok.apart hA.apart).full (by decide) h
      rw [hA.len] at this
      omega
     obtain ⟨nq, hnq⟩ : ∃ z : Int, (100 : Int) * (i : Int) + (qs.length : Int) = z := ⟨_, rfl⟩

     refine wp_seq ?_; refine wp_seq ?_; refine wp_region_lit ?_
     have hE := Env.refl a88 [70, 71, 72]; refine zm 70 hE k e16 ?_; intro a90 hE e70 kp; refine zm 71 hE k e14 ?_; intro a91 hE e71 kp; replace e70 := kt kp e70; refine sd 72 hE k (Z08 (Z1s rfl e70 e71) (decide_eq_true (by omega))) ?_
     intro a92 hE e72 kp; refine wpList_nil ?_; replace e0 := hE.g e0; replace e2 := hE.g e2; replace e7 := hE.g e7; replace e8 := hE.g e8; replace e9 := hE.g e9; replace e11 := hE.g e11; replace e12 := hE.g e12; replace e13 := hE.g e13; replace e14 := hE.g e14; replace e15 := hE.g e15; replace e16 := hE.g e16; replace k := k.env hE; clear hE; refine Z00 ?_; refine Z0j e72 rfl ?_
     refine wp_skip ?_; refine Z00 (wp_seq ?_); refine wp_block ?_; replace O : OwnT _ _ ([tBlk sb 102 (stB p h (((o : Nat) : Int)) kb fb), tMap kb 512 (keptV K), tMap fb 512 m2, tPool vs2 N2, tDisc p mb B 480 cap bm S noL, tMn mb M, tRow 40 1 (.slice Bl (i + 1) cl) (i + 1) us, tPoolI us Qs, tRow 3 1 (.slice Bp qs.length cp) qs.length (intsV qs)]) w89 := OwnT.pick O [1, 2, 3, 4, 5, 6, 7, 8, 0] (by decide)
     refine wp_seq ?_; refine wp_region_lit ?_
     have hE := Env.refl a92 [76, 77, 78, 79, 80, 81, 82, 75, 83, 84, 17, 18]; refine zm 76 hE k e9 ?_; intro a93 hE e76 kp; refine zm 77 hE k e13 ?_; intro a94 hE e77 kp; replace e76 := kt kp e76; refine sd 78 hE k (x_mul rfl rfl e77 (by omega)) ?_; intro a95 hE e78 kp; replace e76 := kt kp e76; refine zm 79 hE k e16 ?_; intro a96 hE e79 kp; replace e76 := kt kp e76; replace e78 := kt kp e78; refine sd 80 hE k (Z1z rfl e78 e79 (by omega)) ?_; intro a97 hE e80 kp; replace e76 := kt kp e76; replace e80 := e80.trans (Z1k hnq)
     apply Z06 81 hE k rfl (by rfl) (by rfl) rfl
     case h =>
      simp [go_sem, ↓IntWalk.iteOmega, ev e80]
      with_reducible exact ⟨rfl, rfl⟩
     case hc => exact Z39 nq _
     rintro e w99 ⟨g, rfl, hrow, RE⟩
     replace O := OwnT.ext O RE; refine ⟨_, rfl, ?_⟩
     intro a98 hE e81 kp; replace e76 := kt kp e76; apply Z06 82 hE k rfl (by rfl) (by rfl) rfl
     case h =>
      simp [go_sem, ↓IntWalk.iteOmega, ev e76, ev e81]
      with_reducible exact ⟨rfl, rfl⟩
     case hc => exact sadd_free nq _ O ok hrow hnf
     clear O; rintro e w101 ⟨d, m', vs', N', rfl, hd, O, ok'⟩
     clear hrow; refine ⟨_, rfl, ?_⟩
     intro a100 hE e82 kp; refine sd 75 hE k (Z03 rfl e82) ?_; intro a102 hE e75 kp; apply Z02 83 hE k rfl rfl rfl rfl; case h =>
      simp [go_sem, ↓IntWalk.iteOmega, ev e75]
      with_reducible rfl
     intro a103 hE e83 kp; replace e75 := kt kp e75; apply Z02 84 hE k rfl rfl rfl rfl; case h =>
      simp [go_sem, ↓IntWalk.iteOmega, ev e75]
      with_reducible rfl
     intro a104 hE e84 kp; replace e83 := kt kp e83; refine sd 17 hE k (Z01 rfl e83) ?_; intro a105 hE e17 kp; replace e84 := kt kp e84; refine sd 18 hE k (Z01 rfl e84) ?_; intro a106 hE e18 kp; replace e17 := kt kp e17; refine wpList_nil ?_; replace e0 := hE.g e0; replace e2 := hE.g e2; replace e7 := hE.g e7; replace e8 := hE.g e8; replace e9 := hE.g e9; replace e11 := hE.g e11; replace e12 := hE.g e12; replace e13 := hE.g e13; replace e14 := hE.g e14; replace e15 := hE.g e15; replace e16 := hE.g e16; replace k := k.env hE; clear hE e72; refine Z00 (wp_seq ?_); refine wp_seq ?_; refine wp_region_lit ?_
     have hE := Env.refl a106 [85, 86]; refine zm 85 hE k e18 ?_; intro a107 hE e85 kp; refine sd 86 hE k (Z08 (Z0u rfl e85 rfl) (decide_eq_false (by omega))) ?_
     intro a108 hE e86 kp; refine wpList_nil ?_; replace e0 := hE.g e0; replace e2 := hE.g e2; replace e7 := hE.g e7; replace e8 := hE.g e8; replace e9 := hE.g e9; replace e11 := hE.g e11; replace e12 := hE.g e12; replace e13 := hE.g e13; replace e14 := hE.g e14; replace e15 := hE.g e15; replace e16 := hE.g e16; replace e17 := hE.g e17; replace k := k.env hE; clear hE e18; refine Z00 ?_; refine Z07 e86 rfl ?_
     refine wp_skip ?_; refine Z00 ?_; replace O : OwnT _ _ ([tRow 3 1 (.slice Bp qs.length cp) qs.length (intsV qs), tBlk sb 102 (stB p h (((o : Nat) : Int)) kb fb), tMap kb 512 (keptV K), tMap fb 512 m', tPool vs' N', tDisc p mb B 480 cap bm S noL, tMn mb M, tRow 40 1 (.slice Bl (i + 1) cl) (i + 1) us, tPoolI us Qs]) w101 := OwnT.pick O [8, 0, 1, 2, 3, 4, 5, 6, 7] (by decide)
     refine wp_region_lit ?_
     have hE := Env.refl a108 [87, 88, 89, 90, 15]; refine sd 87 hE k (Z03 rfl e15) ?_; intro a109 hE e87 kp; replace e15 := kt kp e15; refine zm 88 hE k e17 ?_; intro a110 hE e88 kp; replace e15 := kt kp e15; replace e87 := kt kp e87; refine Z2f (m := 1) (c := 1) O (cs := #[.int .i64 ↑d]) (t := 3) 89 hE k rfl (by rfl) (by rfl) rfl (by simp [go_sem, ↓IntWalk.iteOmega, ev e88]) ?_
     clear O; intro g7 a111 w112 O hE e89 kp; replace e15 := kt kp e15; replace e87 := kt kp e87; obtain ⟨gr, cr2, w113, hrun, O⟩ := app_seq O elemI8 (by decide) rfl (by intro u hu; simp at hu; subst hu; rfl) (by unfold maxLen; omega) (by omega)
     apply Z1t 90 hE k rfl (by rfl) (by rfl) rfl
     case h => exact Z5r rfl e87 e89 (hrun _)
     clear hrun; intro a114 hE e90 kp; replace e15 := kt kp e15; refine sd 15 hE k (Z01 rfl e90) ?_; intro a115 hE e15 kp; refine wpList_nil ?_; replace e0 := hE.g e0; replace e2 := hE.g e2; replace e7 := hE.g e7; replace e8 := hE.g e8; replace e9 := hE.g e9; replace e11 := hE.g e11; replace e12 := hE.g e12; replace e13 := hE.g e13; replace e14 := hE.g e14; replace e16 := hE.g e16; replace k := k.env hE; clear hE e17 e86; refine Z0r ?_; refine Z00 ?_; refine wp_region_lit ?_
     have hE := Env.refl a115 [73, 74, 16]; refine sd 73 hE k (Z03 rfl e16) ?_; intro a116 hE e73 kp; replace e16 := kt kp e16; refine sd 74 hE k (Z1z rfl e73 rfl (by omega)) ?_; intro a117 hE e74 kp; replace e16 := kt kp e16; refine sd 16 hE k (Z01 rfl e74) ?_; intro a118 hE e16 kp; refine wpList_nil ?_; replace e0 := hE.g e0; replace e2 := hE.g e2; replace e7 := hE.g e7; replace e8 := hE.g e8; replace e9 := hE.g e9; replace e11 := hE.g e11; replace e12 := hE.g e12; replace e13 := hE.g e13; replace e14 := hE.g e14; replace e15 := hE.g e15; replace k := k.env hE; clear hE; refine Z00 ?_; rw [← intsV_app] at O
     have hA' := hA.put hd
     rw [hnq] at hA'
     refine ⟨⟨k, e0, e2, e7, e8, e9, e11, e12, e13, e14, qs ++ [(d : Int)], _, m', vs', N', some ⟨gr, 0, none⟩, cr2, ?_, ?_, ?_, ok', hA', ?_⟩, ?_⟩
     · rw [List.length_append]; exact e15
     · rw [List.length_append]; exact e16
     · rw [List.length_append]; simp only [List.length_cons, List.length_nil]; omega
     · rw [List.length_append]; exact O
     · rw [e16, mq]; simp only [intOf]; omega
   · have hqn : qs.length = nn := by omega
     clear mq; obtain ⟨c0, hc0⟩ : ∃ c, qs[0]? = some c := ⟨_, List.getElem?_eq_getElem (by omega)⟩
     obtain ⟨-, hc01, hc02⟩ := hA.free c0 (List.mem_of_getElem? hc0)
     obtain ⟨gp, rfl, -⟩ := Z64 (OwnT.get O 0 rfl) (Z3b hc0) (by omega)
     have hgen := hH.gen
     have hok : (nextHd h c0).Ok := next_ok hcs (by omega) (by omega) (by omega) (by omega)

     replace O : OwnT _ _ ([tRow 3 1 (.slice (some ⟨gp, 0, none⟩) qs.length cp) qs.length (intsV qs), tBlk sb 102 (stB p h (((o : Nat) : Int)) kb fb), tMap kb 512 (keptV K), tMap fb 512 m2, tPool vs2 N2, tDisc p mb B 480 cap bm S noL, tMn mb M, tRow 40 1 (.slice Bl (i + 1) cl) (i + 1) us, tPoolI us Qs]) w89 := O
     refine wp_seq ?_; refine wp_seq ?_; refine wp_region_lit ?_
     have hE := Env.refl a88 [70, 71, 72]; refine zm 70 hE k e16 ?_; intro a119 hE e70 kp; refine zm 71 hE k e14 ?_; intro a120 hE e71 kp; replace e70 := kt kp e70; refine sd 72 hE k (Z08 (Z1s rfl e70 e71) (decide_eq_false (by omega))) ?_
     intro a121 hE e72 kp; refine wpList_nil ?_; replace e0 := hE.g e0; replace e2 := hE.g e2; replace e7 := hE.g e7; replace e8 := hE.g e8; replace e9 := hE.g e9; replace e11 := hE.g e11; replace e12 := hE.g e12; replace e13 := hE.g e13; replace e14 := hE.g e14; replace e15 := hE.g e15; replace e16 := hE.g e16; replace k := k.env hE; clear hE; refine Z00 ?_; refine Z07 e72 rfl ?_
     refine wp_exit ?_
     refine Z0q ?_
     refine Z0q ?_
     refine Z12 ?_
     refine Z00 ?_; replace O : OwnT _ _ ([tRow 40 1 (.slice Bl (i + 1) cl) (i + 1) us, tRow 3 1 (.slice (some ⟨gp, 0, none⟩) qs.length cp) qs.length (intsV qs), tBlk sb 102 (stB p h (((o : Nat) : Int)) kb fb), tMap kb 512 (keptV K), tMap fb 512 m2, tPool vs2 N2, tDisc p mb B 480 cap bm S noL, tMn mb M, tPoolI us Qs]) w89 := OwnT.pick O [7, 0, 1, 2, 3, 4, 5, 6, 8] (by decide)
     refine wp_seq ?_; refine wp_region_lit ?_
     have hE := Env.refl a121 [91, 92, 93, 94, 11]; refine sd 91 hE k (Z03 rfl e11) ?_; intro a122 hE e91 kp; replace e11 := kt kp e11; refine zm 92 hE k e15 ?_; intro a123 hE e92 kp; replace e11 := kt kp e11; replace e91 := kt kp e91; refine Z2f (m := 1) (c := 1) O (cs := #[.slice (some ⟨gp, 0, none⟩) qs.length cp]) (t := 40) 93 hE k rfl (by rfl) (by rfl) rfl (by simp [go_sem, ↓IntWalk.iteOmega, ev e92]) ?_
     clear O; intro g9 a124 w125 O hE e93 kp; replace e11 := kt kp e11; replace e91 := kt kp e91; obtain ⟨gu, cu2, w126, hrun, O⟩ := app_seq O elemIS8 (by decide) rfl (by intro u hu; simp at hu; subst hu; rfl) (by unfold maxLen; omega) (by omega)
     apply Z1t 94 hE k rfl (by rfl) (by rfl) rfl
     case h => exact Z5r rfl e91 e93 (hrun _)
     clear hrun; intro a127 hE e94 kp; replace e11 := kt kp e11; refine sd 11 hE k (Z01 rfl e94) ?_; intro a128 hE e11 kp; refine wpList_nil ?_; replace e0 := hE.g e0; replace e2 := hE.g e2; replace e7 := hE.g e7; replace e8 := hE.g e8; replace e9 := hE.g e9; replace e12 := hE.g e12; replace e13 := hE.g e13; replace e15 := hE.g e15; replace k := k.env hE; clear hE e14 e16 e72; refine Z00 ?_; replace O : OwnT _ _ ([tBlk sb 102 (stB p h (((o : Nat) : Int)) kb fb), tMap kb 512 (keptV K), tMap fb 512 m2, tPool vs2 N2, tDisc p mb B 480 cap bm S noL, tMn mb M, tRow 3 1 (.slice (some ⟨gp, 0, none⟩) qs.length cp) qs.length (intsV qs), tRow 40 1 (.slice (some ⟨gu, 0, none⟩) (((i + 1) + 1)) cu2) ((i + 1) + 1) (us ++ [Value.slice (some ⟨gp, 0, none⟩) qs.length cp]), tPoolI us Qs]) w126 := OwnT.pick O [2, 3, 4, 5, 6, 7, 1, 0, 8] (by decide)
     have d2 := Z4i (OwnT.get O 6 rfl) (Z3b hc0) (by omega)
     refine wp_seq ?_; refine wp_region_lit ?_
     have hE := Env.refl a128 [95, 96, 97, 98, 99, 100, 19]; refine zm 95 hE k e9 ?_; intro a129 hE e95 kp; refine zm 96 hE k e15 ?_; intro a130 hE e96 kp; replace e95 := kt kp e95; apply Z02 97 hE k rfl rfl rfl rfl; case h =>
      simp [go_sem, ↓IntWalk.iteOmega, ev e96]
      with_reducible rfl
     intro a131 hE e97 kp; replace e95 := kt kp e95; apply Z02 98 hE k rfl rfl rfl rfl; case h =>
      simp [go_sem, ↓IntWalk.iteOmega, ev e97, d2]
      with_reducible rfl
     intro a132 hE e98 kp; replace e95 := kt kp e95; refine zm 99 hE k e15 ?_; intro a133 hE e99 kp; replace e95 := kt kp e95; replace e98 := kt kp e98; apply Z06 100 hE k rfl (by rfl) (by rfl) rfl
     case h =>
      simp [go_sem, ↓IntWalk.iteOmega, ev e95, ev e98, ev e99]
      with_reducible exact ⟨rfl, rfl⟩
     case hc => exact Z60 (R := [tRow 3 1 (.slice (some ⟨gp, 0, none⟩) qs.length cp) qs.length (intsV qs), tRow 40 1 (.slice (some ⟨gu, 0, none⟩) (((i + 1) + 1)) cu2) ((i + 1) + 1) (us ++ [Value.slice (some ⟨gp, 0, none⟩) qs.length cp]), tPoolI us Qs]) (xs := qs) c0 _ O ok (fun W OW => row1_own OW.t0 rfl) (by omega) hH (by decide) hk hA hM (by omega) hok hc0
     clear O; rintro e w135 ⟨cC, j, h', o', K', m', S', L', rfl, hj, O, hX⟩
     clear d2; refine ⟨_, rfl, ?_⟩
     intro a134 hE e100 kp; refine sd 19 hE k (Z01 rfl e100) ?_; intro a136 hE e19 kp; refine wpList_nil ?_; replace e0 := hE.g e0; replace e2 := hE.g e2; replace e7 := hE.g e7; replace e8 := hE.g e8; replace e9 := hE.g e9; replace e11 := hE.g e11; replace e12 := hE.g e12; replace e13 := hE.g e13; replace k := k.env hE; clear hE e15; refine Z00 ?_; replace O : OwnT _ _ ([tBlk sb 102 (stB p h' (((o' : Nat) : Int)) kb fb), tMap kb 512 (keptV K'), tMap fb 512 m', tPool vs2 N2, tDisc p mb B 480 cap bm S' L', tMn mb (M.useN j), tRow 40 1 (.slice (some ⟨gu, 0, none⟩) (((i + 1) + 1)) cu2) ((i + 1) + 1) (us ++ [Value.slice (some ⟨gp, 0, none⟩) qs.length cp]), tRow 3 1 (.slice (some ⟨gp, 0, none⟩) qs.length cp) qs.length (intsV qs), tPoolI us Qs]) w135 := OwnT.pick O [0, 1, 2, 3, 4, 5, 7, 6, 8] (by decide)
     replace O : OwnT _ _ ([tRow 3 1 (.slice (some ⟨gp, 0, none⟩) qs.length cp) qs.length (intsV qs), tPoolI us Qs, tBlk sb 102 (stB p h' (((o' : Nat) : Int)) kb fb), tMap kb 512 (keptV K'), tMap fb 512 m', tPool vs2 N2, tDisc p mb B 480 cap bm S' L', tMn mb (M.useN j), tRow 40 1 (.slice (some ⟨gu, 0, none⟩) (((i + 1) + 1)) cu2) ((i + 1) + 1) (us ++ [Value.slice (some ⟨gp, 0, none⟩) qs.length cp])]) w135 := OwnT.pick O [7, 8, 0, 1, 2, 3, 4, 5, 6] (by decide)
     replace O := OwnT.poolIAdd O
     replace O : OwnT _ _ ([tBlk sb 102 (stB p h' (((o' : Nat) : Int)) kb fb), tMap kb 512 (keptV K'), tMap fb 512 m', tPool vs2 N2, tDisc p mb B 480 cap bm S' L', tMn mb (M.useN j), tRow 40 1 (.slice (some ⟨gu, 0, none⟩) (((i + 1) + 1)) cu2) ((i + 1) + 1) (us ++ [Value.slice (some ⟨gp, 0, none⟩) qs.length cp]), tPoolI (us ++ [.slice (some ⟨gp, 0, none⟩) qs.length cp]) (Qs ++ [qs])]) w135 := OwnT.pick O [1, 2, 3, 4, 5, 6, 7, 0] (by decide)
     have hQ2 : (Qs ++ [qs]).length = i + 1 + 1 := by rw [List.length_append, hQ]; rfl
     have hQ52 : ∀ l ∈ Qs ++ [qs], l.length ≤ 5 := fun l hl => by
      rcases List.mem_append.1 hl with hl | hl
      · exact hQ5 l hl
      · obtain rfl := List.mem_singleton.1 hl; omega
     have hqs2 : (Qs ++ [qs])[i + 1]? = some qs := by rw [List.getElem?_append_right (by omega), hQ, Nat.sub_self]; rfl
     have hps2 : (Qs ++ [qs])[i]? = some ps := by rw [List.getElem?_append_left (by omega)]; exact hps
     have hM' := hM.useN j

     rcases hX with ⟨rfl, rfl, hH', rfl, rfl, ok'⟩ | ⟨rfl, hS'⟩
     · skip
       replace O : OwnT _ _ ([tBlk sb 102 (stB p (nextHd h c0) (((o' : Nat) : Int)) kb fb), tMap kb 512 (keptV (inP (pgs 480) qs)), tMap fb 512 m', tPool vs2 N2, tDisc p mb B 480 cap bm S' noL, tMn mb (M.useN j), tRow 40 1 (.slice (some ⟨gu, 0, none⟩) (((i + 1) + 1)) cu2) ((i + 1) + 1) (us ++ [Value.slice (some ⟨gp, 0, none⟩) qs.length cp]), tPoolI (us ++ [.slice (some ⟨gp, 0, none⟩) qs.length cp]) (Qs ++ [qs])]) w135 := O
       refine wp_seq ?_; refine wp_seq ?_; refine wp_region_lit ?_
       have hE := Env.refl a136 [101, 102]; refine zm 101 hE k e19 ?_; intro a137 hE e101 kp; refine sd 102 hE k (Z2c rfl e101 rfl) ?_; intro a138 hE e102 kp; refine wpList_nil ?_; replace e0 := hE.g e0; replace e2 := hE.g e2; replace e7 := hE.g e7; replace e8 := hE.g e8; replace e9 := hE.g e9; replace e11 := hE.g e11; replace e12 := hE.g e12; replace e13 := hE.g e13; replace e19 := hE.g e19; replace k := k.env hE; clear hE; refine Z00 ?_; refine Z07 e102 rfl ?_
       refine wp_skip ?_; refine Z00 (wp_seq ?_); refine wp_seq ?_; refine wp_region_lit ?_
       have hE := Env.refl a138 [103, 104]; refine zm 103 hE k e19 ?_; intro a139 hE e103 kp; refine sd 104 hE k (Z0u rfl e103 rfl) ?_; intro a140 hE e104 kp; refine wpList_nil ?_; replace e0 := hE.g e0; replace e2 := hE.g e2; replace e7 := hE.g e7; replace e8 := hE.g e8; replace e9 := hE.g e9; replace e11 := hE.g e11; replace e13 := hE.g e13; replace k := k.env hE; clear hE e12 e19 e102; refine Z00 ?_; refine Z07 e104 rfl ?_
       refine wp_skip ?_; refine Z00 ?_; refine wp_region_lit ?_
       have hE := Env.refl a140 [105, 106, 12]; refine zm 105 hE k e13 ?_; intro a141 hE e105 kp; refine sd 106 hE k (Z1z rfl e105 rfl (by omega)) ?_; intro a142 hE e106 kp; replace e106 := e106.trans (Z1k (show (i : Int) + 1 = ((i + 1 : Nat) : Int) by omega))
       refine sd 12 hE k (Z01 rfl e106) ?_; intro a143 hE e12 kp; refine wpList_nil ?_; replace e0 := hE.g e0; replace e2 := hE.g e2; replace e7 := hE.g e7; replace e8 := hE.g e8; replace e9 := hE.g e9; replace e11 := hE.g e11; replace e13 := hE.g e13; replace k := k.env hE; clear hE e104; refine Z0r ?_; refine Z00 ?_; refine wp_region_lit ?_
       have hE := Env.refl a143 [59, 60, 13]; refine sd 59 hE k (Z03 rfl e13) ?_; intro a144 hE e59 kp; replace e13 := kt kp e13; refine sd 60 hE k (Z1z rfl e59 rfl (by omega)) ?_; intro a145 hE e60 kp; replace e13 := kt kp e13; replace e60 := e60.trans (Z1k (show (i : Int) + 1 = ((i + 1 : Nat) : Int) by omega))
       refine sd 13 hE k (Z01 rfl e60) ?_; intro a146 hE e13 kp; refine wpList_nil ?_; replace e0 := hE.g e0; replace e2 := hE.g e2; replace e7 := hE.g e7; replace e8 := hE.g e8; replace e9 := hE.g e9; replace e11 := hE.g e11; replace e12 := hE.g e12; replace k := k.env hE; clear hE; refine Z00 ?_; refine ⟨⟨k, e0, e2, e7, e8, e9, i + 1, nextHd h c0, o', _, m', vs2, N2, S', M.useN j, _, _, _, _, qs, e11, e12, e13, by omega, hQ2, hQ52, hqs2, hH', fun c hc => decide_eq_true ⟨hc, (hA.free c hc).2⟩, Nat.le_trans (Nat.le_of_eq hA.kept) (by omega), hcs, ok', hM'.mono (by omega), O⟩, ?_⟩
       rw [e13, mi]; simp only [intOf]; omega
     · skip
       refine wp_seq ?_; refine wp_seq ?_; refine wp_region_lit ?_
       have hE := Env.refl a136 [101, 102]; refine zm 101 hE k e19 ?_; intro a147 hE e101 kp; refine sd 102 hE k (Z2c rfl e101 rfl) ?_; intro a148 hE e102 kp; refine wpList_nil ?_; replace e0 := hE.g e0; replace e2 := hE.g e2; replace e7 := hE.g e7; replace e8 := hE.g e8; replace e9 := hE.g e9; replace e11 := hE.g e11; replace e12 := hE.g e12; replace e13 := hE.g e13; replace e19 := hE.g e19; replace k := k.env hE; clear hE; refine Z00 ?_; refine Z0j e102 rfl ?_
       refine wp_exit ?_
       refine Z0q ?_
       refine block_o rfl ?_
       refine Z0q ?_
       refine Z0q ?_
       refine Z12 ?_
       refine Z00 ?_; replace O : OwnT _ _ ([tDisc p mb B 480 cap bm S' L', tMn mb (M.useN j), tRow 40 1 (.slice (some ⟨gu, 0, none⟩) (((i + 1) + 1)) cu2) ((i + 1) + 1) (us ++ [Value.slice (some ⟨gp, 0, none⟩) qs.length cp]), tPoolI (us ++ [.slice (some ⟨gp, 0, none⟩) qs.length cp]) (Qs ++ [qs])]) w135 := OwnT.pick O [4, 5, 6, 7] (by decide)
       rw [← hQ2] at O e11
       have hsd : Sound7 (pgs 480) 480 (Qs ++ [qs]) i S' L' := fun q => by
        rcases hS' q with h1 | h1
        · exact ⟨i, h, o, ps, .inl rfl, hps2, h1⟩
        · exact ⟨i + 1, _, _, qs, .inr rfl, hqs2, h1⟩

       exact ⟨k, e2, e7, e8, i, Qs ++ [qs], _, _, _, S', L', _, e11, e12, by omega, by omega, hQ52, hsd, hM'.mono (by omega), O⟩
 · clear k e0 e2 e7 e8 e9 e11 e12 O; intro a149 w150 h_; obtain ⟨k, e2, e7, e8, sure, Qs, us, Bl, cl, S, L, M, e11, e12, hsu, hQl, hQ5, hSd, hM, O⟩ := h_
   refine wp_seq ?_; refine wp_region_lit ?_
   have hE := Env.refl a149 [107, 108]; refine zm 107 hE k e7 ?_; intro a151 hE e107 kp; apply Z06 108 hE k rfl (by rfl) (by rfl) rfl
   case h =>
    simp [go_sem, ↓IntWalk.iteOmega, ev e107]
    with_reducible exact ⟨rfl, rfl⟩
   case hc => exact cut_mn (OwnT.pull O 1 rfl)
   clear O; rintro e w153 ⟨rfl, O⟩
   refine ⟨_, rfl, ?_⟩
   intro a152 hE e108 kp; refine wpList_nil ?_; replace e2 := hE.g e2; replace e7 := hE.g e7; replace e8 := hE.g e8; replace e11 := hE.g e11; replace e12 := hE.g e12; replace k := k.env hE; clear hE e108; refine Z00 ?_; replace O : OwnT _ _ ([tDisc p mb B 480 cap bm S L, tMn mb M.cut, tRow 40 1 (.slice Bl Qs.length cl) Qs.length us, tPoolI us Qs]) w153 := OwnT.pick O [1, 0, 2, 3] (by decide)
   obtain ⟨at_, h1, o1, ps, hat, hps, hH⟩ := hSd qk
   obtain ⟨S9, hS9⟩ : ∃ z, setK qk L (looL 480 L) 0 S = z := ⟨_, rfl⟩
   rw [hS9] at hH

   refine wp_seq ?_; refine wp_seq ?_; refine wp_region_lit ?_
   have hE := Env.refl a152 [109, 110, 111, 112]; refine zm 109 hE k e8 ?_; intro a154 hE e109 kp; refine zm 110 hE k e2 ?_; intro a155 hE e110 kp; replace e109 := kt kp e109; apply Z06 111 hE k rfl (by rfl) (by rfl) rfl
   case h =>
    simp [go_sem, ↓IntWalk.iteOmega, ev e109, ev e110]
    with_reducible exact ⟨rfl, rfl⟩
   case hc => exact Z85 qk _ O (by omega) rfl
   clear O; rintro e w157 ⟨rfl, O⟩
   rw [hS9] at O
   refine ⟨_, rfl, ?_⟩
   intro a156 hE e111 kp; refine sd 112 hE k (Z08 (Z0u rfl e111 rfl) (decide_eq_false (by omega))) ?_
   intro a158 hE e112 kp; refine wpList_nil ?_; replace e7 := hE.g e7; replace e8 := hE.g e8; replace e11 := hE.g e11; replace e12 := hE.g e12; replace k := k.env hE; clear hE e2; refine Z00 ?_; refine Z07 e112 rfl ?_
   refine wp_skip ?_; refine Z00 (wp_seq ?_); refine wp_region_lit ?_
   have hE := Env.refl a158 [113, 114]; refine zm 113 hE k e7 ?_; intro a159 hE e113 kp; apply Z06 114 hE k rfl (by rfl) (by rfl) rfl
   case h =>
    simp [go_sem, ↓IntWalk.iteOmega, ev e113]
    with_reducible exact ⟨rfl, rfl⟩
   case hc => exact come_mn (OwnT.pull O 1 rfl) hM.cut (by omega)
   clear O; rintro e w161 ⟨rfl, O⟩
   refine ⟨_, rfl, ?_⟩
   intro a160 hE e114 kp; refine wpList_nil ?_; replace e8 := hE.g e8; replace e11 := hE.g e11; replace e12 := hE.g e12; replace k := k.env hE; clear hE e7 e112 e114; refine Z00 ?_; replace O : OwnT _ _ ([tDisc p mb B 480 cap bm S9 noL, tMn mb M.cut.come, tRow 40 1 (.slice Bl Qs.length cl) Qs.length us, tPoolI us Qs]) w161 := OwnT.pick O [1, 0, 2, 3] (by decide)
   have hnw := hH.hd.newest (OwnT.disc O).ok (by decide)
   refine wp_seq ?_; refine wp_region_lit ?_
   have hE := Env.refl a160 [116, 117, 115, 118, 119, 20, 21]; refine zm 116 hE k e8 ?_; intro a162 hE e116 kp; apply Z06 117 hE k rfl (by rfl) (by rfl) rfl
   case h =>
    simp [go_sem, ↓IntWalk.iteOmega, ev e116]
    with_reducible exact ⟨rfl, rfl⟩
   case hc => exact sopen_is _ O (by decide) (Z3f (M := M)).1 hnw
   clear O; rintro e w164 ⟨ub, kb2, fb2, rfl, O⟩
   refine ⟨_, rfl, ?_⟩
   intro a163 hE e117 kp; refine sd 115 hE k (Z03 rfl e117) ?_; intro a165 hE e115 kp; apply Z02 118 hE k rfl rfl rfl rfl; case h =>
    simp [go_sem, ↓IntWalk.iteOmega, ev e115]
    with_reducible rfl
   intro a166 hE e118 kp; replace e115 := kt kp e115; apply Z02 119 hE k rfl rfl rfl rfl; case h =>
    simp [go_sem, ↓IntWalk.iteOmega, ev e115]
    with_reducible rfl
   intro a167 hE e119 kp; replace e118 := kt kp e118; refine sd 20 hE k (Z01 rfl e118) ?_; intro a168 hE e20 kp; replace e119 := kt kp e119; refine sd 21 hE k (Z01 rfl e119) ?_; intro a169 hE e21 kp; replace e20 := kt kp e20; refine wpList_nil ?_; replace e11 := hE.g e11; replace e12 := hE.g e12; replace k := k.env hE; clear hE e8; refine Z00 (wp_seq ?_); refine wp_seq ?_; refine wp_region_lit ?_
   have hE := Env.refl a169 [120, 121, 122, 123, 124, 125]; refine zm 120 hE k e21 ?_; intro a170 hE e120 kp; refine sd 121 hE k (Z08 (Z0u rfl e120 rfl) (decide_eq_false (by omega))) ?_
   intro a171 hE e121 kp; refine sd 122 hE k (Z03 rfl e121) ?_; intro a172 hE e122 kp; apply Z04 123 hE k rfl rfl rfl rfl rfl e122
   case h =>
    exact Z03 rfl (hE.g e20)
   intro a173 hE e123 kp; replace e122 := kt kp e122; apply Z04 124 hE k rfl rfl rfl rfl rfl e122
   case h =>
    simp [go_sem, ↓IntWalk.iteOmega, ev e123]
    with_reducible rfl
   intro a174 hE e124 kp; replace e122 := kt kp e122; refine sd 125 hE k (Z0i rfl e122 e124) ?_; intro a175 hE e125 kp; refine wpList_nil ?_; replace e11 := hE.g e11; replace e12 := hE.g e12; replace e20 := hE.g e20; replace k := k.env hE; clear hE e21; refine Z00 ?_; refine Z07 e125 rfl ?_
   refine wp_skip ?_; refine Z00 ?_; have hg1 : h1.g = ((at_ + 1 : Nat) : Int) := by have := hH.gen; omega
   have hhv : Ending.returned h1.v = Ending.returned (.agg #[.int .u64 (↑(at_ + 1)), .int .i64 h1.r, .int .i64 h1.a, .int .i64 h1.b, .int .i64 h1.c]) := by show Ending.returned (headV h1.g h1.r h1.a h1.b h1.c) = _; rw [hg1]
   have hatQ : at_ < Qs.length := (List.getElem?_eq_some_iff.1 hps).1
   have ok0 := Z5w (P := pgs 480) (by decide)

   refine wp_seq ?_; refine wp_region_lit ?_
   have hE := Env.refl a175 [126, 127, 128, 129, 130, 22]; refine zm 126 hE k e20 ?_; intro a176 hE e126 kp; apply Z06 127 hE k rfl (by rfl) (by rfl) rfl
   case h =>
    simp [go_sem, ↓IntWalk.iteOmega, ev e126]
    with_reducible exact ⟨rfl, rfl⟩
   case hc => exact Z2g _ (OwnT.stR O)
   rintro e w178 ⟨he, RE⟩
   replace O := OwnT.ext O RE; refine ⟨.agg #[.int .u64 (↑(at_ + 1)), .int .i64 h1.r, .int .i64 h1.a, .int .i64 h1.b, .int .i64 h1.c], he.trans hhv, ?_⟩
   intro a177 hE e127 kp; apply Z02 128 hE k rfl rfl rfl rfl; case h =>
    simp [go_sem, ↓IntWalk.iteOmega, ev e127, fld_gen]
    with_reducible rfl
   intro a179 hE e128 kp; refine sd 129 hE k (Z3t rfl e128 (conv_gen7 (at_ + 1) _ (by omega))) ?_
   intro a180 hE e129 kp; refine sd 130 hE k (Z5o rfl e129 rfl (by omega)) ?_; intro a181 hE e130 kp; replace e130 := e130.trans (Z1k (show ((at_ + 1 : Nat) : Int) - 1 = (at_ : Int) by omega))
   refine sd 22 hE k (Z01 rfl e130) ?_; intro a182 hE e22 kp; refine wpList_nil ?_; replace e11 := hE.g e11; replace e12 := hE.g e12; replace e20 := hE.g e20; replace k := k.env hE; clear hE e125; refine Z00 ?_; refine wp_cutF (fun a w => Fr 196 a ∧ a.eval (.tmp 11) = .slice Bl Qs.length cl ∧ a.eval (.tmp 20) = .pointer (some ⟨ub, 0, none⟩) ∧ a.eval (.tmp 22) = .int .i64 ↑at_ ∧ ∃ (u_ : Unit), OwnT W0.heap.size W0 [tBlk ub 102 (stB p h1 (((o1 : Nat) : Int)) kb2 fb2), tMap kb2 512 (keptV ((fun _ => false))), tMap fb2 512 ((fun _ => none)), tPool ([]) ([]), tDisc p mb B 480 cap bm S9 noL, tMn mb M.cut.come, tRow 40 1 (.slice Bl Qs.length cl) Qs.length us, tPoolI us Qs] w) ?_ ?_
   · skip
     rcases hat with hat | hat
     · skip
       refine wp_seq ?_; refine wp_region_lit ?_
       have hE := Env.refl a182 [131, 132, 133, 134, 135, 136, 137, 138, 139, 140, 141, 142, 143, 144, 145]; refine zm 131 hE k e22 ?_; intro a183 hE e131 kp; refine zm 132 hE k e12 ?_; intro a184 hE e132 kp; replace e131 := kt kp e131; refine sd 133 hE k (Z08 (Z0u rfl e131 e132) (decide_eq_false (by omega))) ?_
       intro a185 hE e133 kp; refine sd 134 hE k (Z03 rfl e133) ?_; intro a186 hE e134 kp; refine Z05 135 hE k rfl (by rfl) (by rfl) rfl rfl (.inl e134) ?_
       intro a187 hE e135 kp; replace e134 := kt kp e134; refine Z05 136 hE k rfl (by rfl) (by rfl) rfl rfl (.inl e134) ?_
       intro a188 hE e136 kp; replace e134 := kt kp e134; replace e135 := kt kp e135; refine Z05 137 hE k rfl (by rfl) (by rfl) rfl rfl (.inl e134) ?_
       intro a189 hE e137 kp; replace e134 := kt kp e134; replace e135 := kt kp e135; refine Z05 138 hE k rfl (by rfl) (by rfl) rfl rfl (.inl e134) ?_
       intro a190 hE e138 kp; replace e134 := kt kp e134; refine sd 139 hE k (Z0i rfl e134 rfl) ?_; intro a191 hE e139 kp; refine sd 140 hE k (Z03 rfl e139) ?_; intro a192 hE e140 kp; apply Z04 141 hE k rfl rfl rfl rfl rfl e140
       case h =>
        exact Z03 rfl (hE.g e22)
       intro a193 hE e141 kp; replace e140 := kt kp e140; apply Z04 142 hE k rfl rfl rfl rfl rfl e140
       case h =>
        exact Z03 rfl (hE.g e11)
       intro a194 hE e142 kp; replace e140 := kt kp e140; replace e141 := kt kp e141; apply Z04 143 hE k rfl rfl rfl rfl rfl e140
       case h =>
        exact Z1x Tryz.underlying69 rfl e142
       intro a195 hE e143 kp; replace e140 := kt kp e140; replace e141 := kt kp e141; apply Z04 144 hE k rfl rfl rfl rfl rfl e140
       case h =>
        exact Z08 (Z22 rfl e141 e143) (decide_eq_false (by omega))
       intro a196 hE e144 kp; replace e140 := kt kp e140; refine sd 145 hE k (Z0i rfl e140 e144) ?_; intro a197 hE e145 kp; refine wpList_nil ?_; replace e11 := hE.g e11; replace e20 := hE.g e20; replace e22 := hE.g e22; replace k := k.env hE; clear hE e12; refine Z00 ?_; refine Z07 e145 rfl ?_
       refine wp_skip ?_; refine Z00 ?_; exact ⟨k, e11, e20, e22, (), O⟩
     · skip
       refine wp_seq ?_; refine wp_region_lit ?_
       have hE := Env.refl a182 [131, 132, 133, 134, 135, 136, 137, 138, 139, 140, 141, 142, 143, 144, 145]; refine zm 131 hE k e22 ?_; intro a198 hE e131 kp; refine zm 132 hE k e12 ?_; intro a199 hE e132 kp; replace e131 := kt kp e131; refine sd 133 hE k (Z08 (Z0u rfl e131 e132) (decide_eq_true (by omega))) ?_
       intro a200 hE e133 kp; refine sd 134 hE k (Z03 rfl e133) ?_; intro a201 hE e134 kp; apply Z04 135 hE k rfl rfl rfl rfl rfl e134
       case h =>
        exact Z03 rfl (hE.g e22)
       intro a202 hE e135 kp; replace e134 := kt kp e134; apply Z04 136 hE k rfl rfl rfl rfl rfl e134
       case h =>
        exact Z03 rfl (hE.g e12)
       intro a203 hE e136 kp; replace e134 := kt kp e134; replace e135 := kt kp e135; apply Z04 137 hE k rfl rfl rfl rfl rfl e134
       case h =>
        exact Z1z rfl e136 rfl (by omega)
       intro a204 hE e137 kp; replace e134 := kt kp e134; replace e135 := kt kp e135; apply Z04 138 hE k rfl rfl rfl rfl rfl e134
       case h =>
        exact Z08 (Z0u rfl e135 e137) (decide_eq_false (by omega))
       intro a205 hE e138 kp; replace e134 := kt kp e134; refine sd 139 hE k (Z0e rfl e134 e138) ?_; intro a206 hE e139 kp; refine sd 140 hE k (Z03 rfl e139) ?_; intro a207 hE e140 kp; apply Z04 141 hE k rfl rfl rfl rfl rfl e140
       case h =>
        exact Z03 rfl (hE.g e22)
       intro a208 hE e141 kp; replace e140 := kt kp e140; apply Z04 142 hE k rfl rfl rfl rfl rfl e140
       case h =>
        exact Z03 rfl (hE.g e11)
       intro a209 hE e142 kp; replace e140 := kt kp e140; replace e141 := kt kp e141; apply Z04 143 hE k rfl rfl rfl rfl rfl e140
       case h =>
        exact Z1x Tryz.underlying69 rfl e142
       intro a210 hE e143 kp; replace e140 := kt kp e140; replace e141 := kt kp e141; apply Z04 144 hE k rfl rfl rfl rfl rfl e140
       case h =>
        exact Z08 (Z22 rfl e141 e143) (decide_eq_false (by omega))
       intro a211 hE e144 kp; replace e140 := kt kp e140; refine sd 145 hE k (Z0i rfl e140 e144) ?_; intro a212 hE e145 kp; refine wpList_nil ?_; replace e11 := hE.g e11; replace e20 := hE.g e20; replace e22 := hE.g e22; replace k := k.env hE; clear hE e12; refine Z00 ?_; refine Z07 e145 rfl ?_
       refine wp_skip ?_; refine Z00 ?_; exact ⟨k, e11, e20, e22, (), O⟩
   · clear k e11 e12 e20 e22 O; intro a213 w214 h_; obtain ⟨k, e11, e20, e22, u_, O⟩ := h_
     by_cases hz : at_ = 0
     · have hr0 := hH.r0 hz
       refine wp_seq ?_; refine wp_seq ?_; refine wp_region_lit ?_
       have hE := Env.refl a213 [146, 147]; refine zm 146 hE k e22 ?_; intro a215 hE e146 kp; refine sd 147 hE k (Z08 (Z2c rfl e146 rfl) (decide_eq_true (by omega))) ?_
       intro a216 hE e147 kp; refine wpList_nil ?_; replace e11 := hE.g e11; replace e20 := hE.g e20; replace e22 := hE.g e22; replace k := k.env hE; clear hE; refine Z00 ?_; refine Z0j e147 rfl ?_
       refine wp_seq ?_; refine wp_region_lit ?_
       have hE := Env.refl a216 [148, 149, 150, 151, 6]; refine zm 148 hE k e20 ?_; intro a217 hE e148 kp; apply Z06 149 hE k rfl (by rfl) (by rfl) rfl
       case h =>
        simp [go_sem, ↓IntWalk.iteOmega, ev e148]
        with_reducible exact ⟨rfl, rfl⟩
       case hc => exact Z2g _ (OwnT.stR O)
       rintro e w219 ⟨he, RE⟩
       replace O := OwnT.ext O RE; refine ⟨.agg #[.int .u64 (↑(at_ + 1)), .int .i64 h1.r, .int .i64 h1.a, .int .i64 h1.b, .int .i64 h1.c], he.trans hhv, ?_⟩
       intro a218 hE e149 kp; apply Z02 150 hE k rfl rfl rfl rfl; case h =>
        simp [go_sem, ↓IntWalk.iteOmega, ev e149, Z6b]
        with_reducible rfl
       intro a220 hE e150 kp; refine sd 151 hE k (Z08 (Z2c rfl e150 rfl) (decide_eq_true hr0)) ?_; intro a221 hE e151 kp; refine sd 6 hE k (Z01 rfl e151) ?_; intro a222 hE e6 kp; refine wpList_nil ?_; replace k := k.env hE; clear hE e11 e20 e22 e147; refine Z00 ?_; refine wp_ret ?_
       refine Z0t ?_
       refine Z0d rfl k e6 ?_
       exact ⟨rfl, O.below⟩
     · have hr1 := hH.r1 (by omega)
       have hpl : 0 < ps.length := (List.getElem?_eq_some_iff.1 hr1).1
       have hul : us.length = Qs.length := (OwnT.get O 7 rfl : (tPoolI us Qs).holds _).1
       obtain ⟨u, hu⟩ : ∃ u, us[at_]? = some u := ⟨_, List.getElem?_eq_getElem (by omega)⟩
       obtain ⟨Bq, cq, rfl, hro⟩ := (OwnT.get O 7 rfl : (tPoolI us Qs).holds _).2 at_ u ps hu hps
       obtain ⟨gq, rfl, -⟩ := Z64 hro (Z3b hr1) hpl
       obtain ⟨gl, rfl, -⟩ := Z64 (OwnT.get O 6 rfl) hu hatQ
       have hplm : ps.length ≤ 5 := hQ5 ps (List.mem_of_getElem? hps)
       clear hro

       refine wp_seq ?_; refine wp_seq ?_; refine wp_region_lit ?_
       have hE := Env.refl a213 [146, 147]; refine zm 146 hE k e22 ?_; intro a223 hE e146 kp; refine sd 147 hE k (Z08 (Z2c rfl e146 rfl) (decide_eq_false (by omega))) ?_
       intro a224 hE e147 kp; refine wpList_nil ?_; replace e11 := hE.g e11; replace e20 := hE.g e20; replace e22 := hE.g e22; replace k := k.env hE; clear hE; refine Z00 ?_; refine Z07 e147 rfl ?_
       refine wp_skip ?_; refine Z00 ?_; have hss := OwnT.stR O
       have hat0 : (0 : Int) ≤ (at_ : Int) := by omega
       refine wp_seq ?_; refine wp_seq ?_; refine Z1f (R := Ext) (w0 := w214) [[], [0], [0, 1], [], [], [3, 4], [3, 4, 5], [3, 4, 5, 6], [3, 4, 5, 6, 7], rg 9] [152, 153, 154, 155, 156, 157, 158, 159, 160, 161] Ext.refl (fun _ _ _ => Ext.trans) (Ext.drew _) (by kernel_rfl) ?_
       apply bd 152 k rfl rfl rfl; case h =>
        intro ax wx hE hR hF; exact Z03 rfl (hE.g e20)
       apply Build.call 153 Ext.refl (by rfl) (by rw [k.size]; rfl) rfl
       case h =>
        intro ax wx hE hR hF; have e152 := zhF hF 0 152 ml0; simp [go_sem, ↓IntWalk.iteOmega, ev e152]
        with_reducible exact ⟨rfl, rfl⟩
       case hc => intro wx hR; exact (show Calls _ _ _ _ (fun e w' => e = .returned (.agg #[.int .u64 (↑(at_ + 1)), .int .i64 h1.r, .int .i64 h1.a, .int .i64 h1.b, .int .i64 h1.c]) ∧ Ext wx w') from (Z2g wx (hss.ext hR)).mono (fun e w' h => ⟨h.1.trans (by have h := hhv; injection h), h.2⟩))
       apply bd 154 k rfl rfl rfl; case h =>
        intro ax wx hE hR hF; have e153 := zhF hF 1 153 ml0; simp [go_sem, ↓IntWalk.iteOmega, ev e153, Z6b]
        with_reducible rfl
       apply bd 155 k rfl rfl rfl; case h =>
        intro ax wx hE hR hF; exact Z03 rfl (hE.g e11)
       apply bd 156 k rfl rfl rfl; case h =>
        intro ax wx hE hR hF; exact Z03 rfl (hE.g e22)
       apply bd 157 k rfl rfl rfl; case h =>
        intro ax wx hE hR hF; have e155 := zhF hF 3 155 ml1; have e156 := zhF hF 4 156 ml0; simp [go_sem, ↓IntWalk.iteOmega, ev e155, ev e156]
        with_reducible rfl
       apply bd 158 k rfl rfl rfl; case h =>
        intro ax wx hE hR hF; have e157 := zhF hF 5 157 ml0; have d0 := Z4i (OwnT.get (OwnT.ext O hR) 6 rfl) hu hatQ
        simp [go_sem, ↓IntWalk.iteOmega, ev e157, d0]
        with_reducible rfl
       apply bd 159 k rfl rfl rfl; case h =>
        intro ax wx hE hR hF; have e158 := zhF hF 6 158 ml0; simp [go_sem, ↓IntWalk.iteOmega, ev e158]
        with_reducible rfl
       apply bd 160 k rfl rfl rfl; case h =>
        intro ax wx hE hR hF; have e159 := zhF hF 7 159 ml0; obtain ⟨_, _, e9_, hro⟩ := ((OwnT.get (OwnT.ext O hR) 7 rfl : (tPoolI us Qs).holds _).2 at_ _ ps hu hps)
        cases e9_
        have d1 := Z4i hro (Z3b hr1) hpl
        simp [go_sem, ↓IntWalk.iteOmega, ev e159, d1]
        with_reducible rfl
       apply bd 161 k rfl rfl rfl; case h =>
        intro ax wx hE hR hF; have e154 := zhF hF 2 154 ml6; have e160 := zhF hF 8 160 ml0; exact Z08 (Z0u rfl e154 e160) (decide_eq_false (fun h => h rfl))
       apply Build.stop
       refine ⟨by kernel_rfl, .inl ⟨rfl, ?_⟩⟩
       intro a225 w226 hE R hF; have e161 : a225.eval (.tmp 161) = _ := hF 9 (det 161 _) ml0
       clear hF; replace O := OwnT.ext O R; clear R; replace e11 := hE.g e11; replace e20 := hE.g e20; replace e22 := hE.g e22; replace k := k.env hE; clear hE e147; refine Z00 ?_; refine Z07 e161 rfl ?_
       refine wp_skip ?_; refine Z00 (wp_seq ?_); refine wp_seq ?_; refine wp_region_lit ?_
       have hE := Env.refl a225 [23]; refine sd 23 hE k (Z01 rfl rfl) ?_; intro a227 hE e23 kp; refine wpList_nil ?_; replace e11 := hE.g e11; replace e20 := hE.g e20; replace e22 := hE.g e22; replace k := k.env hE; clear hE e161; refine Z00 ?_; refine wp_block ?_; clear hss; refine wp_loop (fun a w => Fr 196 a ∧ a.eval (.tmp 11) = .slice (some ⟨gl, 0, none⟩) Qs.length cl ∧ a.eval (.tmp 20) = .pointer (some ⟨ub, 0, none⟩) ∧ a.eval (.tmp 22) = .int .i64 ↑at_ ∧ ∃ (z : Nat), a.eval (.tmp 23) = .int .i64 ↑z ∧ z ≤ ps.length ∧ OwnT W0.heap.size W0 ([tBlk ub 102 (stB p h1 (((o1 : Nat) : Int)) kb2 fb2), tMap kb2 512 (keptV ((fun _ => false))), tMap fb2 512 ((fun _ => none)), tPool ([]) ([]), tDisc p mb B 480 cap bm S9 noL, tMn mb M.cut.come, tRow 40 1 (.slice (some ⟨gl, 0, none⟩) Qs.length cl) Qs.length us, tPoolI us Qs]) w) (fun a w => ps.length - (intOf (a.eval (.tmp 23))).toNat) ?_ ?_
       · exact ⟨k, e11, e20, e22, 0, e23, Nat.zero_le _, O⟩
       intro a228 w229 hI; clear k e11 e20 e22; obtain ⟨k, e11, e20, e22, h_⟩ := hI
       clear O e23; obtain ⟨z, e23, hz2, O⟩ := h_
       have mz := e23
       have d0 := Z4i (OwnT.get O 6 rfl) hu hatQ
       by_cases hlz : z < ps.length
       · have hlzI : (z : Int) < (ps.length : Int) := by omega
         obtain ⟨c, hc⟩ : ∃ c, ps[z]? = some c := ⟨_, List.getElem?_eq_getElem hlz⟩
         obtain ⟨hcr, hcp⟩ := hH.pg z c hc
         obtain ⟨nq, hnq⟩ : ∃ y : Int, (100 : Int) * ((at_ : Int) - 1) + (z : Int) = y := ⟨_, rfl⟩
         rw [hnq] at hcp

         obtain ⟨_, _, e9_, hro⟩ := ((OwnT.get O 7 rfl : (tPoolI us Qs).holds _).2 at_ _ ps hu hps)
         cases e9_
         have d1 := Z4i hro (Z3b hc) hlz
         refine wp_seq ?_; refine wp_seq ?_; refine wp_region_lit ?_
         have hE := Env.refl a228 [162, 163, 164, 165, 166, 167, 168]; refine zm 162 hE k e23 ?_; intro a230 hE e162 kp; refine zm 163 hE k e11 ?_; intro a231 hE e163 kp; replace e162 := kt kp e162; refine zm 164 hE k e22 ?_; intro a232 hE e164 kp; replace e162 := kt kp e162; replace e163 := kt kp e163; apply Z02 165 hE k rfl rfl rfl rfl; case h =>
          simp [go_sem, ↓IntWalk.iteOmega, ev e163, ev e164]
          with_reducible rfl
         intro a233 hE e165 kp; replace e162 := kt kp e162; apply Z02 166 hE k rfl rfl rfl rfl; case h =>
          simp [go_sem, ↓IntWalk.iteOmega, ev e165, d0]
          with_reducible rfl
         intro a234 hE e166 kp; replace e162 := kt kp e162; refine sd 167 hE k (Z1x Tryz.underlying40 rfl e166) ?_; intro a235 hE e167 kp; replace e162 := kt kp e162; refine sd 168 hE k (Z08 (Z1s rfl e162 e167) (decide_eq_true (by omega))) ?_
         intro a236 hE e168 kp; refine wpList_nil ?_; replace e11 := hE.g e11; replace e20 := hE.g e20; replace e22 := hE.g e22; replace e23 := hE.g e23; replace k := k.env hE; clear hE; refine Z00 ?_; refine Z0j e168 rfl ?_
         refine wp_skip ?_; refine Z00 (wp_seq ?_); refine wp_block ?_; refine wp_seq ?_; refine wp_region_lit ?_
         have hE := Env.refl a236 [172, 173, 174, 175, 176, 177, 178, 179, 180, 171, 181, 182, 24, 25]; refine zm 172 hE k e20 ?_; intro a237 hE e172 kp; refine zm 173 hE k e11 ?_; intro a238 hE e173 kp; replace e172 := kt kp e172; refine zm 174 hE k e22 ?_; intro a239 hE e174 kp; replace e172 := kt kp e172; replace e173 := kt kp e173; apply Z02 175 hE k rfl rfl rfl rfl; case h =>
          simp [go_sem, ↓IntWalk.iteOmega, ev e173, ev e174]
          with_reducible rfl
         intro a240 hE e175 kp; replace e172 := kt kp e172; apply Z02 176 hE k rfl rfl rfl rfl; case h =>
          simp [go_sem, ↓IntWalk.iteOmega, ev e175, d0]
          with_reducible rfl
         intro a241 hE e176 kp; replace e172 := kt kp e172; refine zm 177 hE k e23 ?_; intro a242 hE e177 kp; replace e172 := kt kp e172; replace e176 := kt kp e176; apply Z02 178 hE k rfl rfl rfl rfl; case h =>
          simp [go_sem, ↓IntWalk.iteOmega, ev e176, ev e177]
          with_reducible rfl
         intro a243 hE e178 kp; replace e172 := kt kp e172; apply Z02 179 hE k rfl rfl rfl rfl; case h =>
          simp [go_sem, ↓IntWalk.iteOmega, ev e178, d1]
          with_reducible rfl
         intro a244 hE e179 kp; replace e172 := kt kp e172; apply Z06 180 hE k rfl (by rfl) (by rfl) rfl
         case h =>
          simp [go_sem, ↓IntWalk.iteOmega, ev e172, ev e179]
          with_reducible exact ⟨rfl, rfl⟩
         case hc => exact Z58 (M := M.cut.come) c.toNat c nq (by omega) _ (OwnT.stR O) (OwnT.disc (OwnT.pull O 4 rfl)) ok0 (by omega) rfl (OwnT.get O 5 rfl) (Z3f (M := M)).1 hcp
         rintro e w246 ⟨By, cy, rfl, hk, RE⟩
         replace O := OwnT.ext O RE; clear d0 d1 hro; refine ⟨_, rfl, ?_⟩
         intro a245 hE e180 kp; refine sd 171 hE k (Z03 rfl e180) ?_; intro a247 hE e171 kp; apply Z02 181 hE k rfl rfl rfl rfl; case h =>
          simp [go_sem, ↓IntWalk.iteOmega, ev e171]
          with_reducible rfl
         intro a248 hE e181 kp; replace e171 := kt kp e171; apply Z02 182 hE k rfl rfl rfl rfl; case h =>
          simp [go_sem, ↓IntWalk.iteOmega, ev e171]
          with_reducible rfl
         intro a249 hE e182 kp; replace e181 := kt kp e181; refine Z7j O (cs := #[.int .i64 0, .slice none 0 0]) (t := 47) 24 hE k rfl (by rfl) (by rfl) rfl (by simp [go_sem, ↓IntWalk.iteOmega]) ?_
         clear O; intro lk a250 w251 RX O hE e24 kp; replace hk := Row.ext hk RX
         clear RX; replace e181 := kt kp e181; replace e182 := kt kp e182; have q0 : w251.cell? ⟨lk, 0, none⟩ = some (.int .i64 0) := (OwnT.blk O 0 rfl).cell 0
         have z0 : w251.frozen? ⟨lk, 0, none⟩ = false := (OwnT.blk O 0 rfl).frozen 0
         have q1 : w251.cell? ⟨lk, 1, none⟩ = some (.slice none 0 0) := (OwnT.blk O 0 rfl).cell 1
         have z1 : w251.frozen? ⟨lk, 1, none⟩ = false := (OwnT.blk O 0 rfl).frozen 1
         have hbr := OwnT.blk O 0 rfl
         refine Z0y (w' := ((w251.setCell ⟨lk, 0, none⟩ (.int .i64 0)).setCell ⟨lk, 1, none⟩ (.slice By 1 cy))) hE rfl rfl (by simp [go_sem, ↓IntWalk.iteOmega, ev e24, ev e181, q0, z0, q1, z1]) ?_
         replace O := OwnT.push 0 rfl (((OwnT.pull O 0 rfl).set 0 (.int .i64 0)).set 1 (.slice By 1 cy))
         replace hk := Z62 (v0 := .int .i64 0) (v1 := .slice By 1 cy) hk hbr
         clear hbr; clear q0 z0 q1 z1; generalize ((w251.setCell ⟨lk, 0, none⟩ (.int .i64 0)).setCell ⟨lk, 1, none⟩ (.slice By 1 cy)) = w252 at O hk ⊢
         replace O : OwnT _ _ ([tBlk lk 47 #[.int .i64 0, .slice By 1 cy], tBlk ub 102 (stB p h1 (((o1 : Nat) : Int)) kb2 fb2), tMap kb2 512 (keptV ((fun _ => false))), tMap fb2 512 ((fun _ => none)), tPool ([]) ([]), tDisc p mb B 480 cap bm S9 noL, tMn mb M.cut.come, tRow 40 1 (.slice (some ⟨gl, 0, none⟩) Qs.length cl) Qs.length us, tPoolI us Qs]) w252 := O
         refine sd 25 hE k (Z01 rfl e182) ?_; intro a253 hE e25 kp; replace e24 := kt kp e24; refine wpList_nil ?_; replace e11 := hE.g e11; replace e20 := hE.g e20; replace e22 := hE.g e22; replace e23 := hE.g e23; replace k := k.env hE; clear hE e168; refine Z00 (wp_seq ?_); refine Z1f (R := Ext) (w0 := w252) [[], [0], [0, 1], [0, 1, 2], [0, 1, 2], [0, 1, 2, 4], [0, 1, 2, 4, 5], [0, 1, 2], [0, 1, 2, 4, 5, 6, 7], [0, 1, 2, 4, 5, 6, 7, 8], rg 10, rg 11, rg 12] [183, 184, 185, 186, 187, 188, 189, 190, 191, 192, 193, 194, 195] Ext.refl (fun _ _ _ => Ext.trans) (Ext.drew _) (by kernel_rfl) ?_
         apply bd 183 k rfl rfl rfl; case h =>
          intro ax wx hE hR hF; exact Z03 rfl (hE.g e25)
         apply bd 184 k rfl rfl rfl; case h =>
          intro ax wx hE hR hF; have e183 := zhF hF 0 183 ml0; exact Z08 (Z0u rfl e183 rfl) (decide_eq_false (by omega))
         apply bd 185 k rfl rfl rfl; case h =>
          intro ax wx hE hR hF; have e184 := zhF hF 1 184 ml0; exact Z03 rfl e184
         apply bdg 186 k rfl rfl rfl rfl; case h =>
          intro ax wx hE hR hF; have e185 := zhF hF 2 185 ml0; refine ⟨e185, ?_⟩; have q0 : wx.cell? ⟨lk, 0, none⟩ = some (.int .i64 0) := (OwnT.blk (OwnT.ext O hR) 0 rfl).cell 0
          have q1 : wx.cell? ⟨lk, 1, none⟩ = some (.slice By 1 cy) := (OwnT.blk (OwnT.ext O hR) 0 rfl).cell 1
          simp [go_sem, ↓IntWalk.iteOmega, ev (hE.g e24), q0, q1]
          with_reducible rfl
         apply bdg 187 k rfl rfl rfl rfl; case h =>
          intro ax wx hE hR hF; have e185 := zhF hF 2 185 ml1; refine ⟨e185, ?_⟩; exact Z03 rfl (hE.g e22)
         apply bdg 188 k rfl rfl rfl rfl; case h =>
          intro ax wx hE hR hF; have e187 := zhF hF 4 187 ml0; have e185 := zhF hF 2 185 ml2; refine ⟨e185, ?_⟩; exact Z5o rfl e187 rfl (by omega)
         apply bdg 189 k rfl rfl rfl rfl; case h =>
          intro ax wx hE hR hF; have e188 := zhF hF 5 188 ml0; have e185 := zhF hF 2 185 ml3; refine ⟨e185, ?_⟩; exact x_mul rfl rfl e188 (by omega)
         apply bdg 190 k rfl rfl rfl rfl; case h =>
          intro ax wx hE hR hF; have e185 := zhF hF 2 185 ml4; refine ⟨e185, ?_⟩; exact Z03 rfl (hE.g e23)
         apply bdg 191 k rfl rfl rfl rfl; case h =>
          intro ax wx hE hR hF; have e189 := zhF hF 6 189 ml1; have e190 := zhF hF 7 190 ml0; have e185 := zhF hF 2 185 ml5; refine ⟨e185, ?_⟩; exact Z5n (v := .int .i64 nq) (Z1z rfl e189 e190 (by omega)) (Z1k hnq)
         apply Build.callnewg 192 (fun v w => ∃ g, v = .agg #[.int .i64 0, .slice (some ⟨g, 0, none⟩) 1 1] ∧ Row w (some ⟨g, 0, none⟩) 2 pairC (nodeP nq)) (fun v w w' hR h => by obtain ⟨g, e, h⟩ := h; exact ⟨g, e, h.ext hR⟩) Ext.refl (by rfl) (by rw [k.size]; rfl) rfl rfl
         case h =>
          intro ax wx hE hR hF; have e191 := zhF hF 8 191 ml0; have e185 := zhF hF 2 185 ml6; refine ⟨e185, ?_⟩; simp [go_sem, ↓IntWalk.iteOmega, ev e191]
          with_reducible exact ⟨rfl, rfl⟩
         case hc => exact fun wx hR => (Z39 nq wx).mono (fun e w' ⟨g, h1, h2, h3⟩ => ⟨_, h1, h3, g, rfl, h2⟩)
         apply Build.callxg 193 Ext.refl (by rfl) (by rw [k.size]; rfl) rfl rfl
         case h =>
          intro ax wx hE hR hF; have e186 := zhF hF 3 186 ml6; have f192 := hF 9 _ (by decide) ml0
          have e185 := zhF hF 2 185 ml7; refine ⟨e185, ?_⟩; obtain ⟨g9, e192, hg9⟩ := f192
          refine ⟨_, _, ?_, Z2h (cy := cy) (cz := 1) (a := nq) (hk.ext hR) hg9⟩
          simp [go_sem, ↓IntWalk.iteOmega, ev e186, ev e192]
         apply bdg 194 k rfl rfl rfl rfl; case h =>
          intro ax wx hE hR hF; have e193 := zhF hF 10 193 ml0; have e185 := zhF hF 2 185 ml8; refine ⟨e185, ?_⟩; exact Z21 rfl e193
         apply bd 195 k rfl rfl rfl; case h =>
          intro ax wx hE hR hF; have e185 := zhF hF 2 185 ml9; have e194 := zhF hF 11 194 ml0; exact Z0i rfl e185 e194
         apply Build.stop
         refine ⟨by kernel_rfl, .inl ⟨rfl, ?_⟩⟩
         intro a254 w255 hE R hF; have e195 : a254.eval (.tmp 195) = _ := hF 12 (det 195 _) ml0
         clear hF; replace O := OwnT.ext O R; clear R; replace e11 := hE.g e11; replace e20 := hE.g e20; replace e22 := hE.g e22; replace e23 := hE.g e23; replace k := k.env hE; clear hE e24 e25; refine Z00 ?_; refine Z07 e195 rfl ?_
         refine wp_skip ?_; refine Z0r ?_; refine Z00 ?_; refine wp_region_lit ?_
         have hE := Env.refl a254 [169, 170, 23]; refine sd 169 hE k (Z03 rfl e23) ?_; intro a256 hE e169 kp; replace e23 := kt kp e23; refine sd 170 hE k (Z1z rfl e169 rfl (by omega)) ?_; intro a257 hE e170 kp; replace e23 := kt kp e23; replace e170 := e170.trans (Z1k (show (z : Int) + 1 = ((z + 1 : Nat) : Int) by omega))
         refine sd 23 hE k (Z01 rfl e170) ?_; intro a258 hE e23 kp; refine wpList_nil ?_; replace e11 := hE.g e11; replace e20 := hE.g e20; replace e22 := hE.g e22; replace k := k.env hE; clear hE e195; refine Z00 ?_; replace O : OwnT _ _ ([tBlk ub 102 (stB p h1 (((o1 : Nat) : Int)) kb2 fb2), tMap kb2 512 (keptV ((fun _ => false))), tMap fb2 512 ((fun _ => none)), tPool ([]) ([]), tDisc p mb B 480 cap bm S9 noL, tMn mb M.cut.come, tRow 40 1 (.slice (some ⟨gl, 0, none⟩) Qs.length cl) Qs.length us, tPoolI us Qs]) w255 := OwnT.pick O [1, 2, 3, 4, 5, 6, 7, 8] (by decide)
         refine ⟨⟨k, e11, e20, e22, z + 1, e23, by omega, O⟩, ?_⟩
         rw [e23, mz]; simp only [intOf]; omega
       · clear mz; refine wp_seq ?_; refine wp_seq ?_; refine wp_region_lit ?_
         have hE := Env.refl a228 [162, 163, 164, 165, 166, 167, 168]; refine zm 162 hE k e23 ?_; intro a259 hE e162 kp; refine zm 163 hE k e11 ?_; intro a260 hE e163 kp; replace e162 := kt kp e162; refine zm 164 hE k e22 ?_; intro a261 hE e164 kp; replace e162 := kt kp e162; replace e163 := kt kp e163; apply Z02 165 hE k rfl rfl rfl rfl; case h =>
          simp [go_sem, ↓IntWalk.iteOmega, ev e163, ev e164]
          with_reducible rfl
         intro a262 hE e165 kp; replace e162 := kt kp e162; apply Z02 166 hE k rfl rfl rfl rfl; case h =>
          simp [go_sem, ↓IntWalk.iteOmega, ev e165, d0]
          with_reducible rfl
         intro a263 hE e166 kp; replace e162 := kt kp e162; refine sd 167 hE k (Z1x Tryz.underlying40 rfl e166) ?_; intro a264 hE e167 kp; replace e162 := kt kp e162; refine sd 168 hE k (Z08 (Z1s rfl e162 e167) (decide_eq_false (by omega))) ?_
         intro a265 hE e168 kp; refine wpList_nil ?_; replace e11 := hE.g e11; replace e20 := hE.g e20; replace e22 := hE.g e22; replace e23 := hE.g e23; replace k := k.env hE; clear hE; refine Z00 ?_; refine Z07 e168 rfl ?_
         refine wp_exit ?_
         refine Z0q ?_
         refine Z0q ?_
         refine Z12 ?_
         refine Z00 (wp_seq ?_); refine wp_region_lit ?_
         have hE := Env.refl a265 [6]; refine sd 6 hE k (Z01 rfl rfl) ?_; intro a266 hE e6 kp; refine wpList_nil ?_; replace k := k.env hE; clear hE e11 e20 e22 e23 e168; refine Z00 ?_; refine wp_ret ?_
         refine Z0d rfl k e6 ?_
         exact ⟨rfl, O.below⟩
theorem storeWhole_walk (w : World) (v0 v1 v2 : Value) (h0 : Arg Tryz.prog w 40 v0) (h1 : Arg Tryz.prog w 3 v1) (h2 : Arg Tryz.prog w 9 v2) :
 Calls Tryz.prog 4 #[v0, v1, v2] w fun e w' => e = .returned (.bool true) ∧ Below w.heap.size w w' := by
 have hc : Tryz.prog.cellsOf 3 = 1 := by kernel_rfl
 obtain ⟨A1, n1, c1, xs1, rfl, a1, a2, a3, -, a4⟩ := arg_ints Tryz.underlying40 Tryz.underlying3 hc h0
 obtain ⟨x, rfl, -⟩ := arg_int Tryz.underlying3 h1
 obtain ⟨s, rfl, _⟩ := arg_string Tryz.underlying9 h2
 rw [← sB_of s]
 exact Z4e xs1 x _ w a3 a4
section
open Go.ChangeShapes Go.WideShapes Go.ChangeAt
theorem Arg.mk_ {P : Program} {w : World} {t : TypeId} {v : Value} {H : Type} {enc : TypeId × Value → H} {d : DataW H} {p : List MemPlace} {r : Reach} {base : Nat} (h : DataW.Trod enc P w 0 (fun _ => true) true t v d p) (hv : Value.okWide P w r base t v) : Arg P w t v := by
  obtain ⟨fuel, hf⟩ := h
  exact ⟨⟨H, enc, fuel, _, hf⟩, r, base, hv⟩
end
end Go.Proofs.YtakkhglbdljfiaaGreatDoor
