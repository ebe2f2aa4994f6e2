/- trees: slices.Replace of one pair (printed by XTrRw.gen.py). -/
import Derived.Test.YtbfgacmfjfbooaaKReachExact09
namespace Go.Proofs.Ytbfgacmfjfbooaa
set_option linter.unusedVariables false
set_option linter.unusedSimpArgs false
open Go.RowKit Go.Maps

set_option maxRecDepth 100000 in
set_option maxHeartbeats 4000000 in
theorem rep_end0 {H : Nat} {A0 : World} {R : List Thing} {g n cap i m co : Nat} {cur e d : List Value} {Bo : Option Addr} (w : World) (O : OwnT H A0 (tBlk g 103 cur.toArray :: R) w) (hn : n ≤ cap) (hcap : cap ≤ maxLen) (hn6 : n ≤ 100000) (hcur : cur.length = cap * 2) (hm : m = 0) (hi : i + 1 = n) : Calls Try.prog 91 #[.slice (some ⟨g, 0, none⟩) n cap, .int .i64 i, .int .i64 ((i : Int) + 1), .slice Bo m co] w fun e_ w' => e_ = .returned (.slice (some ⟨g, 0, none⟩) i cap) ∧ ∃ z : List Value, z.length = 2 ∧ OwnT H A0 (tBlk g 103 (splice cur (i * 2) z).toArray :: R) w' := by
 have hi64 : ((i : Int) + 1) = ((i + 1 : Nat) : Int) := by omega
 refine Z0a Try.func91 rfl 224 rfl (by rfl) ?_
 intro a1 k hargs; have e0 : a1.eval (.tmp 0) = .slice (some ⟨g, 0, none⟩) n cap := hargs 0 _ rfl
 have e1 : a1.eval (.tmp 1) = .int .i64 ↑i := hargs 1 _ rfl
 have e2 : a1.eval (.tmp 2) = .int .i64 (↑i + 1) := hargs 2 _ rfl
 have e3 : a1.eval (.tmp 3) = .slice Bo m co := hargs 3 _ rfl
 clear hargs; rw [hi64] at e2
 refine wp_seq ?_; refine wp_region_lit ?_
 have hE := Env.refl a1 [8]; refine sd 8 hE k (Z01 rfl rfl) ?_; intro a2 hE e8 kp; refine wpList_nil ?_; replace e0 := hE.g e0; replace e1 := hE.g e1; replace e2 := hE.g e2; replace e3 := hE.g e3; replace k := k.env hE; clear hE e8; refine Z00 (wp_seq ?_); refine wp_region_lit ?_
 have hE := Env.refl a2 [15, 16, 17, 18]; refine zm 15 hE k e0 ?_; intro a3 hE e15 kp; refine zm 16 hE k e1 ?_; intro a4 hE e16 kp; replace e15 := kt kp e15; refine zm 17 hE k e2 ?_; intro a5 hE e17 kp; replace e15 := kt kp e15; replace e16 := kt kp e16; refine sd 18 hE k (Z1j rfl e15 e16 e17 (by omega) (by omega) (by omega)) ?_; intro a6 hE e18 kp; refine wpList_nil ?_; replace e0 := hE.g e0; replace e1 := hE.g e1; replace e2 := hE.g e2; replace e3 := hE.g e3; replace k := k.env hE; clear hE e18; refine Z00 (wp_seq ?_); refine wp_seq ?_; refine wp_region_lit ?_
 have hE := Env.refl a6 [19, 20, 21]; refine zm 19 hE k e1 ?_; intro a7 hE e19 kp; refine zm 20 hE k e2 ?_; intro a8 hE e20 kp; replace e19 := kt kp e19; refine sd 21 hE k (Z05 (Z12 rfl e19 e20) (decide_eq_false (by omega))) ?_
 intro a9 hE e21 kp; refine wpList_nil ?_; replace e0 := hE.g e0; replace e1 := hE.g e1; replace e2 := hE.g e2; replace e3 := hE.g e3; replace k := k.env hE; clear hE; refine Z00 ?_; refine Z06 e21 rfl ?_
 refine wp_skip ?_; refine Z00 (wp_seq ?_); refine wp_seq ?_; refine wp_region_lit ?_
 have hE := Env.refl a9 [26, 27, 28, 29]; refine zm 26 hE k e2 ?_; intro a10 hE e26 kp; refine zm 27 hE k e0 ?_; intro a11 hE e27 kp; replace e26 := kt kp e26; refine sd 28 hE k (Z0j Try.underlying44 rfl e27) ?_; intro a12 hE e28 kp; replace e26 := kt kp e26; refine sd 29 hE k (Z05 (Z12 rfl e26 e28) (decide_eq_true (by omega))) ?_
 intro a13 hE e29 kp; refine wpList_nil ?_; replace e0 := hE.g e0; replace e1 := hE.g e1; replace e2 := hE.g e2; replace e3 := hE.g e3; replace k := k.env hE; clear hE e21; refine Z00 ?_; refine Z0h e29 rfl ?_
 refine wp_seq ?_; refine wp_region_lit ?_
 have hE := Env.refl a13 [30, 31, 32, 33, 34, 9]; refine zm 30 hE k e0 ?_; intro a14 hE e30 kp; refine zm 31 hE k e1 ?_; intro a15 hE e31 kp; replace e30 := kt kp e30; refine sd 32 hE k (Z0r rfl e30 e31 (by omega)) ?_; intro a16 hE e32 kp; refine zm 33 hE k e3 ?_; intro a17 hE e33 kp; replace e32 := kt kp e32; refine sd 34 hE k (Z1e rfl e32 e33 (by rw [hm]; exact appZ O i cap Bo co (by omega) _)) ?_
 intro a18 hE e34 kp; refine sd 9 hE k (Z01 rfl e34) ?_; intro a19 hE e9 kp; refine wpList_nil ?_; replace e0 := hE.g e0; replace k := k.env hE; clear hE e1 e2 e3 e29; refine Z00 (wp_seq ?_); refine wp_seq ?_; refine wp_region_lit ?_
 have hE := Env.refl a19 [35, 36, 37, 38, 39]; refine zm 35 hE k e9 ?_; intro a20 hE e35 kp; refine sd 36 hE k (Z0j Try.underlying44 rfl e35) ?_; intro a21 hE e36 kp; refine zm 37 hE k e0 ?_; intro a22 hE e37 kp; replace e36 := kt kp e36; refine sd 38 hE k (Z0j Try.underlying44 rfl e37) ?_; intro a23 hE e38 kp; replace e36 := kt kp e36; refine sd 39 hE k (Z05 (Z1d rfl e36 e38) (decide_eq_true (by omega))) ?_
 intro a24 hE e39 kp; refine wpList_nil ?_; replace e0 := hE.g e0; replace e9 := hE.g e9; replace k := k.env hE; clear hE; refine Z00 ?_; refine Z0h e39 rfl ?_
 obtain ⟨w2, z, hz, hrun, O2⟩ := clearB O (i * 2) (cap - i) (by omega)
 refine wp_region_lit ?_
 have hE := Env.refl a24 [40, 41, 42, 43]; refine zm 40 hE k e0 ?_; intro a25 hE e40 kp; refine zm 41 hE k e9 ?_; intro a26 hE e41 kp; replace e40 := kt kp e40; refine sd 42 hE k (Z0j Try.underlying44 rfl e41) ?_; intro a27 hE e42 kp; replace e40 := kt kp e40; refine sd 43 hE k (Z1c (v := .slice (some ⟨g, i * 2, none⟩) 1 (cap - i)) (Z0l rfl e40 e42 (by omega) (by omega) (by omega)) (by rw [show n - i = 1 by omega])) ?_
 intro a28 hE e43 kp; refine Z50 (w' := w2) rfl rfl (by exact Z6n rfl e43 (hrun _)) ?_
 replace O := O2
 refine wpList_nil ?_; replace e9 := hE.g e9; replace k := k.env hE; clear hE e0 e39 e43; refine Z00 (wp_seq ?_); refine wp_region_lit ?_
 have hE := Env.refl a28 [44, 8]; refine zm 44 hE k e9 ?_; intro a29 hE e44 kp; refine sd 8 hE k (Z01 rfl e44) ?_; intro a30 hE e8 kp; refine wpList_nil ?_; replace k := k.env hE; clear hE e9; refine Z00 ?_; refine wp_ret ?_
 refine Z0o ?_
 refine Z0v rfl k e8 ?_
 exact ⟨rfl, z, hz, O⟩
set_option maxRecDepth 100000 in
set_option maxHeartbeats 4000000 in
theorem rep_endm {H : Nat} {A0 : World} {R : List Thing} {g n cap i m co : Nat} {cur e d : List Value} {Bo : Option Addr} (w : World) (O : OwnT H A0 (tBlk g 103 cur.toArray :: R) w) (hn : n ≤ cap) (hcap : cap ≤ maxLen) (hn6 : n ≤ 100000) (hcur : cur.length = cap * 2) (he : e.length = m * 2) (he1 : ∀ u ∈ e, u.oneCell' = true) (hsrc : ∀ W cur', OwnT H A0 (tBlk g 103 cur' :: R) W → ∃ p, Bo = some p ∧ ∀ j u, e[j]? = some u → W.cell? (p.add j) = some u) (hm : 1 ≤ m ∧ m ≤ 2) (hi : i + 1 = n) : Calls Try.prog 91 #[.slice (some ⟨g, 0, none⟩) n cap, .int .i64 i, .int .i64 ((i : Int) + 1), .slice Bo m co] w fun e_ w' => ∃ v', e_ = .returned v' ∧ OwnT H A0 (tRow 103 2 v' (i + m) (cur.take (i * 2) ++ e) :: R) w' := by
 obtain ⟨p, rfl, hc⟩ := hsrc w _ O
 have hi64 : ((i : Int) + 1) = ((i + 1 : Nat) : Int) := by omega
 refine Z0a Try.func91 rfl 224 rfl (by rfl) ?_
 intro a1 k hargs; have e0 : a1.eval (.tmp 0) = .slice (some ⟨g, 0, none⟩) n cap := hargs 0 _ rfl
 have e1 : a1.eval (.tmp 1) = .int .i64 ↑i := hargs 1 _ rfl
 have e2 : a1.eval (.tmp 2) = .int .i64 (↑i + 1) := hargs 2 _ rfl
 have e3 : a1.eval (.tmp 3) = .slice ((some p)) m co := hargs 3 _ rfl
 clear hargs; rw [hi64] at e2
 refine wp_seq ?_; refine wp_region_lit ?_
 have hE := Env.refl a1 [8]; refine sd 8 hE k (Z01 rfl rfl) ?_; intro a2 hE e8 kp; refine wpList_nil ?_; replace e0 := hE.g e0; replace e1 := hE.g e1; replace e2 := hE.g e2; replace e3 := hE.g e3; replace k := k.env hE; clear hE e8; refine Z00 (wp_seq ?_); refine wp_region_lit ?_
 have hE := Env.refl a2 [15, 16, 17, 18]; refine zm 15 hE k e0 ?_; intro a3 hE e15 kp; refine zm 16 hE k e1 ?_; intro a4 hE e16 kp; replace e15 := kt kp e15; refine zm 17 hE k e2 ?_; intro a5 hE e17 kp; replace e15 := kt kp e15; replace e16 := kt kp e16; refine sd 18 hE k (Z1j rfl e15 e16 e17 (by omega) (by omega) (by omega)) ?_; intro a6 hE e18 kp; refine wpList_nil ?_; replace e0 := hE.g e0; replace e1 := hE.g e1; replace e2 := hE.g e2; replace e3 := hE.g e3; replace k := k.env hE; clear hE e18; refine Z00 (wp_seq ?_); refine wp_seq ?_; refine wp_region_lit ?_
 have hE := Env.refl a6 [19, 20, 21]; refine zm 19 hE k e1 ?_; intro a7 hE e19 kp; refine zm 20 hE k e2 ?_; intro a8 hE e20 kp; replace e19 := kt kp e19; refine sd 21 hE k (Z05 (Z12 rfl e19 e20) (decide_eq_false (by omega))) ?_
 intro a9 hE e21 kp; refine wpList_nil ?_; replace e0 := hE.g e0; replace e1 := hE.g e1; replace e2 := hE.g e2; replace e3 := hE.g e3; replace k := k.env hE; clear hE; refine Z00 ?_; refine Z06 e21 rfl ?_
 refine wp_skip ?_; refine Z00 (wp_seq ?_); refine wp_seq ?_; refine wp_region_lit ?_
 have hE := Env.refl a9 [26, 27, 28, 29]; refine zm 26 hE k e2 ?_; intro a10 hE e26 kp; refine zm 27 hE k e0 ?_; intro a11 hE e27 kp; replace e26 := kt kp e26; refine sd 28 hE k (Z0j Try.underlying44 rfl e27) ?_; intro a12 hE e28 kp; replace e26 := kt kp e26; refine sd 29 hE k (Z05 (Z12 rfl e26 e28) (decide_eq_true (by omega))) ?_
 intro a13 hE e29 kp; refine wpList_nil ?_; replace e0 := hE.g e0; replace e1 := hE.g e1; replace e2 := hE.g e2; replace e3 := hE.g e3; replace k := k.env hE; clear hE e21; refine Z00 ?_; refine Z0h e29 rfl ?_
 refine wp_seq ?_; refine wp_region_lit ?_
 have hE := Env.refl a13 [30, 31, 32, 33, 34, 9]; refine zm 30 hE k e0 ?_; intro a14 hE e30 kp; refine zm 31 hE k e1 ?_; intro a15 hE e31 kp; replace e30 := kt kp e30; refine sd 32 hE k (Z0r rfl e30 e31 (by omega)) ?_; intro a16 hE e32 kp; refine zm 33 hE k e3 ?_; intro a17 hE e33 kp; replace e32 := kt kp e32; obtain ⟨v2, w2, hrun, O2⟩ := Z34 (m := m) (c := co) (OwnT.blkRow (n := i) (cap := cap) (k := 2) (xs := cur.take (i * 2)) O (by omega) hcap hcur rfl) elemPr (by decide) he hc he1 (by unfold maxLen; omega) (by omega)
 obtain ⟨g2, c2, rfl⟩ := OwnT.slice0 O2 (by omega)
 refine Z0m rfl _ _ _ _ rfl _ _ e32 e33 (hrun _) ?_
 replace O := O2
 clear O2 hrun; refine put_F 34 hE k (by rfl) (by rfl) ?_
 intro a18 hE e34 kp; refine sd 9 hE k (Z01 rfl e34) ?_; intro a19 hE e9 kp; refine wpList_nil ?_; replace e0 := hE.g e0; replace k := k.env hE; clear hE e1 e2 e3 e29; refine Z00 (wp_seq ?_); refine wp_seq ?_; refine wp_region_lit ?_
 have hE := Env.refl a19 [35, 36, 37, 38, 39]; refine zm 35 hE k e9 ?_; intro a20 hE e35 kp; refine sd 36 hE k (Z0j Try.underlying44 rfl e35) ?_; intro a21 hE e36 kp; refine zm 37 hE k e0 ?_; intro a22 hE e37 kp; replace e36 := kt kp e36; refine sd 38 hE k (Z0j Try.underlying44 rfl e37) ?_; intro a23 hE e38 kp; replace e36 := kt kp e36; refine sd 39 hE k (Z05 (Z1d rfl e36 e38) (decide_eq_false (by omega))) ?_
 intro a24 hE e39 kp; refine wpList_nil ?_; replace e0 := hE.g e0; replace e9 := hE.g e9; replace k := k.env hE; clear hE; refine Z00 ?_; refine Z06 e39 rfl ?_
 refine wp_skip ?_; refine Z00 (wp_seq ?_); refine wp_region_lit ?_
 have hE := Env.refl a24 [44, 8]; refine zm 44 hE k e9 ?_; intro a25 hE e44 kp; refine sd 8 hE k (Z01 rfl e44) ?_; intro a26 hE e8 kp; refine wpList_nil ?_; replace k := k.env hE; clear hE e0 e9 e39; refine Z00 ?_; refine wp_ret ?_
 refine Z0o ?_
 refine Z0v rfl k e8 ?_
 exact ⟨_, rfl, O⟩
set_option maxRecDepth 100000 in
set_option maxHeartbeats 4000000 in
theorem rep_mid0 {H : Nat} {A0 : World} {R : List Thing} {g n cap i m co : Nat} {cur e d : List Value} {Bo : Option Addr} (w : World) (O : OwnT H A0 (tBlk g 103 cur.toArray :: R) w) (hn : n ≤ cap) (hcap : cap ≤ maxLen) (hn6 : n ≤ 100000) (hcur : cur.length = cap * 2)  (hd : (cur.drop ((i + 1) * 2)).take d.length = d) (hdl : d.length = (n - (i + 1)) * 2) (hd1 : ∀ u ∈ d, u.oneCell' = true) (hm : m = 0) (hi : i + 1 < n) : Calls Try.prog 91 #[.slice (some ⟨g, 0, none⟩) n cap, .int .i64 i, .int .i64 ((i : Int) + 1), .slice Bo m co] w fun e_ w' => e_ = .returned (.slice (some ⟨g, 0, none⟩) (n - 1 + m) cap) ∧ ∃ z : List Value, z.length = 2 ∧ OwnT H A0 (tBlk g 103 (splice (splice cur ((i + m) * 2) d) ((n - 1) * 2) z).toArray :: R) w' := by
 have hi64 : ((i : Int) + 1) = ((i + 1 : Nat) : Int) := by omega
 refine Z0a Try.func91 rfl 224 rfl (by rfl) ?_
 intro a1 k hargs; have e0 : a1.eval (.tmp 0) = .slice (some ⟨g, 0, none⟩) n cap := hargs 0 _ rfl
 have e1 : a1.eval (.tmp 1) = .int .i64 ↑i := hargs 1 _ rfl
 have e2 : a1.eval (.tmp 2) = .int .i64 (↑i + 1) := hargs 2 _ rfl
 have e3 : a1.eval (.tmp 3) = .slice Bo m co := hargs 3 _ rfl
 clear hargs; rw [hi64] at e2
 refine wp_seq ?_; refine wp_region_lit ?_
 have hE := Env.refl a1 [8]; refine sd 8 hE k (Z01 rfl rfl) ?_; intro a2 hE e8 kp; refine wpList_nil ?_; replace e0 := hE.g e0; replace e1 := hE.g e1; replace e2 := hE.g e2; replace e3 := hE.g e3; replace k := k.env hE; clear hE e8; refine Z00 (wp_seq ?_); refine wp_region_lit ?_
 have hE := Env.refl a2 [15, 16, 17, 18]; refine zm 15 hE k e0 ?_; intro a3 hE e15 kp; refine zm 16 hE k e1 ?_; intro a4 hE e16 kp; replace e15 := kt kp e15; refine zm 17 hE k e2 ?_; intro a5 hE e17 kp; replace e15 := kt kp e15; replace e16 := kt kp e16; refine sd 18 hE k (Z1j rfl e15 e16 e17 (by omega) (by omega) (by omega)) ?_; intro a6 hE e18 kp; refine wpList_nil ?_; replace e0 := hE.g e0; replace e1 := hE.g e1; replace e2 := hE.g e2; replace e3 := hE.g e3; replace k := k.env hE; clear hE e18; refine Z00 (wp_seq ?_); refine wp_seq ?_; refine wp_region_lit ?_
 have hE := Env.refl a6 [19, 20, 21]; refine zm 19 hE k e1 ?_; intro a7 hE e19 kp; refine zm 20 hE k e2 ?_; intro a8 hE e20 kp; replace e19 := kt kp e19; refine sd 21 hE k (Z05 (Z12 rfl e19 e20) (decide_eq_false (by omega))) ?_
 intro a9 hE e21 kp; refine wpList_nil ?_; replace e0 := hE.g e0; replace e1 := hE.g e1; replace e2 := hE.g e2; replace e3 := hE.g e3; replace k := k.env hE; clear hE; refine Z00 ?_; refine Z06 e21 rfl ?_
 refine wp_skip ?_; refine Z00 (wp_seq ?_); refine wp_seq ?_; refine wp_region_lit ?_
 have hE := Env.refl a9 [26, 27, 28, 29]; refine zm 26 hE k e2 ?_; intro a10 hE e26 kp; refine zm 27 hE k e0 ?_; intro a11 hE e27 kp; replace e26 := kt kp e26; refine sd 28 hE k (Z0j Try.underlying44 rfl e27) ?_; intro a12 hE e28 kp; replace e26 := kt kp e26; refine sd 29 hE k (Z05 (Z12 rfl e26 e28) (decide_eq_false (by omega))) ?_
 intro a13 hE e29 kp; refine wpList_nil ?_; replace e0 := hE.g e0; replace e1 := hE.g e1; replace e2 := hE.g e2; replace e3 := hE.g e3; replace k := k.env hE; clear hE e21; refine Z00 ?_; refine Z06 e29 rfl ?_
 refine wp_skip ?_; refine Z00 ?_; obtain ⟨tot, htot⟩ : ∃ t, n - 1 + m = t := ⟨_, rfl⟩
 refine wp_seq ?_; refine Z0b (R := Ext) (w0 := w) [[], [], [0, 1], [0, 1, 2], [], [4], rg 6, [], [], [7, 8], [7, 8, 9], rg 11, rg 12] [45, 46, 47, 48, 49, 50, 51, 52, 53, 54, 55, 56, 10] Ext.refl (fun _ _ _ => Ext.trans) (Ext.drew _) (by kernel_rfl) ?_
 refine bd 45 k rfl rfl rfl (fun ax wx hE hR hF => Z02 rfl (hE.g e0)) ?_
 refine bd 46 k rfl rfl rfl (fun ax wx hE hR hF => Z02 rfl (hE.g e1)) ?_
 refine bd 47 k rfl rfl rfl (fun ax wx hE hR hF => have e45 := zhF hF 0 45 ml1; have e46 := zhF hF 1 46 ml0; Z0r rfl e45 e46 (by omega)) ?_
 refine bd 48 k rfl rfl rfl (fun ax wx hE hR hF => have e47 := zhF hF 2 47 ml0; Z0j Try.underlying44 rfl e47) ?_
 refine bd 49 k rfl rfl rfl (fun ax wx hE hR hF => Z02 rfl (hE.g e3)) ?_
 refine bd 50 k rfl rfl rfl (fun ax wx hE hR hF => have e49 := zhF hF 4 49 ml0; Z0j Try.underlying44 rfl e49) ?_
 refine bd 51 k rfl rfl rfl (fun ax wx hE hR hF => have e48 := zhF hF 3 48 ml2; have e50 := zhF hF 5 50 ml0; Z1c (v := .int .i64 ((i + m : Nat) : Int)) (Z11 rfl e48 e50 (by omega)) (Z0s (by omega))) ?_
 refine bd 52 k rfl rfl rfl (fun ax wx hE hR hF => Z02 rfl (hE.g e0)) ?_
 refine bd 53 k rfl rfl rfl (fun ax wx hE hR hF => Z02 rfl (hE.g e2)) ?_
 refine bd 54 k rfl rfl rfl (fun ax wx hE hR hF => have e52 := zhF hF 7 52 ml1; have e53 := zhF hF 8 53 ml0; Z0l rfl e52 e53 (by omega) (by omega) (by omega)) ?_
 refine bd 55 k rfl rfl rfl (fun ax wx hE hR hF => have e54 := zhF hF 9 54 ml0; Z0j Try.underlying44 rfl e54) ?_
 refine bd 56 k rfl rfl rfl (fun ax wx hE hR hF => have e51 := zhF hF 6 51 ml4; have e55 := zhF hF 10 55 ml0; Z1c (v := .int .i64 (tot : Int)) (Z11 rfl e51 e55 (by omega)) (Z0s (by omega))) ?_
 refine bd 10 k rfl rfl rfl (fun ax wx hE hR hF => have e56 := zhF hF 11 56 ml0; Z01 rfl e56) ?_
 apply Build.stop
 refine ⟨by kernel_rfl, .inl ⟨rfl, ?_⟩⟩
 intro a14 w15 hE R hF; have e10 : a14.eval (.tmp 10) = _ := hF 12 (det 10 _) ml0
 clear hF; replace O := OwnT.ext O R; clear R; replace e0 := hE.g e0; replace e1 := hE.g e1; replace e2 := hE.g e2; replace e3 := hE.g e3; replace k := k.env hE; clear hE e29; refine Z00 (wp_seq ?_); refine wp_seq ?_; refine wp_region_lit ?_
 have hE := Env.refl a14 [57, 58, 59, 60]; refine zm 57 hE k e10 ?_; intro a16 hE e57 kp; refine zm 58 hE k e0 ?_; intro a17 hE e58 kp; replace e57 := kt kp e57; refine sd 59 hE k (Z7f rfl e58) ?_; intro a18 hE e59 kp; replace e57 := kt kp e57; refine sd 60 hE k (Z05 (Z2b rfl e57 e59) (decide_eq_false (by omega))) ?_
 intro a19 hE e60 kp; refine wpList_nil ?_; replace e0 := hE.g e0; replace e1 := hE.g e1; replace e2 := hE.g e2; replace e3 := hE.g e3; replace e10 := hE.g e10; replace k := k.env hE; clear hE; refine Z00 ?_; refine Z06 e60 rfl ?_
 refine wp_skip ?_; refine Z00 (wp_seq ?_); refine wp_region_lit ?_
 have hE := Env.refl a19 [84, 85, 86, 12]; refine zm 84 hE k e0 ?_; intro a20 hE e84 kp; refine zm 85 hE k e10 ?_; intro a21 hE e85 kp; replace e84 := kt kp e84; refine sd 86 hE k (Z0r rfl e84 e85 (by omega)) ?_; intro a22 hE e86 kp; refine sd 12 hE k (Z01 rfl e86) ?_; intro a23 hE e12 kp; refine wpList_nil ?_; replace e0 := hE.g e0; replace e1 := hE.g e1; replace e2 := hE.g e2; replace e3 := hE.g e3; replace e10 := hE.g e10; replace k := k.env hE; clear hE e60; refine Z00 (wp_seq ?_); refine wp_seq ?_; refine wp_region_lit ?_
 have hE := Env.refl a23 [87, 88, 89, 90, 91, 92]; refine zm 87 hE k e1 ?_; intro a24 hE e87 kp; refine zm 88 hE k e3 ?_; intro a25 hE e88 kp; replace e87 := kt kp e87; refine sd 89 hE k (Z0j Try.underlying44 rfl e88) ?_; intro a26 hE e89 kp; replace e87 := kt kp e87; refine sd 90 hE k (Z1c (v := .int .i64 ((i + m : Nat) : Int)) (Z11 rfl e87 e89 (by omega)) (Z0s (by omega))) ?_
 intro a27 hE e90 kp; refine zm 91 hE k e2 ?_; intro a28 hE e91 kp; replace e90 := kt kp e90; refine sd 92 hE k (Z05 (x_leq rfl e90 e91) (decide_eq_true (by omega))) ?_
 intro a29 hE e92 kp; refine wpList_nil ?_; replace e0 := hE.g e0; replace e1 := hE.g e1; replace e2 := hE.g e2; replace e3 := hE.g e3; replace e10 := hE.g e10; replace e12 := hE.g e12; replace k := k.env hE; clear hE; refine Z00 ?_; refine Z0h e92 rfl ?_
 refine wp_seq ?_; refine wp_region_lit ?_
 have hE := Env.refl a29 [93, 94, 95, 96, 97]; refine zm 93 hE k e12 ?_; intro a30 hE e93 kp; refine zm 94 hE k e1 ?_; intro a31 hE e94 kp; replace e93 := kt kp e93; refine sd 95 hE k (Z0l rfl e93 e94 (by omega) (by omega) (by omega)) ?_; intro a32 hE e95 kp; refine zm 96 hE k e3 ?_; intro a33 hE e96 kp; replace e95 := kt kp e95; refine sd 97 hE k (Z5s rfl e95 e96 (copyZ _ _ _ _ _ _ (by rw [hm]; exact Nat.zero_min _) _ _)) ?_
 intro a34 hE e97 kp; refine wpList_nil ?_; replace e0 := hE.g e0; replace e1 := hE.g e1; replace e2 := hE.g e2; replace e3 := hE.g e3; replace e10 := hE.g e10; replace e12 := hE.g e12; replace k := k.env hE; clear hE e92 e97; refine Z00 ?_; have hC1 : (cur).length = cap * 2 := by exact hcur
 have hd2 : ((cur).drop ((i + 1) * 2)).take d.length = d := by exact hd
 refine wp_seq ?_; refine Z0b (R := Ext) (w0 := w15) [[], [], [], [2], [1, 2, 3], rg 5, [], [], [6, 7], rg 9] [98, 99, 100, 101, 102, 103, 104, 105, 106] Ext.refl (fun _ _ _ => Ext.trans) (Ext.drew _) (by kernel_rfl) ?_
 refine bd 98 k rfl rfl rfl (fun ax wx hE hR hF => Z02 rfl (hE.g e12)) ?_
 refine bd 99 k rfl rfl rfl (fun ax wx hE hR hF => Z02 rfl (hE.g e1)) ?_
 refine bd 100 k rfl rfl rfl (fun ax wx hE hR hF => Z02 rfl (hE.g e3)) ?_
 refine bd 101 k rfl rfl rfl (fun ax wx hE hR hF => have e100 := zhF hF 2 100 ml0; Z0j Try.underlying44 rfl e100) ?_
 refine bd 102 k rfl rfl rfl (fun ax wx hE hR hF => have e99 := zhF hF 1 99 ml2; have e101 := zhF hF 3 101 ml0; Z1c (v := .int .i64 ((i + m : Nat) : Int)) (Z11 rfl e99 e101 (by omega)) (Z0s (by omega))) ?_
 refine bd 103 k rfl rfl rfl (fun ax wx hE hR hF => have e98 := zhF hF 0 98 ml4; have e102 := zhF hF 4 102 ml0; Z0l rfl e98 e102 (by omega) (by omega) (by omega)) ?_
 refine bd 104 k rfl rfl rfl (fun ax wx hE hR hF => Z02 rfl (hE.g e0)) ?_
 refine bd 105 k rfl rfl rfl (fun ax wx hE hR hF => Z02 rfl (hE.g e2)) ?_
 refine bd 106 k rfl rfl rfl (fun ax wx hE hR hF => have e104 := zhF hF 6 104 ml1; have e105 := zhF hF 7 105 ml0; Z0l rfl e104 e105 (by omega) (by omega) (by omega)) ?_
 apply Build.stop
 refine ⟨by kernel_rfl, .inr ⟨by kernel_rfl, _, rfl, rfl, ?_⟩⟩
 intro a35 w36 hE R hF; have e103 : a35.eval (.tmp 103) = _ := hF 5 (det 103 _) ml3
 have e106 : a35.eval (.tmp 106) = _ := hF 8 (det 106 _) ml0
 clear hF; replace O := OwnT.ext O R; obtain ⟨w2_, hrun, O2⟩ := copyB O ((i + m) * 2) (tot - (i + m)) (cap - (i + m)) (n - (i + 1)) (cap - (i + 1)) ⟨g, (i + 1) * 2, none⟩ d (by rw [hdl]; exact congrArg (· * 2) (Nat.min_eq_left (by omega) : min (n - (i + 1)) (tot - (i + m)) = n - (i + 1)).symm) (Z3c (OwnT.b0 O) hd2) (by omega) hd1
 clear R; apply Z3p (w' := w2_) 107 [98, 99, 100, 101, 102, 103, 104, 105, 106, 107] hE k rfl (by rfl) (by rfl) (by rfl)
 case h =>
  exact Z5s rfl e103 e106 (hrun _)
 intro a37 hE e107 kp; replace O := O2
 clear O2 hrun; replace e0 := hE.g e0; replace e10 := hE.g e10; replace e12 := hE.g e12; replace k := k.env hE; clear hE e1 e2 e3 e107; refine Z00 ?_; obtain ⟨w3_, z, hz, hrun, O2⟩ := clearB O ((n - 1) * 2) (cap - tot) (by rw [length_splice _ _ _ (by omega)]; omega)
 refine wp_seq ?_; refine wp_region_lit ?_
 have hE := Env.refl a37 [108, 109, 110]; refine zm 108 hE k e0 ?_; intro a38 hE e108 kp; refine zm 109 hE k e10 ?_; intro a39 hE e109 kp; replace e108 := kt kp e108; refine sd 110 hE k (Z1c (v := .slice (some ⟨g, (n - 1) * 2, none⟩) 1 (cap - tot)) (Z0l rfl e108 e109 (by omega) (by omega) (by omega)) (by rw [show tot = n - 1 by omega, show n - (n - 1) = 1 by omega])) ?_
 intro a40 hE e110 kp; refine Z50 (w' := w3_) rfl rfl (by exact Z6n rfl e110 (hrun _)) ?_
 replace O := O2
 refine wpList_nil ?_; replace e12 := hE.g e12; replace k := k.env hE; clear hE e0 e10 e110; refine Z00 (wp_seq ?_); refine wp_region_lit ?_
 have hE := Env.refl a40 [111, 8]; refine zm 111 hE k e12 ?_; intro a41 hE e111 kp; refine sd 8 hE k (Z01 rfl e111) ?_; intro a42 hE e8 kp; refine wpList_nil ?_; replace k := k.env hE; clear hE e12; refine Z00 ?_; refine wp_ret ?_
 refine Z0o ?_
 refine Z0v rfl k e8 ?_
 exact ⟨by rw [htot], z, hz, O⟩
set_option maxRecDepth 100000 in
set_option maxHeartbeats 4000000 in
theorem rep_mid1 {H : Nat} {A0 : World} {R : List Thing} {g n cap i m co : Nat} {cur e d : List Value} {Bo : Option Addr} (w : World) (O : OwnT H A0 (tBlk g 103 cur.toArray :: R) w) (hn : n ≤ cap) (hcap : cap ≤ maxLen) (hn6 : n ≤ 100000) (hcur : cur.length = cap * 2) (he : e.length = m * 2) (he1 : ∀ u ∈ e, u.oneCell' = true) (hsrc : ∀ W cur', OwnT H A0 (tBlk g 103 cur' :: R) W → ∃ p, Bo = some p ∧ ∀ j u, e[j]? = some u → W.cell? (p.add j) = some u) (hd : (cur.drop ((i + 1) * 2)).take d.length = d) (hdl : d.length = (n - (i + 1)) * 2) (hd1 : ∀ u ∈ d, u.oneCell' = true) (hm : m = 1) (hi : i + 1 < n) : Calls Try.prog 91 #[.slice (some ⟨g, 0, none⟩) n cap, .int .i64 i, .int .i64 ((i : Int) + 1), .slice Bo m co] w fun e_ w' => e_ = .returned (.slice (some ⟨g, 0, none⟩) (n - 1 + m) cap) ∧ OwnT H A0 (tBlk g 103 (splice (splice cur (i * 2) e) ((i + m) * 2) d).toArray :: R) w' := by
 obtain ⟨p, rfl, hc⟩ := hsrc w _ O
 have hi64 : ((i : Int) + 1) = ((i + 1 : Nat) : Int) := by omega
 refine Z0a Try.func91 rfl 224 rfl (by rfl) ?_
 intro a1 k hargs; have e0 : a1.eval (.tmp 0) = .slice (some ⟨g, 0, none⟩) n cap := hargs 0 _ rfl
 have e1 : a1.eval (.tmp 1) = .int .i64 ↑i := hargs 1 _ rfl
 have e2 : a1.eval (.tmp 2) = .int .i64 (↑i + 1) := hargs 2 _ rfl
 have e3 : a1.eval (.tmp 3) = .slice ((some p)) m co := hargs 3 _ rfl
 clear hargs; rw [hi64] at e2
 refine wp_seq ?_; refine wp_region_lit ?_
 have hE := Env.refl a1 [8]; refine sd 8 hE k (Z01 rfl rfl) ?_; intro a2 hE e8 kp; refine wpList_nil ?_; replace e0 := hE.g e0; replace e1 := hE.g e1; replace e2 := hE.g e2; replace e3 := hE.g e3; replace k := k.env hE; clear hE e8; refine Z00 (wp_seq ?_); refine wp_region_lit ?_
 have hE := Env.refl a2 [15, 16, 17, 18]; refine zm 15 hE k e0 ?_; intro a3 hE e15 kp; refine zm 16 hE k e1 ?_; intro a4 hE e16 kp; replace e15 := kt kp e15; refine zm 17 hE k e2 ?_; intro a5 hE e17 kp; replace e15 := kt kp e15; replace e16 := kt kp e16; refine sd 18 hE k (Z1j rfl e15 e16 e17 (by omega) (by omega) (by omega)) ?_; intro a6 hE e18 kp; refine wpList_nil ?_; replace e0 := hE.g e0; replace e1 := hE.g e1; replace e2 := hE.g e2; replace e3 := hE.g e3; replace k := k.env hE; clear hE e18; refine Z00 (wp_seq ?_); refine wp_seq ?_; refine wp_region_lit ?_
 have hE := Env.refl a6 [19, 20, 21]; refine zm 19 hE k e1 ?_; intro a7 hE e19 kp; refine zm 20 hE k e2 ?_; intro a8 hE e20 kp; replace e19 := kt kp e19; refine sd 21 hE k (Z05 (Z12 rfl e19 e20) (decide_eq_false (by omega))) ?_
 intro a9 hE e21 kp; refine wpList_nil ?_; replace e0 := hE.g e0; replace e1 := hE.g e1; replace e2 := hE.g e2; replace e3 := hE.g e3; replace k := k.env hE; clear hE; refine Z00 ?_; refine Z06 e21 rfl ?_
 refine wp_skip ?_; refine Z00 (wp_seq ?_); refine wp_seq ?_; refine wp_region_lit ?_
 have hE := Env.refl a9 [26, 27, 28, 29]; refine zm 26 hE k e2 ?_; intro a10 hE e26 kp; refine zm 27 hE k e0 ?_; intro a11 hE e27 kp; replace e26 := kt kp e26; refine sd 28 hE k (Z0j Try.underlying44 rfl e27) ?_; intro a12 hE e28 kp; replace e26 := kt kp e26; refine sd 29 hE k (Z05 (Z12 rfl e26 e28) (decide_eq_false (by omega))) ?_
 intro a13 hE e29 kp; refine wpList_nil ?_; replace e0 := hE.g e0; replace e1 := hE.g e1; replace e2 := hE.g e2; replace e3 := hE.g e3; replace k := k.env hE; clear hE e21; refine Z00 ?_; refine Z06 e29 rfl ?_
 refine wp_skip ?_; refine Z00 ?_; obtain ⟨tot, htot⟩ : ∃ t, n - 1 + m = t := ⟨_, rfl⟩
 refine wp_seq ?_; refine Z0b (R := Ext) (w0 := w) [[], [], [0, 1], [0, 1, 2], [], [4], rg 6, [], [], [7, 8], [7, 8, 9], rg 11, rg 12] [45, 46, 47, 48, 49, 50, 51, 52, 53, 54, 55, 56, 10] Ext.refl (fun _ _ _ => Ext.trans) (Ext.drew _) (by kernel_rfl) ?_
 refine bd 45 k rfl rfl rfl (fun ax wx hE hR hF => Z02 rfl (hE.g e0)) ?_
 refine bd 46 k rfl rfl rfl (fun ax wx hE hR hF => Z02 rfl (hE.g e1)) ?_
 refine bd 47 k rfl rfl rfl (fun ax wx hE hR hF => have e45 := zhF hF 0 45 ml1; have e46 := zhF hF 1 46 ml0; Z0r rfl e45 e46 (by omega)) ?_
 refine bd 48 k rfl rfl rfl (fun ax wx hE hR hF => have e47 := zhF hF 2 47 ml0; Z0j Try.underlying44 rfl e47) ?_
 refine bd 49 k rfl rfl rfl (fun ax wx hE hR hF => Z02 rfl (hE.g e3)) ?_
 refine bd 50 k rfl rfl rfl (fun ax wx hE hR hF => have e49 := zhF hF 4 49 ml0; Z0j Try.underlying44 rfl e49) ?_
 refine bd 51 k rfl rfl rfl (fun ax wx hE hR hF => have e48 := zhF hF 3 48 ml2; have e50 := zhF hF 5 50 ml0; Z1c (v := .int .i64 ((i + m : Nat) : Int)) (Z11 rfl e48 e50 (by omega)) (Z0s (by omega))) ?_
 refine bd 52 k rfl rfl rfl (fun ax wx hE hR hF => Z02 rfl (hE.g e0)) ?_
 refine bd 53 k rfl rfl rfl (fun ax wx hE hR hF => Z02 rfl (hE.g e2)) ?_
 refine bd 54 k rfl rfl rfl (fun ax wx hE hR hF => have e52 := zhF hF 7 52 ml1; have e53 := zhF hF 8 53 ml0; Z0l rfl e52 e53 (by omega) (by omega) (by omega)) ?_
 refine bd 55 k rfl rfl rfl (fun ax wx hE hR hF => have e54 := zhF hF 9 54 ml0; Z0j Try.underlying44 rfl e54) ?_
 refine bd 56 k rfl rfl rfl (fun ax wx hE hR hF => have e51 := zhF hF 6 51 ml4; have e55 := zhF hF 10 55 ml0; Z1c (v := .int .i64 (tot : Int)) (Z11 rfl e51 e55 (by omega)) (Z0s (by omega))) ?_
 refine bd 10 k rfl rfl rfl (fun ax wx hE hR hF => have e56 := zhF hF 11 56 ml0; Z01 rfl e56) ?_
 apply Build.stop
 refine ⟨by kernel_rfl, .inl ⟨rfl, ?_⟩⟩
 intro a14 w15 hE R hF; have e10 : a14.eval (.tmp 10) = _ := hF 12 (det 10 _) ml0
 clear hF; replace O := OwnT.ext O R; clear R; replace e0 := hE.g e0; replace e1 := hE.g e1; replace e2 := hE.g e2; replace e3 := hE.g e3; replace k := k.env hE; clear hE e29; refine Z00 (wp_seq ?_); refine wp_seq ?_; refine wp_region_lit ?_
 have hE := Env.refl a14 [57, 58, 59, 60]; refine zm 57 hE k e10 ?_; intro a16 hE e57 kp; refine zm 58 hE k e0 ?_; intro a17 hE e58 kp; replace e57 := kt kp e57; refine sd 59 hE k (Z7f rfl e58) ?_; intro a18 hE e59 kp; replace e57 := kt kp e57; refine sd 60 hE k (Z05 (Z2b rfl e57 e59) (decide_eq_false (by omega))) ?_
 intro a19 hE e60 kp; refine wpList_nil ?_; replace e0 := hE.g e0; replace e1 := hE.g e1; replace e2 := hE.g e2; replace e3 := hE.g e3; replace e10 := hE.g e10; replace k := k.env hE; clear hE; refine Z00 ?_; refine Z06 e60 rfl ?_
 refine wp_skip ?_; refine Z00 (wp_seq ?_); refine wp_region_lit ?_
 have hE := Env.refl a19 [84, 85, 86, 12]; refine zm 84 hE k e0 ?_; intro a20 hE e84 kp; refine zm 85 hE k e10 ?_; intro a21 hE e85 kp; replace e84 := kt kp e84; refine sd 86 hE k (Z0r rfl e84 e85 (by omega)) ?_; intro a22 hE e86 kp; refine sd 12 hE k (Z01 rfl e86) ?_; intro a23 hE e12 kp; refine wpList_nil ?_; replace e0 := hE.g e0; replace e1 := hE.g e1; replace e2 := hE.g e2; replace e3 := hE.g e3; replace e10 := hE.g e10; replace k := k.env hE; clear hE e60; refine Z00 (wp_seq ?_); refine wp_seq ?_; refine wp_region_lit ?_
 have hE := Env.refl a23 [87, 88, 89, 90, 91, 92]; refine zm 87 hE k e1 ?_; intro a24 hE e87 kp; refine zm 88 hE k e3 ?_; intro a25 hE e88 kp; replace e87 := kt kp e87; refine sd 89 hE k (Z0j Try.underlying44 rfl e88) ?_; intro a26 hE e89 kp; replace e87 := kt kp e87; refine sd 90 hE k (Z1c (v := .int .i64 ((i + m : Nat) : Int)) (Z11 rfl e87 e89 (by omega)) (Z0s (by omega))) ?_
 intro a27 hE e90 kp; refine zm 91 hE k e2 ?_; intro a28 hE e91 kp; replace e90 := kt kp e90; refine sd 92 hE k (Z05 (x_leq rfl e90 e91) (decide_eq_true (by omega))) ?_
 intro a29 hE e92 kp; refine wpList_nil ?_; replace e0 := hE.g e0; replace e1 := hE.g e1; replace e2 := hE.g e2; replace e3 := hE.g e3; replace e10 := hE.g e10; replace e12 := hE.g e12; replace k := k.env hE; clear hE; refine Z00 ?_; refine Z0h e92 rfl ?_
 refine wp_seq ?_; refine wp_region_lit ?_
 have hE := Env.refl a29 [93, 94, 95, 96, 97]; refine zm 93 hE k e12 ?_; intro a30 hE e93 kp; refine zm 94 hE k e1 ?_; intro a31 hE e94 kp; replace e93 := kt kp e93; refine sd 95 hE k (Z0l rfl e93 e94 (by omega) (by omega) (by omega)) ?_; intro a32 hE e95 kp; refine zm 96 hE k e3 ?_; intro a33 hE e96 kp; replace e95 := kt kp e95; obtain ⟨p2, hp2, hc2⟩ := hsrc _ _ O
 cases hp2
 obtain ⟨w2, hrun, O2⟩ := copyB O (i * 2) (tot - i) (cap - i) m co p e (by rw [he]; exact congrArg (· * 2) (Nat.min_eq_left (by omega) : min m (tot - i) = m).symm) hc2 (by omega) he1
 refine Z13 rfl _ _ _ _ rfl _ _ e95 e96 (hrun _) ?_
 replace O := O2
 clear O2 hrun; refine put_F 97 hE k (by rfl) (by rfl) ?_
 intro a34 hE e97 kp; refine wpList_nil ?_; replace e0 := hE.g e0; replace e1 := hE.g e1; replace e2 := hE.g e2; replace e3 := hE.g e3; replace e10 := hE.g e10; replace e12 := hE.g e12; replace k := k.env hE; clear hE e92 e97; refine Z00 ?_; have hC1 : (splice cur (i * 2) e).length = cap * 2 := by rw [length_splice _ _ _ (by omega), hcur]
 have hd2 : ((splice cur (i * 2) e).drop ((i + 1) * 2)).take d.length = d := by rw [show (i + 1) * 2 = i * 2 + e.length by omega, Z7l (by omega), show i * 2 + e.length = (i + 1) * 2 by omega]; exact hd
 refine wp_seq ?_; refine Z0b (R := Ext) (w0 := w2) [[], [], [], [2], [1, 2, 3], rg 5, [], [], [6, 7], rg 9] [98, 99, 100, 101, 102, 103, 104, 105, 106] Ext.refl (fun _ _ _ => Ext.trans) (Ext.drew _) (by kernel_rfl) ?_
 refine bd 98 k rfl rfl rfl (fun ax wx hE hR hF => Z02 rfl (hE.g e12)) ?_
 refine bd 99 k rfl rfl rfl (fun ax wx hE hR hF => Z02 rfl (hE.g e1)) ?_
 refine bd 100 k rfl rfl rfl (fun ax wx hE hR hF => Z02 rfl (hE.g e3)) ?_
 refine bd 101 k rfl rfl rfl (fun ax wx hE hR hF => have e100 := zhF hF 2 100 ml0; Z0j Try.underlying44 rfl e100) ?_
 refine bd 102 k rfl rfl rfl (fun ax wx hE hR hF => have e99 := zhF hF 1 99 ml2; have e101 := zhF hF 3 101 ml0; Z1c (v := .int .i64 ((i + m : Nat) : Int)) (Z11 rfl e99 e101 (by omega)) (Z0s (by omega))) ?_
 refine bd 103 k rfl rfl rfl (fun ax wx hE hR hF => have e98 := zhF hF 0 98 ml4; have e102 := zhF hF 4 102 ml0; Z0l rfl e98 e102 (by omega) (by omega) (by omega)) ?_
 refine bd 104 k rfl rfl rfl (fun ax wx hE hR hF => Z02 rfl (hE.g e0)) ?_
 refine bd 105 k rfl rfl rfl (fun ax wx hE hR hF => Z02 rfl (hE.g e2)) ?_
 refine bd 106 k rfl rfl rfl (fun ax wx hE hR hF => have e104 := zhF hF 6 104 ml1; have e105 := zhF hF 7 105 ml0; Z0l rfl e104 e105 (by omega) (by omega) (by omega)) ?_
 apply Build.stop
 refine ⟨by kernel_rfl, .inr ⟨by kernel_rfl, _, rfl, rfl, ?_⟩⟩
 intro a35 w36 hE R hF; have e103 : a35.eval (.tmp 103) = _ := hF 5 (det 103 _) ml3
 have e106 : a35.eval (.tmp 106) = _ := hF 8 (det 106 _) ml0
 clear hF; replace O := OwnT.ext O R; obtain ⟨w2_, hrun, O2⟩ := copyB O ((i + m) * 2) (tot - (i + m)) (cap - (i + m)) (n - (i + 1)) (cap - (i + 1)) ⟨g, (i + 1) * 2, none⟩ d (by rw [hdl]; exact congrArg (· * 2) (Nat.min_eq_left (by omega) : min (n - (i + 1)) (tot - (i + m)) = n - (i + 1)).symm) (Z3c (OwnT.b0 O) hd2) (by omega) hd1
 clear R; apply Z3p (w' := w2_) 107 [98, 99, 100, 101, 102, 103, 104, 105, 106, 107] hE k rfl (by rfl) (by rfl) (by rfl)
 case h =>
  exact Z5s rfl e103 e106 (hrun _)
 intro a37 hE e107 kp; replace O := O2
 clear O2 hrun; replace e0 := hE.g e0; replace e10 := hE.g e10; replace e12 := hE.g e12; replace k := k.env hE; clear hE e1 e2 e3 e107; refine Z00 (wp_seq ?_); refine wp_region_lit ?_
 have hE := Env.refl a37 [108, 109, 110]; refine zm 108 hE k e0 ?_; intro a38 hE e108 kp; refine zm 109 hE k e10 ?_; intro a39 hE e109 kp; replace e108 := kt kp e108; refine sd 110 hE k (Z2q rfl e108 e109 (by omega) (by omega)) ?_; intro a40 hE e110 kp; refine Z50 (w' := w2_) rfl rfl (by exact Z6n rfl e110 (by rw [show n - tot = 0 by omega]; exact clearZ _ _ _ _)) ?_
 refine wpList_nil ?_; replace e12 := hE.g e12; replace k := k.env hE; clear hE e0 e10 e110; refine Z00 (wp_seq ?_); refine wp_region_lit ?_
 have hE := Env.refl a40 [111, 8]; refine zm 111 hE k e12 ?_; intro a41 hE e111 kp; refine sd 8 hE k (Z01 rfl e111) ?_; intro a42 hE e8 kp; refine wpList_nil ?_; replace k := k.env hE; clear hE e12; refine Z00 ?_; refine wp_ret ?_
 refine Z0o ?_
 refine Z0v rfl k e8 ?_
 exact ⟨by rw [htot], O⟩
set_option maxRecDepth 100000 in
set_option maxHeartbeats 4000000 in
theorem rep_mid2 {H : Nat} {A0 : World} {R : List Thing} {g n cap i m co : Nat} {cur e d : List Value} {Bo : Option Addr} (w : World) (O : OwnT H A0 (tBlk g 103 cur.toArray :: R) w) (hn : n ≤ cap) (hcap : cap ≤ maxLen) (hn6 : n ≤ 100000) (hcur : cur.length = cap * 2) (he : e.length = m * 2) (he1 : ∀ u ∈ e, u.oneCell' = true) (hsrc : ∀ G W, OwnT H A0 (G ++ R) W → ∃ vb cv, Bo = some ⟨vb, 0, none⟩ ∧ vb ≠ g ∧ (Blk W vb 103 cv ∧ cv.size ≠ 0) ∧ ∀ j u, e[j]? = some u → W.cell? ((⟨vb, 0, none⟩ : Addr).add j) = some u) (hd : (cur.drop ((i + 1) * 2)).take d.length = d) (hdl : d.length = (n - (i + 1)) * 2) (hd1 : ∀ u ∈ d, u.oneCell' = true) (hm : m = 2) (hi : i + 1 < n) (hroom : n < cap) : Calls Try.prog 91 #[.slice (some ⟨g, 0, none⟩) n cap, .int .i64 i, .int .i64 ((i : Int) + 1), .slice Bo m co] w fun e_ w' => e_ = .returned (.slice (some ⟨g, 0, none⟩) (n - 1 + m) cap) ∧ OwnT H A0 (tBlk g 103 (splice (splice cur ((i + m) * 2) d) (i * 2) e).toArray :: R) w' := by
 obtain ⟨vb, cv, rfl, hne, -, -⟩ := hsrc [_] w O
 have hi64 : ((i : Int) + 1) = ((i + 1 : Nat) : Int) := by omega
 refine Z0a Try.func91 rfl 224 rfl (by rfl) ?_
 intro a1 k hargs; have e0 : a1.eval (.tmp 0) = .slice (some ⟨g, 0, none⟩) n cap := hargs 0 _ rfl
 have e1 : a1.eval (.tmp 1) = .int .i64 ↑i := hargs 1 _ rfl
 have e2 : a1.eval (.tmp 2) = .int .i64 (↑i + 1) := hargs 2 _ rfl
 have e3 : a1.eval (.tmp 3) = .slice ((some ⟨vb, 0, none⟩)) m co := hargs 3 _ rfl
 clear hargs; rw [hi64] at e2
 refine wp_seq ?_; refine wp_region_lit ?_
 have hE := Env.refl a1 [8]; refine sd 8 hE k (Z01 rfl rfl) ?_; intro a2 hE e8 kp; refine wpList_nil ?_; replace e0 := hE.g e0; replace e1 := hE.g e1; replace e2 := hE.g e2; replace e3 := hE.g e3; replace k := k.env hE; clear hE e8; refine Z00 (wp_seq ?_); refine wp_region_lit ?_
 have hE := Env.refl a2 [15, 16, 17, 18]; refine zm 15 hE k e0 ?_; intro a3 hE e15 kp; refine zm 16 hE k e1 ?_; intro a4 hE e16 kp; replace e15 := kt kp e15; refine zm 17 hE k e2 ?_; intro a5 hE e17 kp; replace e15 := kt kp e15; replace e16 := kt kp e16; refine sd 18 hE k (Z1j rfl e15 e16 e17 (by omega) (by omega) (by omega)) ?_; intro a6 hE e18 kp; refine wpList_nil ?_; replace e0 := hE.g e0; replace e1 := hE.g e1; replace e2 := hE.g e2; replace e3 := hE.g e3; replace k := k.env hE; clear hE e18; refine Z00 (wp_seq ?_); refine wp_seq ?_; refine wp_region_lit ?_
 have hE := Env.refl a6 [19, 20, 21]; refine zm 19 hE k e1 ?_; intro a7 hE e19 kp; refine zm 20 hE k e2 ?_; intro a8 hE e20 kp; replace e19 := kt kp e19; refine sd 21 hE k (Z05 (Z12 rfl e19 e20) (decide_eq_false (by omega))) ?_
 intro a9 hE e21 kp; refine wpList_nil ?_; replace e0 := hE.g e0; replace e1 := hE.g e1; replace e2 := hE.g e2; replace e3 := hE.g e3; replace k := k.env hE; clear hE; refine Z00 ?_; refine Z06 e21 rfl ?_
 refine wp_skip ?_; refine Z00 (wp_seq ?_); refine wp_seq ?_; refine wp_region_lit ?_
 have hE := Env.refl a9 [26, 27, 28, 29]; refine zm 26 hE k e2 ?_; intro a10 hE e26 kp; refine zm 27 hE k e0 ?_; intro a11 hE e27 kp; replace e26 := kt kp e26; refine sd 28 hE k (Z0j Try.underlying44 rfl e27) ?_; intro a12 hE e28 kp; replace e26 := kt kp e26; refine sd 29 hE k (Z05 (Z12 rfl e26 e28) (decide_eq_false (by omega))) ?_
 intro a13 hE e29 kp; refine wpList_nil ?_; replace e0 := hE.g e0; replace e1 := hE.g e1; replace e2 := hE.g e2; replace e3 := hE.g e3; replace k := k.env hE; clear hE e21; refine Z00 ?_; refine Z06 e29 rfl ?_
 refine wp_skip ?_; refine Z00 ?_; obtain ⟨tot, htot⟩ : ∃ t, n - 1 + m = t := ⟨_, rfl⟩
 refine wp_seq ?_; refine Z0b (R := Ext) (w0 := w) [[], [], [0, 1], [0, 1, 2], [], [4], rg 6, [], [], [7, 8], [7, 8, 9], rg 11, rg 12] [45, 46, 47, 48, 49, 50, 51, 52, 53, 54, 55, 56, 10] Ext.refl (fun _ _ _ => Ext.trans) (Ext.drew _) (by kernel_rfl) ?_
 refine bd 45 k rfl rfl rfl (fun ax wx hE hR hF => Z02 rfl (hE.g e0)) ?_
 refine bd 46 k rfl rfl rfl (fun ax wx hE hR hF => Z02 rfl (hE.g e1)) ?_
 refine bd 47 k rfl rfl rfl (fun ax wx hE hR hF => have e45 := zhF hF 0 45 ml1; have e46 := zhF hF 1 46 ml0; Z0r rfl e45 e46 (by omega)) ?_
 refine bd 48 k rfl rfl rfl (fun ax wx hE hR hF => have e47 := zhF hF 2 47 ml0; Z0j Try.underlying44 rfl e47) ?_
 refine bd 49 k rfl rfl rfl (fun ax wx hE hR hF => Z02 rfl (hE.g e3)) ?_
 refine bd 50 k rfl rfl rfl (fun ax wx hE hR hF => have e49 := zhF hF 4 49 ml0; Z0j Try.underlying44 rfl e49) ?_
 refine bd 51 k rfl rfl rfl (fun ax wx hE hR hF => have e48 := zhF hF 3 48 ml2; have e50 := zhF hF 5 50 ml0; Z1c (v := .int .i64 ((i + m : Nat) : Int)) (Z11 rfl e48 e50 (by omega)) (Z0s (by omega))) ?_
 refine bd 52 k rfl rfl rfl (fun ax wx hE hR hF => Z02 rfl (hE.g e0)) ?_
 refine bd 53 k rfl rfl rfl (fun ax wx hE hR hF => Z02 rfl (hE.g e2)) ?_
 refine bd 54 k rfl rfl rfl (fun ax wx hE hR hF => have e52 := zhF hF 7 52 ml1; have e53 := zhF hF 8 53 ml0; Z0l rfl e52 e53 (by omega) (by omega) (by omega)) ?_
 refine bd 55 k rfl rfl rfl (fun ax wx hE hR hF => have e54 := zhF hF 9 54 ml0; Z0j Try.underlying44 rfl e54) ?_
 refine bd 56 k rfl rfl rfl (fun ax wx hE hR hF => have e51 := zhF hF 6 51 ml4; have e55 := zhF hF 10 55 ml0; Z1c (v := .int .i64 (tot : Int)) (Z11 rfl e51 e55 (by omega)) (Z0s (by omega))) ?_
 refine bd 10 k rfl rfl rfl (fun ax wx hE hR hF => have e56 := zhF hF 11 56 ml0; Z01 rfl e56) ?_
 apply Build.stop
 refine ⟨by kernel_rfl, .inl ⟨rfl, ?_⟩⟩
 intro a14 w15 hE R hF; have e10 : a14.eval (.tmp 10) = _ := hF 12 (det 10 _) ml0
 clear hF; replace O := OwnT.ext O R; clear R; replace e0 := hE.g e0; replace e1 := hE.g e1; replace e2 := hE.g e2; replace e3 := hE.g e3; replace k := k.env hE; clear hE e29; refine Z00 (wp_seq ?_); refine wp_seq ?_; refine wp_region_lit ?_
 have hE := Env.refl a14 [57, 58, 59, 60]; refine zm 57 hE k e10 ?_; intro a16 hE e57 kp; refine zm 58 hE k e0 ?_; intro a17 hE e58 kp; replace e57 := kt kp e57; refine sd 59 hE k (Z7f rfl e58) ?_; intro a18 hE e59 kp; replace e57 := kt kp e57; refine sd 60 hE k (Z05 (Z2b rfl e57 e59) (decide_eq_false (by omega))) ?_
 intro a19 hE e60 kp; refine wpList_nil ?_; replace e0 := hE.g e0; replace e1 := hE.g e1; replace e2 := hE.g e2; replace e3 := hE.g e3; replace e10 := hE.g e10; replace k := k.env hE; clear hE; refine Z00 ?_; refine Z06 e60 rfl ?_
 refine wp_skip ?_; refine Z00 (wp_seq ?_); refine wp_region_lit ?_
 have hE := Env.refl a19 [84, 85, 86, 12]; refine zm 84 hE k e0 ?_; intro a20 hE e84 kp; refine zm 85 hE k e10 ?_; intro a21 hE e85 kp; replace e84 := kt kp e84; refine sd 86 hE k (Z0r rfl e84 e85 (by omega)) ?_; intro a22 hE e86 kp; refine sd 12 hE k (Z01 rfl e86) ?_; intro a23 hE e12 kp; refine wpList_nil ?_; replace e0 := hE.g e0; replace e1 := hE.g e1; replace e2 := hE.g e2; replace e3 := hE.g e3; replace e10 := hE.g e10; replace k := k.env hE; clear hE e60; refine Z00 (wp_seq ?_); refine wp_seq ?_; refine wp_region_lit ?_
 have hE := Env.refl a23 [87, 88, 89, 90, 91, 92]; refine zm 87 hE k e1 ?_; intro a24 hE e87 kp; refine zm 88 hE k e3 ?_; intro a25 hE e88 kp; replace e87 := kt kp e87; refine sd 89 hE k (Z0j Try.underlying44 rfl e88) ?_; intro a26 hE e89 kp; replace e87 := kt kp e87; refine sd 90 hE k (Z1c (v := .int .i64 ((i + m : Nat) : Int)) (Z11 rfl e87 e89 (by omega)) (Z0s (by omega))) ?_
 intro a27 hE e90 kp; refine zm 91 hE k e2 ?_; intro a28 hE e91 kp; replace e90 := kt kp e90; refine sd 92 hE k (Z05 (x_leq rfl e90 e91) (decide_eq_false (by omega))) ?_
 intro a29 hE e92 kp; refine wpList_nil ?_; replace e0 := hE.g e0; replace e1 := hE.g e1; replace e2 := hE.g e2; replace e3 := hE.g e3; replace e10 := hE.g e10; replace e12 := hE.g e12; replace k := k.env hE; clear hE; refine Z00 ?_; refine Z06 e92 rfl ?_
 refine wp_skip ?_; refine Z00 ?_; obtain ⟨vb2, cv2, hb2, -, hblk, -⟩ := hsrc [_] _ O
 cases hb2
 refine wp_seq ?_; refine wp_seq ?_; refine wp_region_lit ?_
 have hE := Env.refl a29 [112, 113, 114, 115, 116, 117, 118, 119, 120]; refine zm 112 hE k e12 ?_; intro a30 hE e112 kp; refine zm 113 hE k e1 ?_; intro a31 hE e113 kp; replace e112 := kt kp e112; refine zm 114 hE k e3 ?_; intro a32 hE e114 kp; replace e112 := kt kp e112; replace e113 := kt kp e113; refine sd 115 hE k (Z0j Try.underlying44 rfl e114) ?_; intro a33 hE e115 kp; replace e112 := kt kp e112; replace e113 := kt kp e113; refine sd 116 hE k (Z1c (v := .int .i64 ((i + m : Nat) : Int)) (Z11 rfl e113 e115 (by omega)) (Z0s (by omega))) ?_
 intro a34 hE e116 kp; replace e112 := kt kp e112; refine sd 117 hE k (Z0l rfl e112 e116 (by omega) (by omega) (by omega)) ?_; intro a35 hE e117 kp; refine zm 118 hE k e3 ?_; intro a36 hE e118 kp; replace e117 := kt kp e117; apply Z1r 119 hE k rfl (by rfl) (by rfl) rfl
 case h =>
  exact x_ext2 rfl rfl e117 e118 (apartB hblk.1 (OwnT.b0 O) hne.symm hblk.2 (by rw [List.size_toArray]; omega) _ _ _ _ _ _)
 intro a37 hE e119 kp; refine sd 120 hE k (Z2a rfl e119) ?_; intro a38 hE e120 kp; refine wpList_nil ?_; replace e0 := hE.g e0; replace e1 := hE.g e1; replace e2 := hE.g e2; replace e3 := hE.g e3; replace e12 := hE.g e12; replace k := k.env hE; clear hE e10 e92; refine Z00 ?_; refine Z0h e120 rfl ?_
 clear hblk; refine wp_seq ?_; refine Z0b (R := Ext) (w0 := w15) [[], [], [], [2], [1, 2, 3], rg 5, [], [], [6, 7], rg 9] [121, 122, 123, 124, 125, 126, 127, 128, 129] Ext.refl (fun _ _ _ => Ext.trans) (Ext.drew _) (by kernel_rfl) ?_
 refine bd 121 k rfl rfl rfl (fun ax wx hE hR hF => Z02 rfl (hE.g e12)) ?_
 refine bd 122 k rfl rfl rfl (fun ax wx hE hR hF => Z02 rfl (hE.g e1)) ?_
 refine bd 123 k rfl rfl rfl (fun ax wx hE hR hF => Z02 rfl (hE.g e3)) ?_
 refine bd 124 k rfl rfl rfl (fun ax wx hE hR hF => have e123 := zhF hF 2 123 ml0; Z0j Try.underlying44 rfl e123) ?_
 refine bd 125 k rfl rfl rfl (fun ax wx hE hR hF => have e122 := zhF hF 1 122 ml2; have e124 := zhF hF 3 124 ml0; Z1c (v := .int .i64 ((i + m : Nat) : Int)) (Z11 rfl e122 e124 (by omega)) (Z0s (by omega))) ?_
 refine bd 126 k rfl rfl rfl (fun ax wx hE hR hF => have e121 := zhF hF 0 121 ml4; have e125 := zhF hF 4 125 ml0; Z0l rfl e121 e125 (by omega) (by omega) (by omega)) ?_
 refine bd 127 k rfl rfl rfl (fun ax wx hE hR hF => Z02 rfl (hE.g e0)) ?_
 refine bd 128 k rfl rfl rfl (fun ax wx hE hR hF => Z02 rfl (hE.g e2)) ?_
 refine bd 129 k rfl rfl rfl (fun ax wx hE hR hF => have e127 := zhF hF 6 127 ml1; have e128 := zhF hF 7 128 ml0; Z0l rfl e127 e128 (by omega) (by omega) (by omega)) ?_
 apply Build.stop
 refine ⟨by kernel_rfl, .inr ⟨by kernel_rfl, _, rfl, rfl, ?_⟩⟩
 intro a39 w40 hE R hF; have e126 : a39.eval (.tmp 126) = _ := hF 5 (det 126 _) ml3
 have e129 : a39.eval (.tmp 129) = _ := hF 8 (det 129 _) ml0
 clear hF; replace O := OwnT.ext O R; obtain ⟨w2_, hrun, O2⟩ := copyB O ((i + m) * 2) (tot - (i + m)) (cap - (i + m)) (n - (i + 1)) (cap - (i + 1)) ⟨g, (i + 1) * 2, none⟩ d (by rw [hdl]; exact congrArg (· * 2) (Nat.min_eq_left (by omega) : min (n - (i + 1)) (tot - (i + m)) = n - (i + 1)).symm) (Z3c (OwnT.b0 O) hd) (by omega) hd1
 clear R; apply Z3p (w' := w2_) 130 [121, 122, 123, 124, 125, 126, 127, 128, 129, 130] hE k rfl (by rfl) (by rfl) (by rfl)
 case h =>
  exact Z5s rfl e126 e129 (hrun _)
 intro a41 hE e130 kp; replace O := O2
 clear O2 hrun; replace e1 := hE.g e1; replace e3 := hE.g e3; replace e12 := hE.g e12; replace k := k.env hE; clear hE e0 e2 e120 e130; refine Z00 ?_; have hC1 : (splice cur ((i + m) * 2) d).length = cap * 2 := by rw [length_splice _ _ _ (by omega), hcur]
 refine wp_seq ?_; refine wp_region_lit ?_
 have hE := Env.refl a41 [131, 132, 133, 134, 135]; refine zm 131 hE k e12 ?_; intro a42 hE e131 kp; refine zm 132 hE k e1 ?_; intro a43 hE e132 kp; replace e131 := kt kp e131; refine sd 133 hE k (Z0l rfl e131 e132 (by omega) (by omega) (by omega)) ?_; intro a44 hE e133 kp; refine zm 134 hE k e3 ?_; intro a45 hE e134 kp; replace e133 := kt kp e133; obtain ⟨vb2, cv2, hb2, -, -, hc2⟩ := hsrc [_] _ O
 cases hb2
 obtain ⟨w3, hrun, O2⟩ := copyB O (i * 2) (tot - i) (cap - i) m co ⟨vb, 0, none⟩ e (by rw [he]; exact congrArg (· * 2) (Nat.min_eq_left (by omega) : min m (tot - i) = m).symm) hc2 (by omega) he1
 refine Z13 rfl _ _ _ _ rfl _ _ e133 e134 (hrun _) ?_
 replace O := O2
 clear O2 hrun; refine put_F 135 hE k (by rfl) (by rfl) ?_
 intro a46 hE e135 kp; refine wpList_nil ?_; replace e12 := hE.g e12; replace k := k.env hE; clear hE e1 e3 e135; refine Z00 (wp_seq ?_); refine wp_region_lit ?_
 have hE := Env.refl a46 [136, 8]; refine zm 136 hE k e12 ?_; intro a47 hE e136 kp; refine sd 8 hE k (Z01 rfl e136) ?_; intro a48 hE e8 kp; refine wpList_nil ?_; replace k := k.env hE; clear hE e12; refine Z00 ?_; refine wp_ret ?_
 refine Z0o ?_
 refine Z0v rfl k e8 ?_
 exact ⟨by rw [htot], O⟩
set_option maxRecDepth 100000 in
set_option maxHeartbeats 4000000 in
theorem rep_grow {H : Nat} {A0 : World} {R : List Thing} {g n cap i m co : Nat} {cur e d : List Value} {Bo : Option Addr} (w : World) (O : OwnT H A0 (tBlk g 103 cur.toArray :: R) w) (hn : n ≤ cap) (hcap : cap ≤ maxLen) (hn6 : n ≤ 100000) (hcur : cur.length = cap * 2) (he : e.length = m * 2) (he1 : ∀ u ∈ e, u.oneCell' = true) (hsrc : ∀ G W, OwnT H A0 (G ++ R) W → ∃ vb cv, Bo = some ⟨vb, 0, none⟩ ∧ vb ≠ g ∧ (Blk W vb 103 cv ∧ cv.size ≠ 0) ∧ ∀ j u, e[j]? = some u → W.cell? ((⟨vb, 0, none⟩ : Addr).add j) = some u) (hd : (cur.drop ((i + 1) * 2)).take d.length = d) (hdl : d.length = (n - (i + 1)) * 2) (hd1 : ∀ u ∈ d, u.oneCell' = true) (hm : m = 2) (hi : i + 1 < n) (hroom : n = cap) : Calls Try.prog 91 #[.slice (some ⟨g, 0, none⟩) n cap, .int .i64 i, .int .i64 ((i : Int) + 1), .slice Bo m co] w fun e_ w' => ∃ g2 cap2, ∃ C : List Value, e_ = .returned (.slice (some ⟨g2, 0, none⟩) (n - 1 + m) cap2) ∧ n - 1 + m ≤ cap2 ∧ cap2 ≤ maxLen ∧ C.length = cap2 * 2 ∧ C.take (i * 2) = cur.take (i * 2) ∧ OwnT H A0 (tBlk g2 103 (splice (splice C (i * 2) e) ((i + m) * 2) d).toArray :: R) w' := by
 obtain ⟨vb, cv, rfl, hne, -, -⟩ := hsrc [_] w O
 have hi64 : ((i : Int) + 1) = ((i + 1 : Nat) : Int) := by omega
 refine Z0a Try.func91 rfl 224 rfl (by rfl) ?_
 intro a1 k hargs; have e0 : a1.eval (.tmp 0) = .slice (some ⟨g, 0, none⟩) n cap := hargs 0 _ rfl
 have e1 : a1.eval (.tmp 1) = .int .i64 ↑i := hargs 1 _ rfl
 have e2 : a1.eval (.tmp 2) = .int .i64 (↑i + 1) := hargs 2 _ rfl
 have e3 : a1.eval (.tmp 3) = .slice ((some ⟨vb, 0, none⟩)) m co := hargs 3 _ rfl
 clear hargs; rw [hi64] at e2
 refine wp_seq ?_; refine wp_region_lit ?_
 have hE := Env.refl a1 [8]; refine sd 8 hE k (Z01 rfl rfl) ?_; intro a2 hE e8 kp; refine wpList_nil ?_; replace e0 := hE.g e0; replace e1 := hE.g e1; replace e2 := hE.g e2; replace e3 := hE.g e3; replace k := k.env hE; clear hE e8; refine Z00 (wp_seq ?_); refine wp_region_lit ?_
 have hE := Env.refl a2 [15, 16, 17, 18]; refine zm 15 hE k e0 ?_; intro a3 hE e15 kp; refine zm 16 hE k e1 ?_; intro a4 hE e16 kp; replace e15 := kt kp e15; refine zm 17 hE k e2 ?_; intro a5 hE e17 kp; replace e15 := kt kp e15; replace e16 := kt kp e16; refine sd 18 hE k (Z1j rfl e15 e16 e17 (by omega) (by omega) (by omega)) ?_; intro a6 hE e18 kp; refine wpList_nil ?_; replace e0 := hE.g e0; replace e1 := hE.g e1; replace e2 := hE.g e2; replace e3 := hE.g e3; replace k := k.env hE; clear hE e18; refine Z00 (wp_seq ?_); refine wp_seq ?_; refine wp_region_lit ?_
 have hE := Env.refl a6 [19, 20, 21]; refine zm 19 hE k e1 ?_; intro a7 hE e19 kp; refine zm 20 hE k e2 ?_; intro a8 hE e20 kp; replace e19 := kt kp e19; refine sd 21 hE k (Z05 (Z12 rfl e19 e20) (decide_eq_false (by omega))) ?_
 intro a9 hE e21 kp; refine wpList_nil ?_; replace e0 := hE.g e0; replace e1 := hE.g e1; replace e2 := hE.g e2; replace e3 := hE.g e3; replace k := k.env hE; clear hE; refine Z00 ?_; refine Z06 e21 rfl ?_
 refine wp_skip ?_; refine Z00 (wp_seq ?_); refine wp_seq ?_; refine wp_region_lit ?_
 have hE := Env.refl a9 [26, 27, 28, 29]; refine zm 26 hE k e2 ?_; intro a10 hE e26 kp; refine zm 27 hE k e0 ?_; intro a11 hE e27 kp; replace e26 := kt kp e26; refine sd 28 hE k (Z0j Try.underlying44 rfl e27) ?_; intro a12 hE e28 kp; replace e26 := kt kp e26; refine sd 29 hE k (Z05 (Z12 rfl e26 e28) (decide_eq_false (by omega))) ?_
 intro a13 hE e29 kp; refine wpList_nil ?_; replace e0 := hE.g e0; replace e1 := hE.g e1; replace e2 := hE.g e2; replace e3 := hE.g e3; replace k := k.env hE; clear hE e21; refine Z00 ?_; refine Z06 e29 rfl ?_
 refine wp_skip ?_; refine Z00 ?_; obtain ⟨tot, htot⟩ : ∃ t, n - 1 + m = t := ⟨_, rfl⟩
 refine wp_seq ?_; refine Z0b (R := Ext) (w0 := w) [[], [], [0, 1], [0, 1, 2], [], [4], rg 6, [], [], [7, 8], [7, 8, 9], rg 11, rg 12] [45, 46, 47, 48, 49, 50, 51, 52, 53, 54, 55, 56, 10] Ext.refl (fun _ _ _ => Ext.trans) (Ext.drew _) (by kernel_rfl) ?_
 refine bd 45 k rfl rfl rfl (fun ax wx hE hR hF => Z02 rfl (hE.g e0)) ?_
 refine bd 46 k rfl rfl rfl (fun ax wx hE hR hF => Z02 rfl (hE.g e1)) ?_
 refine bd 47 k rfl rfl rfl (fun ax wx hE hR hF => have e45 := zhF hF 0 45 ml1; have e46 := zhF hF 1 46 ml0; Z0r rfl e45 e46 (by omega)) ?_
 refine bd 48 k rfl rfl rfl (fun ax wx hE hR hF => have e47 := zhF hF 2 47 ml0; Z0j Try.underlying44 rfl e47) ?_
 refine bd 49 k rfl rfl rfl (fun ax wx hE hR hF => Z02 rfl (hE.g e3)) ?_
 refine bd 50 k rfl rfl rfl (fun ax wx hE hR hF => have e49 := zhF hF 4 49 ml0; Z0j Try.underlying44 rfl e49) ?_
 refine bd 51 k rfl rfl rfl (fun ax wx hE hR hF => have e48 := zhF hF 3 48 ml2; have e50 := zhF hF 5 50 ml0; Z1c (v := .int .i64 ((i + m : Nat) : Int)) (Z11 rfl e48 e50 (by omega)) (Z0s (by omega))) ?_
 refine bd 52 k rfl rfl rfl (fun ax wx hE hR hF => Z02 rfl (hE.g e0)) ?_
 refine bd 53 k rfl rfl rfl (fun ax wx hE hR hF => Z02 rfl (hE.g e2)) ?_
 refine bd 54 k rfl rfl rfl (fun ax wx hE hR hF => have e52 := zhF hF 7 52 ml1; have e53 := zhF hF 8 53 ml0; Z0l rfl e52 e53 (by omega) (by omega) (by omega)) ?_
 refine bd 55 k rfl rfl rfl (fun ax wx hE hR hF => have e54 := zhF hF 9 54 ml0; Z0j Try.underlying44 rfl e54) ?_
 refine bd 56 k rfl rfl rfl (fun ax wx hE hR hF => have e51 := zhF hF 6 51 ml4; have e55 := zhF hF 10 55 ml0; Z1c (v := .int .i64 (tot : Int)) (Z11 rfl e51 e55 (by omega)) (Z0s (by omega))) ?_
 refine bd 10 k rfl rfl rfl (fun ax wx hE hR hF => have e56 := zhF hF 11 56 ml0; Z01 rfl e56) ?_
 apply Build.stop
 refine ⟨by kernel_rfl, .inl ⟨rfl, ?_⟩⟩
 intro a14 w15 hE R hF; have e10 : a14.eval (.tmp 10) = _ := hF 12 (det 10 _) ml0
 clear hF; replace O := OwnT.ext O R; clear R; replace e0 := hE.g e0; replace e1 := hE.g e1; replace e2 := hE.g e2; replace e3 := hE.g e3; replace k := k.env hE; clear hE e29; refine Z00 (wp_seq ?_); refine wp_seq ?_; refine wp_region_lit ?_
 have hE := Env.refl a14 [57, 58, 59, 60]; refine zm 57 hE k e10 ?_; intro a16 hE e57 kp; refine zm 58 hE k e0 ?_; intro a17 hE e58 kp; replace e57 := kt kp e57; refine sd 59 hE k (Z7f rfl e58) ?_; intro a18 hE e59 kp; replace e57 := kt kp e57; refine sd 60 hE k (Z05 (Z2b rfl e57 e59) (decide_eq_true (by omega))) ?_
 intro a19 hE e60 kp; refine wpList_nil ?_; replace e0 := hE.g e0; replace e1 := hE.g e1; replace e2 := hE.g e2; replace e3 := hE.g e3; replace e10 := hE.g e10; replace k := k.env hE; clear hE; refine Z00 ?_; refine Z0h e60 rfl ?_
 refine wp_seq ?_; refine wp_region_lit ?_
 have hE := Env.refl a19 [61, 62, 63, 64, 65, 66, 67, 11]; refine zm 61 hE k e0 ?_; intro a20 hE e61 kp; refine zm 62 hE k e1 ?_; intro a21 hE e62 kp; replace e61 := kt kp e61; refine sd 63 hE k (Z0r rfl e61 e62 (by omega)) ?_; intro a22 hE e63 kp; refine zm 64 hE k e10 ?_; intro a23 hE e64 kp; replace e63 := kt kp e63; refine zm 65 hE k e1 ?_; intro a24 hE e65 kp; replace e63 := kt kp e63; replace e64 := kt kp e64; refine sd 66 hE k (Z1c (v := .int .i64 ((tot - i : Nat) : Int)) (Z5q rfl e64 e65 (by omega)) (Z0s (by omega))) ?_
 intro a25 hE e66 kp; replace e63 := kt kp e63; obtain ⟨g2, cap2, w2, C, hrun, hc1, hc2, hC, hCt, O2⟩ := growB (i := i) O hcur (by omega) (tot - i) (by omega) (by omega)
 rw [show i + (tot - i) = tot by omega] at hrun hc1
 refine Z0m rfl _ _ _ _ rfl _ _ e63 e66 (hrun _) ?_
 replace O := O2
 clear O2 hrun; refine put_F 67 hE k (by rfl) (by rfl) ?_
 intro a26 hE e67 kp; refine sd 11 hE k (Z01 rfl e67) ?_; intro a27 hE e11 kp; refine wpList_nil ?_; replace e0 := hE.g e0; replace e1 := hE.g e1; replace e2 := hE.g e2; replace e3 := hE.g e3; replace k := k.env hE; clear hE e10 e60; refine Z00 (wp_seq ?_); refine wp_region_lit ?_
 have hE := Env.refl a27 [68, 69, 70, 71, 72]; refine zm 68 hE k e11 ?_; intro a28 hE e68 kp; refine zm 69 hE k e1 ?_; intro a29 hE e69 kp; replace e68 := kt kp e68; refine sd 70 hE k (Z0l rfl e68 e69 (by omega) (by omega) (by omega)) ?_; intro a30 hE e70 kp; refine zm 71 hE k e3 ?_; intro a31 hE e71 kp; replace e70 := kt kp e70; obtain ⟨vb2, cv2, hb2, -, -, hc3⟩ := hsrc [_, _] _ O
 cases hb2
 obtain ⟨w3, hrun, O2⟩ := copyB O (i * 2) (tot - i) (cap2 - i) m co ⟨vb, 0, none⟩ e (by rw [he]; exact congrArg (· * 2) (Nat.min_eq_left (by omega) : min m (tot - i) = m).symm) hc3 (by omega) he1
 refine Z13 rfl _ _ _ _ rfl _ _ e70 e71 (hrun _) ?_
 replace O := O2
 clear O2 hrun; refine put_F 72 hE k (by rfl) (by rfl) ?_
 intro a32 hE e72 kp; refine wpList_nil ?_; replace e0 := hE.g e0; replace e1 := hE.g e1; replace e2 := hE.g e2; replace e3 := hE.g e3; replace e11 := hE.g e11; replace k := k.env hE; clear hE e72; refine Z00 ?_; have hC1 : (splice C (i * 2) e).length = cap2 * 2 := by rw [length_splice _ _ _ (by omega), hC]
 refine wp_seq ?_; refine Z0b (R := Ext) (w0 := w3) [[], [], [], [2], [1, 2, 3], rg 5, [], [], [6, 7], rg 9] [73, 74, 75, 76, 77, 78, 79, 80, 81] Ext.refl (fun _ _ _ => Ext.trans) (Ext.drew _) (by kernel_rfl) ?_
 refine bd 73 k rfl rfl rfl (fun ax wx hE hR hF => Z02 rfl (hE.g e11)) ?_
 refine bd 74 k rfl rfl rfl (fun ax wx hE hR hF => Z02 rfl (hE.g e1)) ?_
 refine bd 75 k rfl rfl rfl (fun ax wx hE hR hF => Z02 rfl (hE.g e3)) ?_
 refine bd 76 k rfl rfl rfl (fun ax wx hE hR hF => have e75 := zhF hF 2 75 ml0; Z0j Try.underlying44 rfl e75) ?_
 refine bd 77 k rfl rfl rfl (fun ax wx hE hR hF => have e74 := zhF hF 1 74 ml2; have e76 := zhF hF 3 76 ml0; Z1c (v := .int .i64 ((i + m : Nat) : Int)) (Z11 rfl e74 e76 (by omega)) (Z0s (by omega))) ?_
 refine bd 78 k rfl rfl rfl (fun ax wx hE hR hF => have e73 := zhF hF 0 73 ml4; have e77 := zhF hF 4 77 ml0; Z0l rfl e73 e77 (by omega) (by omega) (by omega)) ?_
 refine bd 79 k rfl rfl rfl (fun ax wx hE hR hF => Z02 rfl (hE.g e0)) ?_
 refine bd 80 k rfl rfl rfl (fun ax wx hE hR hF => Z02 rfl (hE.g e2)) ?_
 refine bd 81 k rfl rfl rfl (fun ax wx hE hR hF => have e79 := zhF hF 6 79 ml1; have e80 := zhF hF 7 80 ml0; Z0l rfl e79 e80 (by omega) (by omega) (by omega)) ?_
 apply Build.stop
 refine ⟨by kernel_rfl, .inr ⟨by kernel_rfl, _, rfl, rfl, ?_⟩⟩
 intro a33 w34 hE R hF; have e78 : a33.eval (.tmp 78) = _ := hF 5 (det 78 _) ml3
 have e81 : a33.eval (.tmp 81) = _ := hF 8 (det 81 _) ml0
 clear hF; replace O := OwnT.ext O R; obtain ⟨w4_, hrun, O2⟩ := copyB O ((i + m) * 2) (tot - (i + m)) (cap2 - (i + m)) (n - (i + 1)) (cap - (i + 1)) ⟨g, (i + 1) * 2, none⟩ d (by rw [hdl]; exact congrArg (· * 2) (Nat.min_eq_left (by omega) : min (n - (i + 1)) (tot - (i + m)) = n - (i + 1)).symm) (Z3c (OwnT.b1 O) hd) (by omega) hd1
 clear R; apply Z3p (w' := w4_) 82 [73, 74, 75, 76, 77, 78, 79, 80, 81, 82] hE k rfl (by rfl) (by rfl) (by rfl)
 case h =>
  exact Z5s rfl e78 e81 (hrun _)
 intro a35 hE e82 kp; replace O := O2
 clear O2 hrun; replace e11 := hE.g e11; replace k := k.env hE; clear hE e0 e1 e2 e3 e82; refine Z00 (wp_seq ?_); refine wp_region_lit ?_
 have hE := Env.refl a35 [83, 8]; refine zm 83 hE k e11 ?_; intro a36 hE e83 kp; refine sd 8 hE k (Z01 rfl e83) ?_; intro a37 hE e8 kp; refine wpList_nil ?_; replace k := k.env hE; clear hE e11; refine Z00 ?_; refine wp_ret ?_
 refine Z0o ?_
 refine Z0v rfl k e8 ?_
 exact ⟨g2, cap2, C, by rw [htot], by rw [htot]; exact hc1, hc2, hC, hCt, O.pick01⟩
end Go.Proofs.Ytbfgacmfjfbooaa
