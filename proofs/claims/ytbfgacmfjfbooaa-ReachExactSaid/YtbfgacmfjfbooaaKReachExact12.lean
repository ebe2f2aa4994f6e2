/- trees: slices.Contains of ints, not found; rightly (printed by XTrN.gen.py). -/
import Derived.Test.YtbfgacmfjfbooaaKReachExact11
namespace Go.Proofs.Ytbfgacmfjfbooaa
attribute [local simp] BigFrame.eval_const BigFrame.eval_global BigFrame.eval_func
set_option linter.unusedVariables false
set_option linter.unusedSimpArgs false
open Go.RowKit Go.Maps

def encN (x : Nat) : List Value := [.int .i64 (x : Int)]
theorem rowN_at {W0 w : World} {B : Option Addr} {ys : List Nat} {z y : Nat} (h : Row W0 B 1 encN ys) (hb : Below W0.heap.size W0 w) (hy : ys[z]? = some y) : ∃ b o, B = some ⟨b, o, none⟩ ∧ w.cell? ⟨b, o + z, none⟩ = some (.int .i64 (y : Int)) := by
 obtain ⟨b, o, e, _, hc⟩ := (h.below hb) z y hy
 have := hc 0 _ rfl
 exact ⟨b, o, e, by simpa using this⟩

set_option maxRecDepth 100000 in
set_option maxHeartbeats 4000000 in
theorem index_no {B : Option Addr} {cap n : Nat} (x : Int) (ys : List Nat) (W0 : World) (hl : ys.length = n) (hrow : Row W0 B 1 encN ys) (hn : n ≤ 1000000) (hx : ∀ y ∈ ys, (y : Int) ≠ x) : Calls Try.prog 129 #[.slice B n cap, .int .i64 x] W0 fun e w' => e = .returned (.int .i64 (-1)) ∧ Ext W0 w' := by
 have O := OwnT.start W0
 refine Z0a Try.func129 rfl 19 rfl (by rfl) ?_
 intro a1 k hargs; have e0 : a1.eval (.tmp 0) = .slice B n cap := hargs 0 _ rfl
 have e1 : a1.eval (.tmp 1) = .int .i64 x := hargs 1 _ rfl
 clear hargs; refine wp_seq ?_; refine wp_region_lit ?_
 have hE := Env.refl a1 [4]; refine sd 4 hE k (Z01 rfl rfl) ?_; intro a2 hE e4 kp; refine wpList_nil ?_; replace e0 := hE.g e0; replace e1 := hE.g e1; replace k := k.env hE; clear hE e4; refine Z00 (wp_seq ?_); refine wp_seq ?_; refine wp_region_lit ?_
 have hE := Env.refl a2 [6, 7, 8]; refine zm 6 hE k e0 ?_; intro a3 hE e6 kp; refine sd 7 hE k (Z0j Try.underlying43 rfl e6) ?_; intro a4 hE e7 kp; refine sd 8 hE k (Z02 rfl rfl) ?_; intro a5 hE e8 kp; replace e7 := kt kp e7; refine wpList_nil ?_; replace e0 := hE.g e0; replace e1 := hE.g e1; replace k := k.env hE; clear hE; refine Z00 ?_; refine wp_block ?_; refine wp_loop (fun a w => Fr 19 a ∧ a.eval (.tmp 0) = .slice B n cap ∧ a.eval (.tmp 1) = .int .i64 x ∧ a.eval (.tmp 7) = .int .i64 ↑n ∧ ∃ z : Nat, a.eval (.tmp 8) = .int .i64 ↑z ∧ z ≤ n ∧ OwnT W0.heap.size W0 [] w) (fun a w => n - (intOf (a.eval (.tmp 8))).toNat) ?_ ?_
 · exact ⟨k, e0, e1, e7, 0, e8, Nat.zero_le _, O⟩
 intro a6 w7 hI; clear k e0 e1 e7; obtain ⟨k, e0, e1, e7, h_⟩ := hI
 clear O e8; obtain ⟨z, e8, hz, O⟩ := h_
 have mz := e8
 by_cases hlt : z < n
 · skip
   have hzI : (z : Int) < (n : Int) := by omega
   obtain ⟨y, hy⟩ : ∃ y, ys[z]? = some y := ⟨_, List.getElem?_eq_getElem (by omega)⟩
   obtain ⟨b, o, rfl, cz⟩ := rowN_at hrow O.below hy
   have hne := hx y (List.mem_of_getElem? hy)
   refine wp_seq ?_; refine wp_region_lit ?_
   have hE := Env.refl a6 [9]; refine sd 9 hE k (Z05 (Z1d rfl (hE.g e8) (hE.g e7)) (decide_eq_true (by omega))) ?_
   intro a8 hE e9 kp; refine wpList_nil ?_; replace e0 := hE.g e0; replace e1 := hE.g e1; replace e7 := hE.g e7; replace e8 := hE.g e8; replace k := k.env hE; clear hE; refine Z00 (wp_seq ?_); refine Z0h e9 rfl ?_
   refine wp_skip ?_; refine Z00 (wp_seq ?_); refine wp_block ?_; refine wp_seq ?_; refine wp_region_lit ?_
   have hE := Env.refl a8 [10, 5]; refine zm 10 hE k e8 ?_; intro a9 hE e10 kp; refine sd 5 hE k (Z01 rfl e10) ?_; intro a10 hE e5 kp; refine wpList_nil ?_; replace e0 := hE.g e0; replace e1 := hE.g e1; replace e7 := hE.g e7; replace e8 := hE.g e8; replace k := k.env hE; clear hE e9; refine Z00 (wp_seq ?_); refine wp_region_lit ?_
   have hE := Env.refl a10 [11, 12, 13, 14, 15, 16]; refine zm 11 hE k e1 ?_; intro a11 hE e11 kp; refine zm 12 hE k e0 ?_; intro a12 hE e12 kp; replace e11 := kt kp e11; refine zm 13 hE k e5 ?_; intro a13 hE e13 kp; replace e11 := kt kp e11; replace e12 := kt kp e12; apply Z03 14 hE k rfl rfl rfl rfl; case h =>
    simp [go_sem, ↓IntWalk.iteOmega, ev e12, ev e13]
    with_reducible rfl
   intro a14 hE e14 kp; replace e11 := kt kp e11; apply Z03 15 hE k rfl rfl rfl rfl; case h =>
    simp [go_sem, ↓IntWalk.iteOmega, ev e14, cz]
    with_reducible rfl
   intro a15 hE e15 kp; replace e11 := kt kp e11; refine sd 16 hE k (Z05 (Z12 rfl e11 e15) (decide_eq_false (fun h => hne h.symm))) ?_
   intro a16 hE e16 kp; refine wpList_nil ?_; replace e0 := hE.g e0; replace e1 := hE.g e1; replace e5 := hE.g e5; replace e7 := hE.g e7; replace e8 := hE.g e8; replace k := k.env hE; clear hE; refine Z00 ?_; refine Z06 e16 rfl ?_
   refine wp_skip ?_; refine Z0u ?_; refine Z00 ?_; refine wp_region_lit ?_
   have hE := Env.refl a16 [18, 8]; refine sd 18 hE k (Z11 rfl e8 rfl (by omega)) ?_; intro a17 hE e18 kp; replace e8 := kt kp e8; refine sd 8 hE k (Z02 rfl e18) ?_; intro a18 hE e8 kp; refine wpList_nil ?_; replace e0 := hE.g e0; replace e1 := hE.g e1; replace e7 := hE.g e7; replace k := k.env hE; clear hE e5 e16; refine Z00 ?_; refine ⟨⟨k, e0, e1, e7, z + 1, e8, by omega, O⟩, ?_⟩
   rw [e8, mz]; simp only [intOf]; omega
 · skip
   refine wp_seq ?_; refine wp_region_lit ?_
   have hE := Env.refl a6 [9]; refine sd 9 hE k (Z05 (Z1d rfl (hE.g e8) (hE.g e7)) (decide_eq_false (by omega))) ?_
   intro a19 hE e9 kp; refine wpList_nil ?_; replace e0 := hE.g e0; replace e1 := hE.g e1; replace e7 := hE.g e7; replace e8 := hE.g e8; replace k := k.env hE; clear hE; refine Z00 (wp_seq ?_); refine Z06 e9 rfl ?_
   refine wp_exit ?_
   refine Z1g ?_
   refine Z1g ?_
   refine Z1q ?_
   refine Z00 (wp_seq ?_); refine wp_region_lit ?_
   have hE := Env.refl a19 [4]; refine sd 4 hE k (Z01 rfl rfl) ?_; intro a20 hE e4 kp; refine wpList_nil ?_; replace k := k.env hE; clear hE e0 e1 e7 e8 e9; refine Z00 ?_; refine wp_ret ?_
   refine Z0v rfl k e4 ?_
   exact ⟨rfl, O.below⟩
theorem Z46 {B : Option Addr} {cap n : Nat} (x : Int) (ys : List Nat) (W0 : World) (hl : ys.length = n) (hrow : Row W0 B 1 encN ys) (hn : n ≤ 1000000) (hx : ∀ y ∈ ys, (y : Int) ≠ x) : Calls Try.prog 116 #[.slice B n cap, .int .i64 x] W0 fun e w' => e = .returned (.bool false) ∧ Ext W0 w' := by
 have O := OwnT.start W0
 refine Z0a Try.func116 rfl 9 rfl (by rfl) ?_
 intro a1 k hargs; have e0 : a1.eval (.tmp 0) = .slice B n cap := hargs 0 _ rfl
 have e1 : a1.eval (.tmp 1) = .int .i64 x := hargs 1 _ rfl
 clear hargs; refine wp_seq ?_; refine wp_region_lit ?_
 have hE := Env.refl a1 [4]; refine sd 4 hE k (Z01 rfl rfl) ?_; intro a2 hE e4 kp; refine wpList_nil ?_; replace e0 := hE.g e0; replace e1 := hE.g e1; replace k := k.env hE; clear hE e4; refine Z00 (wp_seq ?_); refine wp_region_lit ?_
 have hE := Env.refl a2 [5, 6, 7, 8, 4]; refine zm 5 hE k e0 ?_; intro a3 hE e5 kp; refine zm 6 hE k e1 ?_; intro a4 hE e6 kp; replace e5 := kt kp e5; apply Z09 7 hE k rfl (by rfl) (by rfl) rfl
 case h =>
  simp [go_sem, ↓IntWalk.iteOmega, ev e5, ev e6]
  with_reducible exact ⟨rfl, rfl⟩
 case hc => exact index_no x ys _ hl hrow hn hx
 rintro e w6 ⟨rfl, R⟩
 replace O := OwnT.ext O R; refine ⟨_, rfl, ?_⟩
 intro a5 hE e7 kp; refine sd 8 hE k (Z6m rfl e7 rfl) ?_; intro a7 hE e8 kp; refine sd 4 hE k (Z01 rfl e8) ?_; intro a8 hE e4 kp; refine wpList_nil ?_; replace k := k.env hE; clear hE e0 e1; refine Z00 ?_; refine wp_ret ?_
 refine Z0v rfl k e4 ?_
 exact ⟨rfl, O.below⟩
theorem Z31 {W0 w : World} {b o : Nat} {xs : List Pr} (h : Row W0 (some ⟨b, o, none⟩) 2 pairC xs) (hb : Below W0.heap.size W0 w) {z : Nat} (hz : z < xs.length) : w.cell? ⟨b, o + z * 2, none⟩ = some (.int .u64 (keyAt xs z : Nat)) := Row.key_at h hb hz

set_option maxRecDepth 100000 in
set_option maxHeartbeats 4000000 in
theorem rightly_nn {gv o cap f0 h0 l : Nat} {xs : List Pr} (W0 : World) (hrow : Row W0 (some ⟨gv, o, none⟩) 2 pairC xs) (hne : 0 < xs.length) (h15 : xs.length ≤ 15) (h2 : 0 < l → 2 ≤ xs.length) : Calls Try.prog 117 #[.agg #[.int .u64 0, .bool false, .int .u64 0, .bool false], .agg #[.int .i64 l, .slice (some ⟨gv, o, none⟩) xs.length cap]] W0 fun e w' => e = .returned (.bool true) ∧ Ext W0 w' := by
 have O := OwnT.start W0
 have hnI : (0 : Int) < (xs.length : Int) := by omega
 have hn1I : ((xs.length - 1 : Nat) : Int) < (xs.length : Int) := by omega
 refine Z0a Try.func117 rfl 50 rfl (by rfl) ?_
 intro a1 k hargs; have e0 : a1.eval (.tmp 0) = .agg #[.int .u64 0, .bool false, .int .u64 0, .bool false] := hargs 0 _ rfl
 have e1 : a1.eval (.tmp 1) = .agg #[.int .i64 ↑l, .slice (some ⟨gv, o, none⟩) xs.length cap] := hargs 1 _ rfl
 clear hargs; refine wp_seq ?_; refine wp_region_lit ?_
 have hE := Env.refl a1 [2, 3, 4]; refine Z0k O (cs := #[.int .u64 0, .bool false, .int .u64 0, .bool false]) (t := 179) 2 hE k rfl (by rfl) (by rfl) rfl (by simp [go_sem, ↓IntWalk.iteOmega, ev (hE.g e0)]) ?_
 clear O; intro bb a2 w3 O hE e2 kp; refine Z0k O (cs := #[.int .i64 ↑l, .slice (some ⟨gv, o, none⟩) xs.length cap]) (t := 46) 3 hE k rfl (by rfl) (by rfl) rfl (by simp [go_sem, ↓IntWalk.iteOmega, ev (hE.g e1)]) ?_
 clear O; intro lb a4 w5 O hE e3 kp; replace e2 := kt kp e2; refine sd 4 hE k (Z01 rfl rfl) ?_; intro a6 hE e4 kp; replace e2 := kt kp e2; replace e3 := kt kp e3; refine wpList_nil ?_; replace k := k.env hE; clear hE e0 e1 e4; refine Z00 ?_; by_cases hl0 : 0 < l
 · have h3 := h2 hl0
   refine wp_seq ?_; refine wp_seq ?_; refine Z0b (R := Ext) (w0 := w5) [[], [0], [0, 1], [0, 1, 2], rg 4, rg 5, rg 6, rg 7, [0, 1, 2], [0, 1, 2, 8], rg 10, rg 11, rg 12, rg 13, rg 14, rg 15, rg 16, rg 17, rg 18, rg 19, rg 20, rg 21, rg 22, rg 23, rg 24, rg 25, rg 26, rg 27] [5, 6, 7, 8, 9, 10, 11, 12, 13, 14, 15, 16, 17, 18, 19, 20, 21, 22, 23, 24, 25, 26, 27, 28, 29, 30, 31, 32] Ext.refl (fun _ _ _ => Ext.trans) (Ext.drew _) (by kernel_rfl) ?_
   apply bd 5 k rfl rfl rfl; case h =>
    intro ax wx hE hR hF; simp [go_sem, ↓IntWalk.iteOmega, ev (hE.g e2)]
    with_reducible rfl
   refine bd 6 k rfl rfl rfl (fun ax wx hE hR hF => have e5 := zhF hF 0 5 ml0; Z08 (OwnT.ext O hR) 1 rfl rfl e5 rfl Try.underlying4 rfl) ?_
   refine bd 7 k rfl rfl rfl (fun ax wx hE hR hF => have e6 := zhF hF 1 6 ml0; Z02 rfl e6) ?_
   refine bsk 8 k rfl rfl rfl rfl (fun hF => zhF hF 2 7 ml0) ?_
   refine bsk 9 k rfl rfl rfl rfl (fun hF => zhF hF 2 7 ml1) ?_
   refine bsk 10 k rfl rfl rfl rfl (fun hF => zhF hF 2 7 ml2) ?_
   refine bsk 11 k rfl rfl rfl rfl (fun hF => zhF hF 2 7 ml3) ?_
   refine bsk 12 k rfl rfl rfl rfl (fun hF => zhF hF 2 7 ml4) ?_
   refine bsk 13 k rfl rfl rfl rfl (fun hF => zhF hF 2 7 ml5) ?_
   refine bsk 14 k rfl rfl rfl rfl (fun hF => zhF hF 2 7 ml6) ?_
   refine bsk 15 k rfl rfl rfl rfl (fun hF => zhF hF 2 7 ml7) ?_
   refine bd 16 k rfl rfl rfl (fun ax wx hE hR hF => have e7 := zhF hF 2 7 ml8; have e15 := zhF hF 10 15 ml0; Z07 rfl e7 rfl) ?_
   refine bd 17 k rfl rfl rfl (fun ax wx hE hR hF => have e16 := zhF hF 11 16 ml0; Z02 rfl e16) ?_
   apply bdg 18 k rfl rfl rfl rfl; case h =>
    intro ax wx hE hR hF; have e17 := zhF hF 12 17 ml0; refine ⟨e17, ?_⟩; simp [go_sem, ↓IntWalk.iteOmega, ev (hE.g e2)]
    with_reducible rfl
   refine bdg 19 k rfl rfl rfl rfl (fun ax wx hE hR hF => have e18 := zhF hF 13 18 ml0; have e17 := zhF hF 12 17 ml1; ⟨e17, Z08 (OwnT.ext O hR) 1 rfl rfl e18 rfl Try.underlying4 rfl⟩) ?_
   refine bdg 20 k rfl rfl rfl rfl (fun ax wx hE hR hF => have e19 := zhF hF 14 19 ml0; have e17 := zhF hF 12 17 ml2; ⟨e17, Z2a rfl e19⟩) ?_
   refine bdg 21 k rfl rfl rfl rfl (fun ax wx hE hR hF => have e20 := zhF hF 15 20 ml0; have e17 := zhF hF 12 17 ml3; ⟨e17, Z02 rfl e20⟩) ?_
   apply bdg 22 k rfl rfl rfl rfl; case h =>
    intro ax wx hE hR hF; have e21 := zhF hF 16 21 ml0; refine ⟨e21, ?_⟩; simp [go_sem, ↓IntWalk.iteOmega, ev (hE.g e3)]
    with_reducible rfl
   refine bdg 23 k rfl rfl rfl rfl (fun ax wx hE hR hF => have e22 := zhF hF 17 22 ml0; have e21 := zhF hF 16 21 ml1; ⟨e21, Z08 (OwnT.ext O hR) 0 rfl rfl e22 rfl Try.underlying3 rfl⟩) ?_
   refine bdg 24 k rfl rfl rfl rfl (fun ax wx hE hR hF => have e23 := zhF hF 18 23 ml0; have e21 := zhF hF 16 21 ml2; ⟨e21, Z05 (Z2b rfl e23 rfl) (decide_eq_true (by omega))⟩) ?_
   refine bdg 25 k rfl rfl rfl rfl (fun ax wx hE hR hF => have e21 := zhF hF 16 21 ml3; have e24 := zhF hF 19 24 ml0; have e17 := zhF hF 12 17 ml7; ⟨e17, Z0n rfl e21 e24⟩) ?_
   refine bdg 26 k rfl rfl rfl rfl (fun ax wx hE hR hF => have e25 := zhF hF 20 25 ml0; have e17 := zhF hF 12 17 ml8; ⟨e17, Z02 rfl e25⟩) ?_
   apply bdg 27 k rfl rfl rfl rfl; case h =>
    intro ax wx hE hR hF; have e26 := zhF hF 21 26 ml0; refine ⟨e26, ?_⟩; simp [go_sem, ↓IntWalk.iteOmega, ev (hE.g e3)]
    with_reducible rfl
   refine bdg 28 k rfl rfl rfl rfl (fun ax wx hE hR hF => have e27 := zhF hF 22 27 ml0; have e26 := zhF hF 21 26 ml1; ⟨e26, Z08 (OwnT.ext O hR) 0 rfl rfl e27 rfl Try.underlying44 rfl⟩) ?_
   refine bdg 29 k rfl rfl rfl rfl (fun ax wx hE hR hF => have e28 := zhF hF 23 28 ml0; have e26 := zhF hF 21 26 ml2; ⟨e26, Z0j Try.underlying44 rfl e28⟩) ?_
   refine bdg 30 k rfl rfl rfl rfl (fun ax wx hE hR hF => have e29 := zhF hF 24 29 ml0; have e26 := zhF hF 21 26 ml3; ⟨e26, Z05 (Z1d rfl e29 rfl) (decide_eq_false (by omega))⟩) ?_
   refine bdg 31 k rfl rfl rfl rfl (fun ax wx hE hR hF => have e26 := zhF hF 21 26 ml4; have e30 := zhF hF 25 30 ml0; have e17 := zhF hF 12 17 ml13; ⟨e17, Z0n rfl e26 e30⟩) ?_
   refine bd 32 k rfl rfl rfl (fun ax wx hE hR hF => have e17 := zhF hF 12 17 ml14; have e31 := zhF hF 26 31 ml0; Z07 rfl e17 e31) ?_
   apply Build.stop
   refine ⟨by kernel_rfl, .inl ⟨rfl, ?_⟩⟩
   intro a7 w8 hE R hF; have e32 : a7.eval (.tmp 32) = _ := hF 27 (det 32 _) ml0
   clear hF; replace O := OwnT.ext O R; clear R; replace e2 := hE.g e2; replace e3 := hE.g e3; replace k := k.env hE; clear hE; refine Z00 ?_; refine Z06 e32 rfl ?_
   refine wp_skip ?_; refine Z00 (wp_seq ?_); refine Z0b (R := Ext) (w0 := w8) [[], [0], [0, 1], [0, 1, 2], rg 4, rg 5, rg 4, [0, 1, 2, 3, 6], [0, 1, 2, 3, 6, 7], [0, 1, 2, 3, 6, 7, 8], rg 10, rg 11, rg 12, rg 4, [0, 1, 2, 3, 13], rg 15, rg 16, rg 17] [33, 34, 35, 36, 37, 38, 39, 40, 41, 42, 43, 44, 45, 46, 47, 48, 49, 4] Ext.refl (fun _ _ _ => Ext.trans) (Ext.drew _) (by kernel_rfl) ?_
   apply bd 33 k rfl rfl rfl; case h =>
    intro ax wx hE hR hF; simp [go_sem, ↓IntWalk.iteOmega, ev (hE.g e2)]
    with_reducible rfl
   refine bd 34 k rfl rfl rfl (fun ax wx hE hR hF => have e33 := zhF hF 0 33 ml0; Z08 (OwnT.ext O hR) 1 rfl rfl e33 rfl Try.underlying4 rfl) ?_
   refine bd 35 k rfl rfl rfl (fun ax wx hE hR hF => have e34 := zhF hF 1 34 ml0; Z2a rfl e34) ?_
   refine bd 36 k rfl rfl rfl (fun ax wx hE hR hF => have e35 := zhF hF 2 35 ml0; Z02 rfl e35) ?_
   refine bsk 37 k rfl rfl rfl rfl (fun hF => zhF hF 3 36 ml0) ?_
   refine bsk 38 k rfl rfl rfl rfl (fun hF => zhF hF 3 36 ml1) ?_
   refine bsk 39 k rfl rfl rfl rfl (fun hF => zhF hF 3 36 ml2) ?_
   refine bsk 40 k rfl rfl rfl rfl (fun hF => zhF hF 3 36 ml3) ?_
   refine bsk 41 k rfl rfl rfl rfl (fun hF => zhF hF 3 36 ml4) ?_
   refine bsk 42 k rfl rfl rfl rfl (fun hF => zhF hF 3 36 ml5) ?_
   refine bsk 43 k rfl rfl rfl rfl (fun hF => zhF hF 3 36 ml6) ?_
   refine bsk 44 k rfl rfl rfl rfl (fun hF => zhF hF 3 36 ml7) ?_
   refine bsk 45 k rfl rfl rfl rfl (fun hF => zhF hF 3 36 ml8) ?_
   refine bsk 46 k rfl rfl rfl rfl (fun hF => zhF hF 3 36 ml9) ?_
   refine bsk 47 k rfl rfl rfl rfl (fun hF => zhF hF 3 36 ml10) ?_
   refine bsk 48 k rfl rfl rfl rfl (fun hF => zhF hF 3 36 ml11) ?_
   refine bd 49 k rfl rfl rfl (fun ax wx hE hR hF => have e36 := zhF hF 3 36 ml12; have e48 := zhF hF 15 48 ml0; Z0n rfl e36 rfl) ?_
   refine bd 4 k rfl rfl rfl (fun ax wx hE hR hF => have e49 := zhF hF 16 49 ml0; Z01 rfl e49) ?_
   apply Build.stop
   refine ⟨by kernel_rfl, .inl ⟨rfl, ?_⟩⟩
   intro a9 w10 hE R hF; have e4 : a9.eval (.tmp 4) = _ := hF 17 (det 4 _) ml0
   clear hF; replace O := OwnT.ext O R; clear R; replace k := k.env hE; clear hE e2 e3 e32; refine Z00 ?_; refine wp_ret ?_
   refine Z0v rfl k e4 ?_
   exact ⟨rfl, O.below⟩
 · skip
   refine wp_seq ?_; refine wp_seq ?_; refine Z0b (R := Ext) (w0 := w5) [[], [0], [0, 1], [0, 1, 2], rg 4, rg 5, rg 6, rg 7, [0, 1, 2], [0, 1, 2, 8], rg 10, rg 11, rg 12, rg 13, rg 14, rg 15, rg 16, rg 17, rg 18, rg 19, rg 20, rg 21, rg 22, rg 23, rg 24, rg 25, rg 26, rg 27] [5, 6, 7, 8, 9, 10, 11, 12, 13, 14, 15, 16, 17, 18, 19, 20, 21, 22, 23, 24, 25, 26, 27, 28, 29, 30, 31, 32] Ext.refl (fun _ _ _ => Ext.trans) (Ext.drew _) (by kernel_rfl) ?_
   apply bd 5 k rfl rfl rfl; case h =>
    intro ax wx hE hR hF; simp [go_sem, ↓IntWalk.iteOmega, ev (hE.g e2)]
    with_reducible rfl
   refine bd 6 k rfl rfl rfl (fun ax wx hE hR hF => have e5 := zhF hF 0 5 ml0; Z08 (OwnT.ext O hR) 1 rfl rfl e5 rfl Try.underlying4 rfl) ?_
   refine bd 7 k rfl rfl rfl (fun ax wx hE hR hF => have e6 := zhF hF 1 6 ml0; Z02 rfl e6) ?_
   refine bsk 8 k rfl rfl rfl rfl (fun hF => zhF hF 2 7 ml0) ?_
   refine bsk 9 k rfl rfl rfl rfl (fun hF => zhF hF 2 7 ml1) ?_
   refine bsk 10 k rfl rfl rfl rfl (fun hF => zhF hF 2 7 ml2) ?_
   refine bsk 11 k rfl rfl rfl rfl (fun hF => zhF hF 2 7 ml3) ?_
   refine bsk 12 k rfl rfl rfl rfl (fun hF => zhF hF 2 7 ml4) ?_
   refine bsk 13 k rfl rfl rfl rfl (fun hF => zhF hF 2 7 ml5) ?_
   refine bsk 14 k rfl rfl rfl rfl (fun hF => zhF hF 2 7 ml6) ?_
   refine bsk 15 k rfl rfl rfl rfl (fun hF => zhF hF 2 7 ml7) ?_
   refine bd 16 k rfl rfl rfl (fun ax wx hE hR hF => have e7 := zhF hF 2 7 ml8; have e15 := zhF hF 10 15 ml0; Z07 rfl e7 rfl) ?_
   refine bd 17 k rfl rfl rfl (fun ax wx hE hR hF => have e16 := zhF hF 11 16 ml0; Z02 rfl e16) ?_
   apply bdg 18 k rfl rfl rfl rfl; case h =>
    intro ax wx hE hR hF; have e17 := zhF hF 12 17 ml0; refine ⟨e17, ?_⟩; simp [go_sem, ↓IntWalk.iteOmega, ev (hE.g e2)]
    with_reducible rfl
   refine bdg 19 k rfl rfl rfl rfl (fun ax wx hE hR hF => have e18 := zhF hF 13 18 ml0; have e17 := zhF hF 12 17 ml1; ⟨e17, Z08 (OwnT.ext O hR) 1 rfl rfl e18 rfl Try.underlying4 rfl⟩) ?_
   refine bdg 20 k rfl rfl rfl rfl (fun ax wx hE hR hF => have e19 := zhF hF 14 19 ml0; have e17 := zhF hF 12 17 ml2; ⟨e17, Z2a rfl e19⟩) ?_
   refine bdg 21 k rfl rfl rfl rfl (fun ax wx hE hR hF => have e20 := zhF hF 15 20 ml0; have e17 := zhF hF 12 17 ml3; ⟨e17, Z02 rfl e20⟩) ?_
   apply bdg 22 k rfl rfl rfl rfl; case h =>
    intro ax wx hE hR hF; have e21 := zhF hF 16 21 ml0; refine ⟨e21, ?_⟩; simp [go_sem, ↓IntWalk.iteOmega, ev (hE.g e3)]
    with_reducible rfl
   refine bdg 23 k rfl rfl rfl rfl (fun ax wx hE hR hF => have e22 := zhF hF 17 22 ml0; have e21 := zhF hF 16 21 ml1; ⟨e21, Z08 (OwnT.ext O hR) 0 rfl rfl e22 rfl Try.underlying3 rfl⟩) ?_
   refine bdg 24 k rfl rfl rfl rfl (fun ax wx hE hR hF => have e23 := zhF hF 18 23 ml0; have e21 := zhF hF 16 21 ml2; ⟨e21, Z05 (Z2b rfl e23 rfl) (decide_eq_false (by omega))⟩) ?_
   refine bdg 25 k rfl rfl rfl rfl (fun ax wx hE hR hF => have e21 := zhF hF 16 21 ml3; have e24 := zhF hF 19 24 ml0; have e17 := zhF hF 12 17 ml7; ⟨e17, Z0n rfl e21 e24⟩) ?_
   refine bdg 26 k rfl rfl rfl rfl (fun ax wx hE hR hF => have e25 := zhF hF 20 25 ml0; have e17 := zhF hF 12 17 ml8; ⟨e17, Z02 rfl e25⟩) ?_
   refine bsk 27 k rfl rfl rfl rfl (fun hF => zhF hF 21 26 ml0) ?_
   refine bsk 28 k rfl rfl rfl rfl (fun hF => zhF hF 21 26 ml1) ?_
   refine bsk 29 k rfl rfl rfl rfl (fun hF => zhF hF 21 26 ml2) ?_
   refine bsk 30 k rfl rfl rfl rfl (fun hF => zhF hF 21 26 ml3) ?_
   refine bdg 31 k rfl rfl rfl rfl (fun ax wx hE hR hF => have e26 := zhF hF 21 26 ml4; have e30 := zhF hF 25 30 ml0; have e17 := zhF hF 12 17 ml13; ⟨e17, Z07 rfl e26 rfl⟩) ?_
   refine bd 32 k rfl rfl rfl (fun ax wx hE hR hF => have e17 := zhF hF 12 17 ml14; have e31 := zhF hF 26 31 ml0; Z07 rfl e17 e31) ?_
   apply Build.stop
   refine ⟨by kernel_rfl, .inl ⟨rfl, ?_⟩⟩
   intro a11 w12 hE R hF; have e32 : a11.eval (.tmp 32) = _ := hF 27 (det 32 _) ml0
   clear hF; replace O := OwnT.ext O R; clear R; replace e2 := hE.g e2; replace e3 := hE.g e3; replace k := k.env hE; clear hE; refine Z00 ?_; refine Z06 e32 rfl ?_
   refine wp_skip ?_; refine Z00 (wp_seq ?_); refine Z0b (R := Ext) (w0 := w12) [[], [0], [0, 1], [0, 1, 2], rg 4, rg 5, rg 4, [0, 1, 2, 3, 6], [0, 1, 2, 3, 6, 7], [0, 1, 2, 3, 6, 7, 8], rg 10, rg 11, rg 12, rg 4, [0, 1, 2, 3, 13], rg 15, rg 16, rg 17] [33, 34, 35, 36, 37, 38, 39, 40, 41, 42, 43, 44, 45, 46, 47, 48, 49, 4] Ext.refl (fun _ _ _ => Ext.trans) (Ext.drew _) (by kernel_rfl) ?_
   apply bd 33 k rfl rfl rfl; case h =>
    intro ax wx hE hR hF; simp [go_sem, ↓IntWalk.iteOmega, ev (hE.g e2)]
    with_reducible rfl
   refine bd 34 k rfl rfl rfl (fun ax wx hE hR hF => have e33 := zhF hF 0 33 ml0; Z08 (OwnT.ext O hR) 1 rfl rfl e33 rfl Try.underlying4 rfl) ?_
   refine bd 35 k rfl rfl rfl (fun ax wx hE hR hF => have e34 := zhF hF 1 34 ml0; Z2a rfl e34) ?_
   refine bd 36 k rfl rfl rfl (fun ax wx hE hR hF => have e35 := zhF hF 2 35 ml0; Z02 rfl e35) ?_
   refine bsk 37 k rfl rfl rfl rfl (fun hF => zhF hF 3 36 ml0) ?_
   refine bsk 38 k rfl rfl rfl rfl (fun hF => zhF hF 3 36 ml1) ?_
   refine bsk 39 k rfl rfl rfl rfl (fun hF => zhF hF 3 36 ml2) ?_
   refine bsk 40 k rfl rfl rfl rfl (fun hF => zhF hF 3 36 ml3) ?_
   refine bsk 41 k rfl rfl rfl rfl (fun hF => zhF hF 3 36 ml4) ?_
   refine bsk 42 k rfl rfl rfl rfl (fun hF => zhF hF 3 36 ml5) ?_
   refine bsk 43 k rfl rfl rfl rfl (fun hF => zhF hF 3 36 ml6) ?_
   refine bsk 44 k rfl rfl rfl rfl (fun hF => zhF hF 3 36 ml7) ?_
   refine bsk 45 k rfl rfl rfl rfl (fun hF => zhF hF 3 36 ml8) ?_
   refine bsk 46 k rfl rfl rfl rfl (fun hF => zhF hF 3 36 ml9) ?_
   refine bsk 47 k rfl rfl rfl rfl (fun hF => zhF hF 3 36 ml10) ?_
   refine bsk 48 k rfl rfl rfl rfl (fun hF => zhF hF 3 36 ml11) ?_
   refine bd 49 k rfl rfl rfl (fun ax wx hE hR hF => have e36 := zhF hF 3 36 ml12; have e48 := zhF hF 15 48 ml0; Z0n rfl e36 rfl) ?_
   refine bd 4 k rfl rfl rfl (fun ax wx hE hR hF => have e49 := zhF hF 16 49 ml0; Z01 rfl e49) ?_
   apply Build.stop
   refine ⟨by kernel_rfl, .inl ⟨rfl, ?_⟩⟩
   intro a13 w14 hE R hF; have e4 : a13.eval (.tmp 4) = _ := hF 17 (det 4 _) ml0
   clear hF; replace O := OwnT.ext O R; clear R; replace k := k.env hE; clear hE e2 e3 e32; refine Z00 ?_; refine wp_ret ?_
   refine Z0v rfl k e4 ?_
   exact ⟨rfl, O.below⟩
set_option maxRecDepth 100000 in
set_option maxHeartbeats 4000000 in
theorem rightly_nh {gv o cap f0 h0 l : Nat} {xs : List Pr} (W0 : World) (hrow : Row W0 (some ⟨gv, o, none⟩) 2 pairC xs) (hne : 0 < xs.length) (h15 : xs.length ≤ 15) (h2 : 0 < l → 2 ≤ xs.length) (hh : keyAt xs (xs.length - 1) < h0) : Calls Try.prog 117 #[.agg #[.int .u64 0, .bool false, .int .u64 ↑h0, .bool true], .agg #[.int .i64 l, .slice (some ⟨gv, o, none⟩) xs.length cap]] W0 fun e w' => e = .returned (.bool true) ∧ Ext W0 w' := by
 have O := OwnT.start W0
 have hnI : (0 : Int) < (xs.length : Int) := by omega
 have hn1I : ((xs.length - 1 : Nat) : Int) < (xs.length : Int) := by omega
 refine Z0a Try.func117 rfl 50 rfl (by rfl) ?_
 intro a1 k hargs; have e0 : a1.eval (.tmp 0) = .agg #[.int .u64 0, .bool false, .int .u64 ↑h0, .bool true] := hargs 0 _ rfl
 have e1 : a1.eval (.tmp 1) = .agg #[.int .i64 ↑l, .slice (some ⟨gv, o, none⟩) xs.length cap] := hargs 1 _ rfl
 clear hargs; refine wp_seq ?_; refine wp_region_lit ?_
 have hE := Env.refl a1 [2, 3, 4]; refine Z0k O (cs := #[.int .u64 0, .bool false, .int .u64 ↑h0, .bool true]) (t := 179) 2 hE k rfl (by rfl) (by rfl) rfl (by simp [go_sem, ↓IntWalk.iteOmega, ev (hE.g e0)]) ?_
 clear O; intro bb a2 w3 O hE e2 kp; refine Z0k O (cs := #[.int .i64 ↑l, .slice (some ⟨gv, o, none⟩) xs.length cap]) (t := 46) 3 hE k rfl (by rfl) (by rfl) rfl (by simp [go_sem, ↓IntWalk.iteOmega, ev (hE.g e1)]) ?_
 clear O; intro lb a4 w5 O hE e3 kp; replace e2 := kt kp e2; refine sd 4 hE k (Z01 rfl rfl) ?_; intro a6 hE e4 kp; replace e2 := kt kp e2; replace e3 := kt kp e3; refine wpList_nil ?_; replace k := k.env hE; clear hE e0 e1 e4; refine Z00 ?_; by_cases hl0 : 0 < l
 · have h3 := h2 hl0
   refine wp_seq ?_; refine wp_seq ?_; refine Z0b (R := Ext) (w0 := w5) [[], [0], [0, 1], [0, 1, 2], rg 4, rg 5, rg 6, rg 7, [0, 1, 2], [0, 1, 2, 8], rg 10, rg 11, rg 12, rg 13, rg 14, rg 15, rg 16, rg 17, rg 18, rg 19, rg 20, rg 21, rg 22, rg 23, rg 24, rg 25, rg 26, rg 27] [5, 6, 7, 8, 9, 10, 11, 12, 13, 14, 15, 16, 17, 18, 19, 20, 21, 22, 23, 24, 25, 26, 27, 28, 29, 30, 31, 32] Ext.refl (fun _ _ _ => Ext.trans) (Ext.drew _) (by kernel_rfl) ?_
   apply bd 5 k rfl rfl rfl; case h =>
    intro ax wx hE hR hF; simp [go_sem, ↓IntWalk.iteOmega, ev (hE.g e2)]
    with_reducible rfl
   refine bd 6 k rfl rfl rfl (fun ax wx hE hR hF => have e5 := zhF hF 0 5 ml0; Z08 (OwnT.ext O hR) 1 rfl rfl e5 rfl Try.underlying4 rfl) ?_
   refine bd 7 k rfl rfl rfl (fun ax wx hE hR hF => have e6 := zhF hF 1 6 ml0; Z02 rfl e6) ?_
   refine bsk 8 k rfl rfl rfl rfl (fun hF => zhF hF 2 7 ml0) ?_
   refine bsk 9 k rfl rfl rfl rfl (fun hF => zhF hF 2 7 ml1) ?_
   refine bsk 10 k rfl rfl rfl rfl (fun hF => zhF hF 2 7 ml2) ?_
   refine bsk 11 k rfl rfl rfl rfl (fun hF => zhF hF 2 7 ml3) ?_
   refine bsk 12 k rfl rfl rfl rfl (fun hF => zhF hF 2 7 ml4) ?_
   refine bsk 13 k rfl rfl rfl rfl (fun hF => zhF hF 2 7 ml5) ?_
   refine bsk 14 k rfl rfl rfl rfl (fun hF => zhF hF 2 7 ml6) ?_
   refine bsk 15 k rfl rfl rfl rfl (fun hF => zhF hF 2 7 ml7) ?_
   refine bd 16 k rfl rfl rfl (fun ax wx hE hR hF => have e7 := zhF hF 2 7 ml8; have e15 := zhF hF 10 15 ml0; Z07 rfl e7 rfl) ?_
   refine bd 17 k rfl rfl rfl (fun ax wx hE hR hF => have e16 := zhF hF 11 16 ml0; Z02 rfl e16) ?_
   apply bdg 18 k rfl rfl rfl rfl; case h =>
    intro ax wx hE hR hF; have e17 := zhF hF 12 17 ml0; refine ⟨e17, ?_⟩; simp [go_sem, ↓IntWalk.iteOmega, ev (hE.g e2)]
    with_reducible rfl
   refine bdg 19 k rfl rfl rfl rfl (fun ax wx hE hR hF => have e18 := zhF hF 13 18 ml0; have e17 := zhF hF 12 17 ml1; ⟨e17, Z08 (OwnT.ext O hR) 1 rfl rfl e18 rfl Try.underlying4 rfl⟩) ?_
   refine bdg 20 k rfl rfl rfl rfl (fun ax wx hE hR hF => have e19 := zhF hF 14 19 ml0; have e17 := zhF hF 12 17 ml2; ⟨e17, Z2a rfl e19⟩) ?_
   refine bdg 21 k rfl rfl rfl rfl (fun ax wx hE hR hF => have e20 := zhF hF 15 20 ml0; have e17 := zhF hF 12 17 ml3; ⟨e17, Z02 rfl e20⟩) ?_
   apply bdg 22 k rfl rfl rfl rfl; case h =>
    intro ax wx hE hR hF; have e21 := zhF hF 16 21 ml0; refine ⟨e21, ?_⟩; simp [go_sem, ↓IntWalk.iteOmega, ev (hE.g e3)]
    with_reducible rfl
   refine bdg 23 k rfl rfl rfl rfl (fun ax wx hE hR hF => have e22 := zhF hF 17 22 ml0; have e21 := zhF hF 16 21 ml1; ⟨e21, Z08 (OwnT.ext O hR) 0 rfl rfl e22 rfl Try.underlying3 rfl⟩) ?_
   refine bdg 24 k rfl rfl rfl rfl (fun ax wx hE hR hF => have e23 := zhF hF 18 23 ml0; have e21 := zhF hF 16 21 ml2; ⟨e21, Z05 (Z2b rfl e23 rfl) (decide_eq_true (by omega))⟩) ?_
   refine bdg 25 k rfl rfl rfl rfl (fun ax wx hE hR hF => have e21 := zhF hF 16 21 ml3; have e24 := zhF hF 19 24 ml0; have e17 := zhF hF 12 17 ml7; ⟨e17, Z0n rfl e21 e24⟩) ?_
   refine bdg 26 k rfl rfl rfl rfl (fun ax wx hE hR hF => have e25 := zhF hF 20 25 ml0; have e17 := zhF hF 12 17 ml8; ⟨e17, Z02 rfl e25⟩) ?_
   apply bdg 27 k rfl rfl rfl rfl; case h =>
    intro ax wx hE hR hF; have e26 := zhF hF 21 26 ml0; refine ⟨e26, ?_⟩; simp [go_sem, ↓IntWalk.iteOmega, ev (hE.g e3)]
    with_reducible rfl
   refine bdg 28 k rfl rfl rfl rfl (fun ax wx hE hR hF => have e27 := zhF hF 22 27 ml0; have e26 := zhF hF 21 26 ml1; ⟨e26, Z08 (OwnT.ext O hR) 0 rfl rfl e27 rfl Try.underlying44 rfl⟩) ?_
   refine bdg 29 k rfl rfl rfl rfl (fun ax wx hE hR hF => have e28 := zhF hF 23 28 ml0; have e26 := zhF hF 21 26 ml2; ⟨e26, Z0j Try.underlying44 rfl e28⟩) ?_
   refine bdg 30 k rfl rfl rfl rfl (fun ax wx hE hR hF => have e29 := zhF hF 24 29 ml0; have e26 := zhF hF 21 26 ml3; ⟨e26, Z05 (Z1d rfl e29 rfl) (decide_eq_false (by omega))⟩) ?_
   refine bdg 31 k rfl rfl rfl rfl (fun ax wx hE hR hF => have e26 := zhF hF 21 26 ml4; have e30 := zhF hF 25 30 ml0; have e17 := zhF hF 12 17 ml13; ⟨e17, Z0n rfl e26 e30⟩) ?_
   refine bd 32 k rfl rfl rfl (fun ax wx hE hR hF => have e17 := zhF hF 12 17 ml14; have e31 := zhF hF 26 31 ml0; Z07 rfl e17 e31) ?_
   apply Build.stop
   refine ⟨by kernel_rfl, .inl ⟨rfl, ?_⟩⟩
   intro a7 w8 hE R hF; have e32 : a7.eval (.tmp 32) = _ := hF 27 (det 32 _) ml0
   clear hF; replace O := OwnT.ext O R; clear R; replace e2 := hE.g e2; replace e3 := hE.g e3; replace k := k.env hE; clear hE; refine Z00 ?_; refine Z06 e32 rfl ?_
   refine wp_skip ?_; refine Z00 (wp_seq ?_); refine Z0b (R := Ext) (w0 := w8) [[], [0], [0, 1], [0, 1, 2], rg 4, rg 5, rg 4, [0, 1, 2, 3, 6], [0, 1, 2, 3, 6, 7], [0, 1, 2, 3, 6, 7, 8], rg 10, rg 11, rg 12, rg 4, [0, 1, 2, 3, 13], rg 15, rg 16, rg 17] [33, 34, 35, 36, 37, 38, 39, 40, 41, 42, 43, 44, 45, 46, 47, 48, 49, 4] Ext.refl (fun _ _ _ => Ext.trans) (Ext.drew _) (by kernel_rfl) ?_
   apply bd 33 k rfl rfl rfl; case h =>
    intro ax wx hE hR hF; simp [go_sem, ↓IntWalk.iteOmega, ev (hE.g e2)]
    with_reducible rfl
   refine bd 34 k rfl rfl rfl (fun ax wx hE hR hF => have e33 := zhF hF 0 33 ml0; Z08 (OwnT.ext O hR) 1 rfl rfl e33 rfl Try.underlying4 rfl) ?_
   refine bd 35 k rfl rfl rfl (fun ax wx hE hR hF => have e34 := zhF hF 1 34 ml0; Z2a rfl e34) ?_
   refine bd 36 k rfl rfl rfl (fun ax wx hE hR hF => have e35 := zhF hF 2 35 ml0; Z02 rfl e35) ?_
   apply bdg 37 k rfl rfl rfl rfl; case h =>
    intro ax wx hE hR hF; have e36 := zhF hF 3 36 ml0; refine ⟨e36, ?_⟩; simp [go_sem, ↓IntWalk.iteOmega, ev (hE.g e3)]
    with_reducible rfl
   refine bdg 38 k rfl rfl rfl rfl (fun ax wx hE hR hF => have e37 := zhF hF 4 37 ml0; have e36 := zhF hF 3 36 ml1; ⟨e36, Z08 (OwnT.ext O hR) 0 rfl rfl e37 rfl Try.underlying44 rfl⟩) ?_
   apply bdg 39 k rfl rfl rfl rfl; case h =>
    intro ax wx hE hR hF; have e36 := zhF hF 3 36 ml2; refine ⟨e36, ?_⟩; simp [go_sem, ↓IntWalk.iteOmega, ev (hE.g e3)]
    with_reducible rfl
   refine bdg 40 k rfl rfl rfl rfl (fun ax wx hE hR hF => have e39 := zhF hF 6 39 ml0; have e36 := zhF hF 3 36 ml3; ⟨e36, Z08 (OwnT.ext O hR) 0 rfl rfl e39 rfl Try.underlying44 rfl⟩) ?_
   refine bdg 41 k rfl rfl rfl rfl (fun ax wx hE hR hF => have e40 := zhF hF 7 40 ml0; have e36 := zhF hF 3 36 ml4; ⟨e36, Z0j Try.underlying44 rfl e40⟩) ?_
   refine bdg 42 k rfl rfl rfl rfl (fun ax wx hE hR hF => have e41 := zhF hF 8 41 ml0; have e36 := zhF hF 3 36 ml5; ⟨e36, Z1c (v := .int .i64 ((xs.length - 1 : Nat) : Int)) (Z5q rfl e41 rfl (by omega)) (Z0s (by omega))⟩) ?_
   apply bdg 43 k rfl rfl rfl rfl; case h =>
    intro ax wx hE hR hF; have e38 := zhF hF 5 38 ml4; have e42 := zhF hF 9 42 ml0; have e36 := zhF hF 3 36 ml6; refine ⟨e36, ?_⟩; simp [go_sem, ↓IntWalk.iteOmega, ev e38, ev e42]
    with_reducible rfl
   apply bdg 44 k rfl rfl rfl rfl; case h =>
    intro ax wx hE hR hF; have e43 := zhF hF 10 43 ml0; have e36 := zhF hF 3 36 ml7; refine ⟨e36, ?_⟩; simp [go_sem, ↓IntWalk.iteOmega, ev e43]
    with_reducible rfl
   apply bdg 45 k rfl rfl rfl rfl; case h =>
    intro ax wx hE hR hF; have e44 := zhF hF 11 44 ml0; have e36 := zhF hF 3 36 ml8; refine ⟨e36, ?_⟩; have ck := Z31 hrow (OwnT.ext O hR).below (z := xs.length - 1) (by omega)
    simp [go_sem, ↓IntWalk.iteOmega, ev e44, ck]
    with_reducible rfl
   apply bdg 46 k rfl rfl rfl rfl; case h =>
    intro ax wx hE hR hF; have e36 := zhF hF 3 36 ml9; refine ⟨e36, ?_⟩; simp [go_sem, ↓IntWalk.iteOmega, ev (hE.g e2)]
    with_reducible rfl
   refine bdg 47 k rfl rfl rfl rfl (fun ax wx hE hR hF => have e46 := zhF hF 13 46 ml0; have e36 := zhF hF 3 36 ml10; ⟨e36, Z08 (OwnT.ext O hR) 1 rfl rfl e46 rfl Try.underlying71 rfl⟩) ?_
   refine bdg 48 k rfl rfl rfl rfl (fun ax wx hE hR hF => have e45 := zhF hF 12 45 ml2; have e47 := zhF hF 14 47 ml0; have e36 := zhF hF 3 36 ml11; ⟨e36, Z05 (Z1d rfl e45 e47) (decide_eq_true (by omega))⟩) ?_
   refine bd 49 k rfl rfl rfl (fun ax wx hE hR hF => have e36 := zhF hF 3 36 ml12; have e48 := zhF hF 15 48 ml0; Z07 rfl e36 e48) ?_
   refine bd 4 k rfl rfl rfl (fun ax wx hE hR hF => have e49 := zhF hF 16 49 ml0; Z01 rfl e49) ?_
   apply Build.stop
   refine ⟨by kernel_rfl, .inl ⟨rfl, ?_⟩⟩
   intro a9 w10 hE R hF; have e4 : a9.eval (.tmp 4) = _ := hF 17 (det 4 _) ml0
   clear hF; replace O := OwnT.ext O R; clear R; replace k := k.env hE; clear hE e2 e3 e32; refine Z00 ?_; refine wp_ret ?_
   refine Z0v rfl k e4 ?_
   exact ⟨rfl, O.below⟩
 · skip
   refine wp_seq ?_; refine wp_seq ?_; refine Z0b (R := Ext) (w0 := w5) [[], [0], [0, 1], [0, 1, 2], rg 4, rg 5, rg 6, rg 7, [0, 1, 2], [0, 1, 2, 8], rg 10, rg 11, rg 12, rg 13, rg 14, rg 15, rg 16, rg 17, rg 18, rg 19, rg 20, rg 21, rg 22, rg 23, rg 24, rg 25, rg 26, rg 27] [5, 6, 7, 8, 9, 10, 11, 12, 13, 14, 15, 16, 17, 18, 19, 20, 21, 22, 23, 24, 25, 26, 27, 28, 29, 30, 31, 32] Ext.refl (fun _ _ _ => Ext.trans) (Ext.drew _) (by kernel_rfl) ?_
   apply bd 5 k rfl rfl rfl; case h =>
    intro ax wx hE hR hF; simp [go_sem, ↓IntWalk.iteOmega, ev (hE.g e2)]
    with_reducible rfl
   refine bd 6 k rfl rfl rfl (fun ax wx hE hR hF => have e5 := zhF hF 0 5 ml0; Z08 (OwnT.ext O hR) 1 rfl rfl e5 rfl Try.underlying4 rfl) ?_
   refine bd 7 k rfl rfl rfl (fun ax wx hE hR hF => have e6 := zhF hF 1 6 ml0; Z02 rfl e6) ?_
   refine bsk 8 k rfl rfl rfl rfl (fun hF => zhF hF 2 7 ml0) ?_
   refine bsk 9 k rfl rfl rfl rfl (fun hF => zhF hF 2 7 ml1) ?_
   refine bsk 10 k rfl rfl rfl rfl (fun hF => zhF hF 2 7 ml2) ?_
   refine bsk 11 k rfl rfl rfl rfl (fun hF => zhF hF 2 7 ml3) ?_
   refine bsk 12 k rfl rfl rfl rfl (fun hF => zhF hF 2 7 ml4) ?_
   refine bsk 13 k rfl rfl rfl rfl (fun hF => zhF hF 2 7 ml5) ?_
   refine bsk 14 k rfl rfl rfl rfl (fun hF => zhF hF 2 7 ml6) ?_
   refine bsk 15 k rfl rfl rfl rfl (fun hF => zhF hF 2 7 ml7) ?_
   refine bd 16 k rfl rfl rfl (fun ax wx hE hR hF => have e7 := zhF hF 2 7 ml8; have e15 := zhF hF 10 15 ml0; Z07 rfl e7 rfl) ?_
   refine bd 17 k rfl rfl rfl (fun ax wx hE hR hF => have e16 := zhF hF 11 16 ml0; Z02 rfl e16) ?_
   apply bdg 18 k rfl rfl rfl rfl; case h =>
    intro ax wx hE hR hF; have e17 := zhF hF 12 17 ml0; refine ⟨e17, ?_⟩; simp [go_sem, ↓IntWalk.iteOmega, ev (hE.g e2)]
    with_reducible rfl
   refine bdg 19 k rfl rfl rfl rfl (fun ax wx hE hR hF => have e18 := zhF hF 13 18 ml0; have e17 := zhF hF 12 17 ml1; ⟨e17, Z08 (OwnT.ext O hR) 1 rfl rfl e18 rfl Try.underlying4 rfl⟩) ?_
   refine bdg 20 k rfl rfl rfl rfl (fun ax wx hE hR hF => have e19 := zhF hF 14 19 ml0; have e17 := zhF hF 12 17 ml2; ⟨e17, Z2a rfl e19⟩) ?_
   refine bdg 21 k rfl rfl rfl rfl (fun ax wx hE hR hF => have e20 := zhF hF 15 20 ml0; have e17 := zhF hF 12 17 ml3; ⟨e17, Z02 rfl e20⟩) ?_
   apply bdg 22 k rfl rfl rfl rfl; case h =>
    intro ax wx hE hR hF; have e21 := zhF hF 16 21 ml0; refine ⟨e21, ?_⟩; simp [go_sem, ↓IntWalk.iteOmega, ev (hE.g e3)]
    with_reducible rfl
   refine bdg 23 k rfl rfl rfl rfl (fun ax wx hE hR hF => have e22 := zhF hF 17 22 ml0; have e21 := zhF hF 16 21 ml1; ⟨e21, Z08 (OwnT.ext O hR) 0 rfl rfl e22 rfl Try.underlying3 rfl⟩) ?_
   refine bdg 24 k rfl rfl rfl rfl (fun ax wx hE hR hF => have e23 := zhF hF 18 23 ml0; have e21 := zhF hF 16 21 ml2; ⟨e21, Z05 (Z2b rfl e23 rfl) (decide_eq_false (by omega))⟩) ?_
   refine bdg 25 k rfl rfl rfl rfl (fun ax wx hE hR hF => have e21 := zhF hF 16 21 ml3; have e24 := zhF hF 19 24 ml0; have e17 := zhF hF 12 17 ml7; ⟨e17, Z0n rfl e21 e24⟩) ?_
   refine bdg 26 k rfl rfl rfl rfl (fun ax wx hE hR hF => have e25 := zhF hF 20 25 ml0; have e17 := zhF hF 12 17 ml8; ⟨e17, Z02 rfl e25⟩) ?_
   refine bsk 27 k rfl rfl rfl rfl (fun hF => zhF hF 21 26 ml0) ?_
   refine bsk 28 k rfl rfl rfl rfl (fun hF => zhF hF 21 26 ml1) ?_
   refine bsk 29 k rfl rfl rfl rfl (fun hF => zhF hF 21 26 ml2) ?_
   refine bsk 30 k rfl rfl rfl rfl (fun hF => zhF hF 21 26 ml3) ?_
   refine bdg 31 k rfl rfl rfl rfl (fun ax wx hE hR hF => have e26 := zhF hF 21 26 ml4; have e30 := zhF hF 25 30 ml0; have e17 := zhF hF 12 17 ml13; ⟨e17, Z07 rfl e26 rfl⟩) ?_
   refine bd 32 k rfl rfl rfl (fun ax wx hE hR hF => have e17 := zhF hF 12 17 ml14; have e31 := zhF hF 26 31 ml0; Z07 rfl e17 e31) ?_
   apply Build.stop
   refine ⟨by kernel_rfl, .inl ⟨rfl, ?_⟩⟩
   intro a11 w12 hE R hF; have e32 : a11.eval (.tmp 32) = _ := hF 27 (det 32 _) ml0
   clear hF; replace O := OwnT.ext O R; clear R; replace e2 := hE.g e2; replace e3 := hE.g e3; replace k := k.env hE; clear hE; refine Z00 ?_; refine Z06 e32 rfl ?_
   refine wp_skip ?_; refine Z00 (wp_seq ?_); refine Z0b (R := Ext) (w0 := w12) [[], [0], [0, 1], [0, 1, 2], rg 4, rg 5, rg 4, [0, 1, 2, 3, 6], [0, 1, 2, 3, 6, 7], [0, 1, 2, 3, 6, 7, 8], rg 10, rg 11, rg 12, rg 4, [0, 1, 2, 3, 13], rg 15, rg 16, rg 17] [33, 34, 35, 36, 37, 38, 39, 40, 41, 42, 43, 44, 45, 46, 47, 48, 49, 4] Ext.refl (fun _ _ _ => Ext.trans) (Ext.drew _) (by kernel_rfl) ?_
   apply bd 33 k rfl rfl rfl; case h =>
    intro ax wx hE hR hF; simp [go_sem, ↓IntWalk.iteOmega, ev (hE.g e2)]
    with_reducible rfl
   refine bd 34 k rfl rfl rfl (fun ax wx hE hR hF => have e33 := zhF hF 0 33 ml0; Z08 (OwnT.ext O hR) 1 rfl rfl e33 rfl Try.underlying4 rfl) ?_
   refine bd 35 k rfl rfl rfl (fun ax wx hE hR hF => have e34 := zhF hF 1 34 ml0; Z2a rfl e34) ?_
   refine bd 36 k rfl rfl rfl (fun ax wx hE hR hF => have e35 := zhF hF 2 35 ml0; Z02 rfl e35) ?_
   apply bdg 37 k rfl rfl rfl rfl; case h =>
    intro ax wx hE hR hF; have e36 := zhF hF 3 36 ml0; refine ⟨e36, ?_⟩; simp [go_sem, ↓IntWalk.iteOmega, ev (hE.g e3)]
    with_reducible rfl
   refine bdg 38 k rfl rfl rfl rfl (fun ax wx hE hR hF => have e37 := zhF hF 4 37 ml0; have e36 := zhF hF 3 36 ml1; ⟨e36, Z08 (OwnT.ext O hR) 0 rfl rfl e37 rfl Try.underlying44 rfl⟩) ?_
   apply bdg 39 k rfl rfl rfl rfl; case h =>
    intro ax wx hE hR hF; have e36 := zhF hF 3 36 ml2; refine ⟨e36, ?_⟩; simp [go_sem, ↓IntWalk.iteOmega, ev (hE.g e3)]
    with_reducible rfl
   refine bdg 40 k rfl rfl rfl rfl (fun ax wx hE hR hF => have e39 := zhF hF 6 39 ml0; have e36 := zhF hF 3 36 ml3; ⟨e36, Z08 (OwnT.ext O hR) 0 rfl rfl e39 rfl Try.underlying44 rfl⟩) ?_
   refine bdg 41 k rfl rfl rfl rfl (fun ax wx hE hR hF => have e40 := zhF hF 7 40 ml0; have e36 := zhF hF 3 36 ml4; ⟨e36, Z0j Try.underlying44 rfl e40⟩) ?_
   refine bdg 42 k rfl rfl rfl rfl (fun ax wx hE hR hF => have e41 := zhF hF 8 41 ml0; have e36 := zhF hF 3 36 ml5; ⟨e36, Z1c (v := .int .i64 ((xs.length - 1 : Nat) : Int)) (Z5q rfl e41 rfl (by omega)) (Z0s (by omega))⟩) ?_
   apply bdg 43 k rfl rfl rfl rfl; case h =>
    intro ax wx hE hR hF; have e38 := zhF hF 5 38 ml4; have e42 := zhF hF 9 42 ml0; have e36 := zhF hF 3 36 ml6; refine ⟨e36, ?_⟩; simp [go_sem, ↓IntWalk.iteOmega, ev e38, ev e42]
    with_reducible rfl
   apply bdg 44 k rfl rfl rfl rfl; case h =>
    intro ax wx hE hR hF; have e43 := zhF hF 10 43 ml0; have e36 := zhF hF 3 36 ml7; refine ⟨e36, ?_⟩; simp [go_sem, ↓IntWalk.iteOmega, ev e43]
    with_reducible rfl
   apply bdg 45 k rfl rfl rfl rfl; case h =>
    intro ax wx hE hR hF; have e44 := zhF hF 11 44 ml0; have e36 := zhF hF 3 36 ml8; refine ⟨e36, ?_⟩; have ck := Z31 hrow (OwnT.ext O hR).below (z := xs.length - 1) (by omega)
    simp [go_sem, ↓IntWalk.iteOmega, ev e44, ck]
    with_reducible rfl
   apply bdg 46 k rfl rfl rfl rfl; case h =>
    intro ax wx hE hR hF; have e36 := zhF hF 3 36 ml9; refine ⟨e36, ?_⟩; simp [go_sem, ↓IntWalk.iteOmega, ev (hE.g e2)]
    with_reducible rfl
   refine bdg 47 k rfl rfl rfl rfl (fun ax wx hE hR hF => have e46 := zhF hF 13 46 ml0; have e36 := zhF hF 3 36 ml10; ⟨e36, Z08 (OwnT.ext O hR) 1 rfl rfl e46 rfl Try.underlying71 rfl⟩) ?_
   refine bdg 48 k rfl rfl rfl rfl (fun ax wx hE hR hF => have e45 := zhF hF 12 45 ml2; have e47 := zhF hF 14 47 ml0; have e36 := zhF hF 3 36 ml11; ⟨e36, Z05 (Z1d rfl e45 e47) (decide_eq_true (by omega))⟩) ?_
   refine bd 49 k rfl rfl rfl (fun ax wx hE hR hF => have e36 := zhF hF 3 36 ml12; have e48 := zhF hF 15 48 ml0; Z07 rfl e36 e48) ?_
   refine bd 4 k rfl rfl rfl (fun ax wx hE hR hF => have e49 := zhF hF 16 49 ml0; Z01 rfl e49) ?_
   apply Build.stop
   refine ⟨by kernel_rfl, .inl ⟨rfl, ?_⟩⟩
   intro a13 w14 hE R hF; have e4 : a13.eval (.tmp 4) = _ := hF 17 (det 4 _) ml0
   clear hF; replace O := OwnT.ext O R; clear R; replace k := k.env hE; clear hE e2 e3 e32; refine Z00 ?_; refine wp_ret ?_
   refine Z0v rfl k e4 ?_
   exact ⟨rfl, O.below⟩
set_option maxRecDepth 100000 in
set_option maxHeartbeats 4000000 in
theorem rightly_fn {gv o cap f0 h0 l : Nat} {xs : List Pr} (W0 : World) (hrow : Row W0 (some ⟨gv, o, none⟩) 2 pairC xs) (hne : 0 < xs.length) (h15 : xs.length ≤ 15) (hf : keyAt xs 0 = f0) : Calls Try.prog 117 #[.agg #[.int .u64 ↑f0, .bool true, .int .u64 0, .bool false], .agg #[.int .i64 l, .slice (some ⟨gv, o, none⟩) xs.length cap]] W0 fun e w' => e = .returned (.bool true) ∧ Ext W0 w' := by
 have O := OwnT.start W0
 have hnI : (0 : Int) < (xs.length : Int) := by omega
 have hn1I : ((xs.length - 1 : Nat) : Int) < (xs.length : Int) := by omega
 refine Z0a Try.func117 rfl 50 rfl (by rfl) ?_
 intro a1 k hargs; have e0 : a1.eval (.tmp 0) = .agg #[.int .u64 ↑f0, .bool true, .int .u64 0, .bool false] := hargs 0 _ rfl
 have e1 : a1.eval (.tmp 1) = .agg #[.int .i64 ↑l, .slice (some ⟨gv, o, none⟩) xs.length cap] := hargs 1 _ rfl
 clear hargs; refine wp_seq ?_; refine wp_region_lit ?_
 have hE := Env.refl a1 [2, 3, 4]; refine Z0k O (cs := #[.int .u64 ↑f0, .bool true, .int .u64 0, .bool false]) (t := 179) 2 hE k rfl (by rfl) (by rfl) rfl (by simp [go_sem, ↓IntWalk.iteOmega, ev (hE.g e0)]) ?_
 clear O; intro bb a2 w3 O hE e2 kp; refine Z0k O (cs := #[.int .i64 ↑l, .slice (some ⟨gv, o, none⟩) xs.length cap]) (t := 46) 3 hE k rfl (by rfl) (by rfl) rfl (by simp [go_sem, ↓IntWalk.iteOmega, ev (hE.g e1)]) ?_
 clear O; intro lb a4 w5 O hE e3 kp; replace e2 := kt kp e2; refine sd 4 hE k (Z01 rfl rfl) ?_; intro a6 hE e4 kp; replace e2 := kt kp e2; replace e3 := kt kp e3; refine wpList_nil ?_; replace k := k.env hE; clear hE e0 e1 e4; refine Z00 (wp_seq ?_); refine wp_seq ?_; refine Z0b (R := Ext) (w0 := w5) [[], [0], [0, 1], [0, 1, 2], rg 4, rg 5, rg 6, rg 7, [0, 1, 2], [0, 1, 2, 8], rg 10, rg 11, rg 12, rg 13, rg 14, rg 15, rg 16, rg 17, rg 18, rg 19, rg 20, rg 21, rg 22, rg 23, rg 24, rg 25, rg 26, rg 27] [5, 6, 7, 8, 9, 10, 11, 12, 13, 14, 15, 16, 17, 18, 19, 20, 21, 22, 23, 24, 25, 26, 27, 28, 29, 30, 31, 32] Ext.refl (fun _ _ _ => Ext.trans) (Ext.drew _) (by kernel_rfl) ?_
 apply bd 5 k rfl rfl rfl; case h =>
  intro ax wx hE hR hF; simp [go_sem, ↓IntWalk.iteOmega, ev (hE.g e2)]
  with_reducible rfl
 refine bd 6 k rfl rfl rfl (fun ax wx hE hR hF => have e5 := zhF hF 0 5 ml0; Z08 (OwnT.ext O hR) 1 rfl rfl e5 rfl Try.underlying4 rfl) ?_
 refine bd 7 k rfl rfl rfl (fun ax wx hE hR hF => have e6 := zhF hF 1 6 ml0; Z02 rfl e6) ?_
 apply bdg 8 k rfl rfl rfl rfl; case h =>
  intro ax wx hE hR hF; have e7 := zhF hF 2 7 ml0; refine ⟨e7, ?_⟩; simp [go_sem, ↓IntWalk.iteOmega, ev (hE.g e3)]
  with_reducible rfl
 refine bdg 9 k rfl rfl rfl rfl (fun ax wx hE hR hF => have e8 := zhF hF 3 8 ml0; have e7 := zhF hF 2 7 ml1; ⟨e7, Z08 (OwnT.ext O hR) 0 rfl rfl e8 rfl Try.underlying44 rfl⟩) ?_
 apply bdg 10 k rfl rfl rfl rfl; case h =>
  intro ax wx hE hR hF; have e9 := zhF hF 4 9 ml0; have e7 := zhF hF 2 7 ml2; refine ⟨e7, ?_⟩; simp [go_sem, ↓IntWalk.iteOmega, ev e9]
  with_reducible rfl
 apply bdg 11 k rfl rfl rfl rfl; case h =>
  intro ax wx hE hR hF; have e10 := zhF hF 5 10 ml0; have e7 := zhF hF 2 7 ml3; refine ⟨e7, ?_⟩; simp [go_sem, ↓IntWalk.iteOmega, ev e10]
  with_reducible rfl
 apply bdg 12 k rfl rfl rfl rfl; case h =>
  intro ax wx hE hR hF; have e11 := zhF hF 6 11 ml0; have e7 := zhF hF 2 7 ml4; refine ⟨e7, ?_⟩; have ck : wx.cell? ⟨gv, o, none⟩ = some (.int .u64 (keyAt xs 0 : Nat)) := by have := Z31 hrow (OwnT.ext O hR).below (z := 0) hne; simpa using this
  simp [go_sem, ↓IntWalk.iteOmega, ev e11, ck]
  with_reducible rfl
 apply bdg 13 k rfl rfl rfl rfl; case h =>
  intro ax wx hE hR hF; have e7 := zhF hF 2 7 ml5; refine ⟨e7, ?_⟩; simp [go_sem, ↓IntWalk.iteOmega, ev (hE.g e2)]
  with_reducible rfl
 refine bdg 14 k rfl rfl rfl rfl (fun ax wx hE hR hF => have e13 := zhF hF 8 13 ml0; have e7 := zhF hF 2 7 ml6; ⟨e7, Z08 (OwnT.ext O hR) 1 rfl rfl e13 rfl Try.underlying71 rfl⟩) ?_
 refine bdg 15 k rfl rfl rfl rfl (fun ax wx hE hR hF => have e12 := zhF hF 7 12 ml2; have e14 := zhF hF 9 14 ml0; have e7 := zhF hF 2 7 ml7; ⟨e7, Z05 (Z0q rfl e12 e14) (decide_eq_false (fun h => h (by rw [hf])))⟩) ?_
 refine bd 16 k rfl rfl rfl (fun ax wx hE hR hF => have e7 := zhF hF 2 7 ml8; have e15 := zhF hF 10 15 ml0; Z0n rfl e7 e15) ?_
 refine bd 17 k rfl rfl rfl (fun ax wx hE hR hF => have e16 := zhF hF 11 16 ml0; Z02 rfl e16) ?_
 apply bdg 18 k rfl rfl rfl rfl; case h =>
  intro ax wx hE hR hF; have e17 := zhF hF 12 17 ml0; refine ⟨e17, ?_⟩; simp [go_sem, ↓IntWalk.iteOmega, ev (hE.g e2)]
  with_reducible rfl
 refine bdg 19 k rfl rfl rfl rfl (fun ax wx hE hR hF => have e18 := zhF hF 13 18 ml0; have e17 := zhF hF 12 17 ml1; ⟨e17, Z08 (OwnT.ext O hR) 1 rfl rfl e18 rfl Try.underlying4 rfl⟩) ?_
 refine bdg 20 k rfl rfl rfl rfl (fun ax wx hE hR hF => have e19 := zhF hF 14 19 ml0; have e17 := zhF hF 12 17 ml2; ⟨e17, Z2a rfl e19⟩) ?_
 refine bdg 21 k rfl rfl rfl rfl (fun ax wx hE hR hF => have e20 := zhF hF 15 20 ml0; have e17 := zhF hF 12 17 ml3; ⟨e17, Z02 rfl e20⟩) ?_
 refine bsk 22 k rfl rfl rfl rfl (fun hF => zhF hF 16 21 ml0) ?_
 refine bsk 23 k rfl rfl rfl rfl (fun hF => zhF hF 16 21 ml1) ?_
 refine bsk 24 k rfl rfl rfl rfl (fun hF => zhF hF 16 21 ml2) ?_
 refine bdg 25 k rfl rfl rfl rfl (fun ax wx hE hR hF => have e21 := zhF hF 16 21 ml3; have e24 := zhF hF 19 24 ml0; have e17 := zhF hF 12 17 ml7; ⟨e17, Z07 rfl e21 rfl⟩) ?_
 refine bdg 26 k rfl rfl rfl rfl (fun ax wx hE hR hF => have e25 := zhF hF 20 25 ml0; have e17 := zhF hF 12 17 ml8; ⟨e17, Z02 rfl e25⟩) ?_
 refine bsk 27 k rfl rfl rfl rfl (fun hF => zhF hF 21 26 ml0) ?_
 refine bsk 28 k rfl rfl rfl rfl (fun hF => zhF hF 21 26 ml1) ?_
 refine bsk 29 k rfl rfl rfl rfl (fun hF => zhF hF 21 26 ml2) ?_
 refine bsk 30 k rfl rfl rfl rfl (fun hF => zhF hF 21 26 ml3) ?_
 refine bdg 31 k rfl rfl rfl rfl (fun ax wx hE hR hF => have e26 := zhF hF 21 26 ml4; have e30 := zhF hF 25 30 ml0; have e17 := zhF hF 12 17 ml13; ⟨e17, Z07 rfl e26 rfl⟩) ?_
 refine bd 32 k rfl rfl rfl (fun ax wx hE hR hF => have e17 := zhF hF 12 17 ml14; have e31 := zhF hF 26 31 ml0; Z07 rfl e17 e31) ?_
 apply Build.stop
 refine ⟨by kernel_rfl, .inl ⟨rfl, ?_⟩⟩
 intro a7 w8 hE R hF; have e32 : a7.eval (.tmp 32) = _ := hF 27 (det 32 _) ml0
 clear hF; replace O := OwnT.ext O R; clear R; replace e2 := hE.g e2; replace e3 := hE.g e3; replace k := k.env hE; clear hE; refine Z00 ?_; refine Z06 e32 rfl ?_
 refine wp_skip ?_; refine Z00 (wp_seq ?_); refine Z0b (R := Ext) (w0 := w8) [[], [0], [0, 1], [0, 1, 2], rg 4, rg 5, rg 4, [0, 1, 2, 3, 6], [0, 1, 2, 3, 6, 7], [0, 1, 2, 3, 6, 7, 8], rg 10, rg 11, rg 12, rg 4, [0, 1, 2, 3, 13], rg 15, rg 16, rg 17] [33, 34, 35, 36, 37, 38, 39, 40, 41, 42, 43, 44, 45, 46, 47, 48, 49, 4] Ext.refl (fun _ _ _ => Ext.trans) (Ext.drew _) (by kernel_rfl) ?_
 apply bd 33 k rfl rfl rfl; case h =>
  intro ax wx hE hR hF; simp [go_sem, ↓IntWalk.iteOmega, ev (hE.g e2)]
  with_reducible rfl
 refine bd 34 k rfl rfl rfl (fun ax wx hE hR hF => have e33 := zhF hF 0 33 ml0; Z08 (OwnT.ext O hR) 1 rfl rfl e33 rfl Try.underlying4 rfl) ?_
 refine bd 35 k rfl rfl rfl (fun ax wx hE hR hF => have e34 := zhF hF 1 34 ml0; Z2a rfl e34) ?_
 refine bd 36 k rfl rfl rfl (fun ax wx hE hR hF => have e35 := zhF hF 2 35 ml0; Z02 rfl e35) ?_
 refine bsk 37 k rfl rfl rfl rfl (fun hF => zhF hF 3 36 ml0) ?_
 refine bsk 38 k rfl rfl rfl rfl (fun hF => zhF hF 3 36 ml1) ?_
 refine bsk 39 k rfl rfl rfl rfl (fun hF => zhF hF 3 36 ml2) ?_
 refine bsk 40 k rfl rfl rfl rfl (fun hF => zhF hF 3 36 ml3) ?_
 refine bsk 41 k rfl rfl rfl rfl (fun hF => zhF hF 3 36 ml4) ?_
 refine bsk 42 k rfl rfl rfl rfl (fun hF => zhF hF 3 36 ml5) ?_
 refine bsk 43 k rfl rfl rfl rfl (fun hF => zhF hF 3 36 ml6) ?_
 refine bsk 44 k rfl rfl rfl rfl (fun hF => zhF hF 3 36 ml7) ?_
 refine bsk 45 k rfl rfl rfl rfl (fun hF => zhF hF 3 36 ml8) ?_
 refine bsk 46 k rfl rfl rfl rfl (fun hF => zhF hF 3 36 ml9) ?_
 refine bsk 47 k rfl rfl rfl rfl (fun hF => zhF hF 3 36 ml10) ?_
 refine bsk 48 k rfl rfl rfl rfl (fun hF => zhF hF 3 36 ml11) ?_
 refine bd 49 k rfl rfl rfl (fun ax wx hE hR hF => have e36 := zhF hF 3 36 ml12; have e48 := zhF hF 15 48 ml0; Z0n rfl e36 rfl) ?_
 refine bd 4 k rfl rfl rfl (fun ax wx hE hR hF => have e49 := zhF hF 16 49 ml0; Z01 rfl e49) ?_
 apply Build.stop
 refine ⟨by kernel_rfl, .inl ⟨rfl, ?_⟩⟩
 intro a9 w10 hE R hF; have e4 : a9.eval (.tmp 4) = _ := hF 17 (det 4 _) ml0
 clear hF; replace O := OwnT.ext O R; clear R; replace k := k.env hE; clear hE e2 e3 e32; refine Z00 ?_; refine wp_ret ?_
 refine Z0v rfl k e4 ?_
 exact ⟨rfl, O.below⟩
set_option maxRecDepth 100000 in
set_option maxHeartbeats 4000000 in
theorem rightly_fh {gv o cap f0 h0 l : Nat} {xs : List Pr} (W0 : World) (hrow : Row W0 (some ⟨gv, o, none⟩) 2 pairC xs) (hne : 0 < xs.length) (h15 : xs.length ≤ 15) (hf : keyAt xs 0 = f0) (hh : keyAt xs (xs.length - 1) < h0) : Calls Try.prog 117 #[.agg #[.int .u64 ↑f0, .bool true, .int .u64 ↑h0, .bool true], .agg #[.int .i64 l, .slice (some ⟨gv, o, none⟩) xs.length cap]] W0 fun e w' => e = .returned (.bool true) ∧ Ext W0 w' := by
 have O := OwnT.start W0
 have hnI : (0 : Int) < (xs.length : Int) := by omega
 have hn1I : ((xs.length - 1 : Nat) : Int) < (xs.length : Int) := by omega
 refine Z0a Try.func117 rfl 50 rfl (by rfl) ?_
 intro a1 k hargs; have e0 : a1.eval (.tmp 0) = .agg #[.int .u64 ↑f0, .bool true, .int .u64 ↑h0, .bool true] := hargs 0 _ rfl
 have e1 : a1.eval (.tmp 1) = .agg #[.int .i64 ↑l, .slice (some ⟨gv, o, none⟩) xs.length cap] := hargs 1 _ rfl
 clear hargs; refine wp_seq ?_; refine wp_region_lit ?_
 have hE := Env.refl a1 [2, 3, 4]; refine Z0k O (cs := #[.int .u64 ↑f0, .bool true, .int .u64 ↑h0, .bool true]) (t := 179) 2 hE k rfl (by rfl) (by rfl) rfl (by simp [go_sem, ↓IntWalk.iteOmega, ev (hE.g e0)]) ?_
 clear O; intro bb a2 w3 O hE e2 kp; refine Z0k O (cs := #[.int .i64 ↑l, .slice (some ⟨gv, o, none⟩) xs.length cap]) (t := 46) 3 hE k rfl (by rfl) (by rfl) rfl (by simp [go_sem, ↓IntWalk.iteOmega, ev (hE.g e1)]) ?_
 clear O; intro lb a4 w5 O hE e3 kp; replace e2 := kt kp e2; refine sd 4 hE k (Z01 rfl rfl) ?_; intro a6 hE e4 kp; replace e2 := kt kp e2; replace e3 := kt kp e3; refine wpList_nil ?_; replace k := k.env hE; clear hE e0 e1 e4; refine Z00 (wp_seq ?_); refine wp_seq ?_; refine Z0b (R := Ext) (w0 := w5) [[], [0], [0, 1], [0, 1, 2], rg 4, rg 5, rg 6, rg 7, [0, 1, 2], [0, 1, 2, 8], rg 10, rg 11, rg 12, rg 13, rg 14, rg 15, rg 16, rg 17, rg 18, rg 19, rg 20, rg 21, rg 22, rg 23, rg 24, rg 25, rg 26, rg 27] [5, 6, 7, 8, 9, 10, 11, 12, 13, 14, 15, 16, 17, 18, 19, 20, 21, 22, 23, 24, 25, 26, 27, 28, 29, 30, 31, 32] Ext.refl (fun _ _ _ => Ext.trans) (Ext.drew _) (by kernel_rfl) ?_
 apply bd 5 k rfl rfl rfl; case h =>
  intro ax wx hE hR hF; simp [go_sem, ↓IntWalk.iteOmega, ev (hE.g e2)]
  with_reducible rfl
 refine bd 6 k rfl rfl rfl (fun ax wx hE hR hF => have e5 := zhF hF 0 5 ml0; Z08 (OwnT.ext O hR) 1 rfl rfl e5 rfl Try.underlying4 rfl) ?_
 refine bd 7 k rfl rfl rfl (fun ax wx hE hR hF => have e6 := zhF hF 1 6 ml0; Z02 rfl e6) ?_
 apply bdg 8 k rfl rfl rfl rfl; case h =>
  intro ax wx hE hR hF; have e7 := zhF hF 2 7 ml0; refine ⟨e7, ?_⟩; simp [go_sem, ↓IntWalk.iteOmega, ev (hE.g e3)]
  with_reducible rfl
 refine bdg 9 k rfl rfl rfl rfl (fun ax wx hE hR hF => have e8 := zhF hF 3 8 ml0; have e7 := zhF hF 2 7 ml1; ⟨e7, Z08 (OwnT.ext O hR) 0 rfl rfl e8 rfl Try.underlying44 rfl⟩) ?_
 apply bdg 10 k rfl rfl rfl rfl; case h =>
  intro ax wx hE hR hF; have e9 := zhF hF 4 9 ml0; have e7 := zhF hF 2 7 ml2; refine ⟨e7, ?_⟩; simp [go_sem, ↓IntWalk.iteOmega, ev e9]
  with_reducible rfl
 apply bdg 11 k rfl rfl rfl rfl; case h =>
  intro ax wx hE hR hF; have e10 := zhF hF 5 10 ml0; have e7 := zhF hF 2 7 ml3; refine ⟨e7, ?_⟩; simp [go_sem, ↓IntWalk.iteOmega, ev e10]
  with_reducible rfl
 apply bdg 12 k rfl rfl rfl rfl; case h =>
  intro ax wx hE hR hF; have e11 := zhF hF 6 11 ml0; have e7 := zhF hF 2 7 ml4; refine ⟨e7, ?_⟩; have ck : wx.cell? ⟨gv, o, none⟩ = some (.int .u64 (keyAt xs 0 : Nat)) := by have := Z31 hrow (OwnT.ext O hR).below (z := 0) hne; simpa using this
  simp [go_sem, ↓IntWalk.iteOmega, ev e11, ck]
  with_reducible rfl
 apply bdg 13 k rfl rfl rfl rfl; case h =>
  intro ax wx hE hR hF; have e7 := zhF hF 2 7 ml5; refine ⟨e7, ?_⟩; simp [go_sem, ↓IntWalk.iteOmega, ev (hE.g e2)]
  with_reducible rfl
 refine bdg 14 k rfl rfl rfl rfl (fun ax wx hE hR hF => have e13 := zhF hF 8 13 ml0; have e7 := zhF hF 2 7 ml6; ⟨e7, Z08 (OwnT.ext O hR) 1 rfl rfl e13 rfl Try.underlying71 rfl⟩) ?_
 refine bdg 15 k rfl rfl rfl rfl (fun ax wx hE hR hF => have e12 := zhF hF 7 12 ml2; have e14 := zhF hF 9 14 ml0; have e7 := zhF hF 2 7 ml7; ⟨e7, Z05 (Z0q rfl e12 e14) (decide_eq_false (fun h => h (by rw [hf])))⟩) ?_
 refine bd 16 k rfl rfl rfl (fun ax wx hE hR hF => have e7 := zhF hF 2 7 ml8; have e15 := zhF hF 10 15 ml0; Z0n rfl e7 e15) ?_
 refine bd 17 k rfl rfl rfl (fun ax wx hE hR hF => have e16 := zhF hF 11 16 ml0; Z02 rfl e16) ?_
 apply bdg 18 k rfl rfl rfl rfl; case h =>
  intro ax wx hE hR hF; have e17 := zhF hF 12 17 ml0; refine ⟨e17, ?_⟩; simp [go_sem, ↓IntWalk.iteOmega, ev (hE.g e2)]
  with_reducible rfl
 refine bdg 19 k rfl rfl rfl rfl (fun ax wx hE hR hF => have e18 := zhF hF 13 18 ml0; have e17 := zhF hF 12 17 ml1; ⟨e17, Z08 (OwnT.ext O hR) 1 rfl rfl e18 rfl Try.underlying4 rfl⟩) ?_
 refine bdg 20 k rfl rfl rfl rfl (fun ax wx hE hR hF => have e19 := zhF hF 14 19 ml0; have e17 := zhF hF 12 17 ml2; ⟨e17, Z2a rfl e19⟩) ?_
 refine bdg 21 k rfl rfl rfl rfl (fun ax wx hE hR hF => have e20 := zhF hF 15 20 ml0; have e17 := zhF hF 12 17 ml3; ⟨e17, Z02 rfl e20⟩) ?_
 refine bsk 22 k rfl rfl rfl rfl (fun hF => zhF hF 16 21 ml0) ?_
 refine bsk 23 k rfl rfl rfl rfl (fun hF => zhF hF 16 21 ml1) ?_
 refine bsk 24 k rfl rfl rfl rfl (fun hF => zhF hF 16 21 ml2) ?_
 refine bdg 25 k rfl rfl rfl rfl (fun ax wx hE hR hF => have e21 := zhF hF 16 21 ml3; have e24 := zhF hF 19 24 ml0; have e17 := zhF hF 12 17 ml7; ⟨e17, Z07 rfl e21 rfl⟩) ?_
 refine bdg 26 k rfl rfl rfl rfl (fun ax wx hE hR hF => have e25 := zhF hF 20 25 ml0; have e17 := zhF hF 12 17 ml8; ⟨e17, Z02 rfl e25⟩) ?_
 refine bsk 27 k rfl rfl rfl rfl (fun hF => zhF hF 21 26 ml0) ?_
 refine bsk 28 k rfl rfl rfl rfl (fun hF => zhF hF 21 26 ml1) ?_
 refine bsk 29 k rfl rfl rfl rfl (fun hF => zhF hF 21 26 ml2) ?_
 refine bsk 30 k rfl rfl rfl rfl (fun hF => zhF hF 21 26 ml3) ?_
 refine bdg 31 k rfl rfl rfl rfl (fun ax wx hE hR hF => have e26 := zhF hF 21 26 ml4; have e30 := zhF hF 25 30 ml0; have e17 := zhF hF 12 17 ml13; ⟨e17, Z07 rfl e26 rfl⟩) ?_
 refine bd 32 k rfl rfl rfl (fun ax wx hE hR hF => have e17 := zhF hF 12 17 ml14; have e31 := zhF hF 26 31 ml0; Z07 rfl e17 e31) ?_
 apply Build.stop
 refine ⟨by kernel_rfl, .inl ⟨rfl, ?_⟩⟩
 intro a7 w8 hE R hF; have e32 : a7.eval (.tmp 32) = _ := hF 27 (det 32 _) ml0
 clear hF; replace O := OwnT.ext O R; clear R; replace e2 := hE.g e2; replace e3 := hE.g e3; replace k := k.env hE; clear hE; refine Z00 ?_; refine Z06 e32 rfl ?_
 refine wp_skip ?_; refine Z00 (wp_seq ?_); refine Z0b (R := Ext) (w0 := w8) [[], [0], [0, 1], [0, 1, 2], rg 4, rg 5, rg 4, [0, 1, 2, 3, 6], [0, 1, 2, 3, 6, 7], [0, 1, 2, 3, 6, 7, 8], rg 10, rg 11, rg 12, rg 4, [0, 1, 2, 3, 13], rg 15, rg 16, rg 17] [33, 34, 35, 36, 37, 38, 39, 40, 41, 42, 43, 44, 45, 46, 47, 48, 49, 4] Ext.refl (fun _ _ _ => Ext.trans) (Ext.drew _) (by kernel_rfl) ?_
 apply bd 33 k rfl rfl rfl; case h =>
  intro ax wx hE hR hF; simp [go_sem, ↓IntWalk.iteOmega, ev (hE.g e2)]
  with_reducible rfl
 refine bd 34 k rfl rfl rfl (fun ax wx hE hR hF => have e33 := zhF hF 0 33 ml0; Z08 (OwnT.ext O hR) 1 rfl rfl e33 rfl Try.underlying4 rfl) ?_
 refine bd 35 k rfl rfl rfl (fun ax wx hE hR hF => have e34 := zhF hF 1 34 ml0; Z2a rfl e34) ?_
 refine bd 36 k rfl rfl rfl (fun ax wx hE hR hF => have e35 := zhF hF 2 35 ml0; Z02 rfl e35) ?_
 apply bdg 37 k rfl rfl rfl rfl; case h =>
  intro ax wx hE hR hF; have e36 := zhF hF 3 36 ml0; refine ⟨e36, ?_⟩; simp [go_sem, ↓IntWalk.iteOmega, ev (hE.g e3)]
  with_reducible rfl
 refine bdg 38 k rfl rfl rfl rfl (fun ax wx hE hR hF => have e37 := zhF hF 4 37 ml0; have e36 := zhF hF 3 36 ml1; ⟨e36, Z08 (OwnT.ext O hR) 0 rfl rfl e37 rfl Try.underlying44 rfl⟩) ?_
 apply bdg 39 k rfl rfl rfl rfl; case h =>
  intro ax wx hE hR hF; have e36 := zhF hF 3 36 ml2; refine ⟨e36, ?_⟩; simp [go_sem, ↓IntWalk.iteOmega, ev (hE.g e3)]
  with_reducible rfl
 refine bdg 40 k rfl rfl rfl rfl (fun ax wx hE hR hF => have e39 := zhF hF 6 39 ml0; have e36 := zhF hF 3 36 ml3; ⟨e36, Z08 (OwnT.ext O hR) 0 rfl rfl e39 rfl Try.underlying44 rfl⟩) ?_
 refine bdg 41 k rfl rfl rfl rfl (fun ax wx hE hR hF => have e40 := zhF hF 7 40 ml0; have e36 := zhF hF 3 36 ml4; ⟨e36, Z0j Try.underlying44 rfl e40⟩) ?_
 refine bdg 42 k rfl rfl rfl rfl (fun ax wx hE hR hF => have e41 := zhF hF 8 41 ml0; have e36 := zhF hF 3 36 ml5; ⟨e36, Z1c (v := .int .i64 ((xs.length - 1 : Nat) : Int)) (Z5q rfl e41 rfl (by omega)) (Z0s (by omega))⟩) ?_
 apply bdg 43 k rfl rfl rfl rfl; case h =>
  intro ax wx hE hR hF; have e38 := zhF hF 5 38 ml4; have e42 := zhF hF 9 42 ml0; have e36 := zhF hF 3 36 ml6; refine ⟨e36, ?_⟩; simp [go_sem, ↓IntWalk.iteOmega, ev e38, ev e42]
  with_reducible rfl
 apply bdg 44 k rfl rfl rfl rfl; case h =>
  intro ax wx hE hR hF; have e43 := zhF hF 10 43 ml0; have e36 := zhF hF 3 36 ml7; refine ⟨e36, ?_⟩; simp [go_sem, ↓IntWalk.iteOmega, ev e43]
  with_reducible rfl
 apply bdg 45 k rfl rfl rfl rfl; case h =>
  intro ax wx hE hR hF; have e44 := zhF hF 11 44 ml0; have e36 := zhF hF 3 36 ml8; refine ⟨e36, ?_⟩; have ck := Z31 hrow (OwnT.ext O hR).below (z := xs.length - 1) (by omega)
  simp [go_sem, ↓IntWalk.iteOmega, ev e44, ck]
  with_reducible rfl
 apply bdg 46 k rfl rfl rfl rfl; case h =>
  intro ax wx hE hR hF; have e36 := zhF hF 3 36 ml9; refine ⟨e36, ?_⟩; simp [go_sem, ↓IntWalk.iteOmega, ev (hE.g e2)]
  with_reducible rfl
 refine bdg 47 k rfl rfl rfl rfl (fun ax wx hE hR hF => have e46 := zhF hF 13 46 ml0; have e36 := zhF hF 3 36 ml10; ⟨e36, Z08 (OwnT.ext O hR) 1 rfl rfl e46 rfl Try.underlying71 rfl⟩) ?_
 refine bdg 48 k rfl rfl rfl rfl (fun ax wx hE hR hF => have e45 := zhF hF 12 45 ml2; have e47 := zhF hF 14 47 ml0; have e36 := zhF hF 3 36 ml11; ⟨e36, Z05 (Z1d rfl e45 e47) (decide_eq_true (by omega))⟩) ?_
 refine bd 49 k rfl rfl rfl (fun ax wx hE hR hF => have e36 := zhF hF 3 36 ml12; have e48 := zhF hF 15 48 ml0; Z07 rfl e36 e48) ?_
 refine bd 4 k rfl rfl rfl (fun ax wx hE hR hF => have e49 := zhF hF 16 49 ml0; Z01 rfl e49) ?_
 apply Build.stop
 refine ⟨by kernel_rfl, .inl ⟨rfl, ?_⟩⟩
 intro a9 w10 hE R hF; have e4 : a9.eval (.tmp 4) = _ := hF 17 (det 4 _) ml0
 clear hF; replace O := OwnT.ext O R; clear R; replace k := k.env hE; clear hE e2 e3 e32; refine Z00 ?_; refine wp_ret ?_
 refine Z0v rfl k e4 ?_
 exact ⟨rfl, O.below⟩
end Go.Proofs.Ytbfgacmfjfbooaa
