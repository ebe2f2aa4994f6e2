/- store's law: StoreExact (printed by XStX.gen.py). -/
import Derived.Test.YtakkhglbdljfiaaGreatDoorKStoreExact23
namespace Go.Proofs.YtakkhglbdljfiaaGreatDoor
attribute [local simp] BigFrame.eval_const BigFrame.eval_global BigFrame.eval_func
set_option linter.unusedVariables false
set_option linter.unusedSimpArgs false
open Go.RowKit Go.Maps

/-- What holds of both, behind i deeds. -/
structure St7 (Nn i : Nat) (h : Hd) (o : Nat) (K : Int → Bool) (F : Int → Option Nd) (m : Int → Option Value) (vs : List Value) (N : List Nd) (S : List Sec) (M : Mn) (T : Int → Value) (us : List Value) (QN : List Nd) : Prop where
 hd : HeadsAt S h o
 g1 : 1 ≤ h.g
 g2 : h.g ≤ i + 1
 ok : StOk (pgs Nn) K F vs N m
 ap : ∀ c, K c = true → F c = none
 rel : Rel7 (pgs Nn) K F S T us QN
 mok : M.Ok (100 + 10000 * (i : Int))
 free : M.Free
theorem St7.next {Nn i : Nat} {h : Hd} {o : Nat} {K : Int → Bool} {F : Int → Option Nd} {m : Int → Option Value} {vs : List Value} {N : List Nd} {S : List Sec} {M : Mn} {T : Int → Value} {us : List Value} {QN : List Nd} (s : St7 Nn i h o K F m vs N S M T us QN) : St7 Nn (i + 1) h o K F m vs N S M T us QN :=
 ⟨s.hd, s.g1, by have := s.g2; omega, s.ok, s.ap, s.rel, s.mok.mono (by omega), s.free⟩
theorem pgs_of {Nn p : Nat} (h : Nn = 16 * p + 3) (hp : p ≤ 512) : pgs Nn = p := by unfold pgs; omega

set_option maxRecDepth 100000 in
set_option maxHeartbeats 8000000 in
theorem Z4x {A : Option Addr} {n1 c1 : Nat} (x0 : Int) (xs : List ActD) (W0 : World) (hl1 : xs.length = n1) (hn1 : n1 ≤ maxLen) (hls : ∀ x ∈ xs, Row1 W0 x.A (Value.int .i64) x.ls) (hrow : Row W0 A 4 actC xs) : Calls Tryz.prog 3 #[.int .i64 x0, .slice A n1 c1] W0 fun e w' => e = .returned (.bool true) ∧ Below W0.heap.size W0 w' := by
 have O := OwnT.start W0
 refine Z0c Tryz.func3 rfl 281 rfl (by rfl) ?_
 intro a1 k hargs; have e0 : a1.eval (.tmp 0) = .int .i64 x0 := hargs 0 _ rfl
 have e1 : a1.eval (.tmp 1) = .slice A n1 c1 := hargs 1 _ rfl
 clear hargs; obtain ⟨pn, hpn⟩ : ∃ z, z = 2 + uN x0 % 11 := ⟨_, rfl⟩
 obtain ⟨Nn, hNn⟩ : ∃ z, z = 16 * pn + 3 := ⟨_, rfl⟩
 have hpg := pgs_of hNn (by omega)
 have hPb : 1 ≤ pgs Nn ∧ pgs Nn ≤ 512 := by rw [hpg]; omega
 have hP2 : 2 ≤ pgs Nn ∧ pgs Nn ≤ 12 := by rw [hpg]; omega

 refine wp_seq ?_; refine wp_region_lit ?_
 have hE := Env.refl a1 [4]; refine sd 4 hE k (Z01 rfl rfl) ?_; intro a2 hE e4 kp; refine wpList_nil ?_; replace e0 := hE.g e0; replace e1 := hE.g e1; replace k := k.env hE; clear hE e4; refine Z00 (wp_seq ?_); refine wp_seq ?_; refine wp_region_lit ?_
 have hE := Env.refl a2 [25, 26]; apply Z06 25 hE k rfl (by rfl) (by rfl) rfl
 case h =>
  simp [go_sem, ↓IntWalk.iteOmega]
  with_reducible exact ⟨rfl, rfl⟩
 case hc => exact awake07 _
 rintro e w4 ⟨rfl, RE⟩
 replace O := OwnT.ext O RE; refine ⟨_, rfl, ?_⟩
 intro a3 hE e25 kp; refine sd 26 hE k (Z15 rfl e25) ?_; intro a5 hE e26 kp; refine wpList_nil ?_; replace e0 := hE.g e0; replace e1 := hE.g e1; replace k := k.env hE; clear hE; refine Z00 ?_; refine Z07 e26 rfl ?_
 refine wp_skip ?_; refine Z00 (wp_seq ?_); refine wp_region_lit ?_
 have hE := Env.refl a5 [27, 5]; apply Z06 27 hE k rfl (by rfl) (by rfl) rfl
 case h =>
  simp [go_sem, ↓IntWalk.iteOmega]
  with_reducible exact ⟨rfl, rfl⟩
 case hc => exact new_mn O
 clear O; rintro e w7 ⟨mb, rfl, O⟩
 refine ⟨_, rfl, ?_⟩
 intro a6 hE e27 kp; refine sd 5 hE k (Z01 rfl e27) ?_; intro a8 hE e5 kp; refine wpList_nil ?_; replace e0 := hE.g e0; replace e1 := hE.g e1; replace k := k.env hE; clear hE e26; refine Z00 (wp_seq ?_); refine wp_region_lit ?_
 have hE := Env.refl a8 [28, 29, 30, 31, 32, 6]; refine zm 28 hE k e0 ?_; intro a9 hE e28 kp; refine sd 29 hE k (Z4s rfl e28 (conv_uint x0 _)) ?_; intro a10 hE e29 kp; refine sd 30 hE k (x_remU (m := uN x0) (j := 11) rfl e29 rfl rfl (by decide)) ?_; intro a11 hE e30 kp; refine sd 31 hE k (Z4s rfl e30 (conv_int _ _ (by omega))) ?_
 intro a12 hE e31 kp; refine sd 32 hE k (Z1i rfl rfl e31 (by omega)) ?_; intro a13 hE e32 kp; replace e32 := e32.trans (Z10 (show (2 : Int) + ((uN x0 % 11 : Nat) : Int) = ((pgs Nn : Nat) : Int) by rw [hpg]; omega))
 refine sd 6 hE k (Z01 rfl e32) ?_; intro a14 hE e6 kp; refine wpList_nil ?_; replace e1 := hE.g e1; replace e5 := hE.g e5; replace k := k.env hE; clear hE e0; refine Z00 (wp_seq ?_); refine wp_region_lit ?_
 have hE := Env.refl a14 [34, 35, 36, 37, 38, 39, 40, 33, 41, 42, 7, 8]; refine zm 34 hE k e5 ?_; intro a15 hE e34 kp; refine zm 35 hE k e6 ?_; intro a16 hE e35 kp; replace e34 := kt kp e34; refine sd 36 hE k (x_mul rfl e35 rfl (by omega)) ?_; intro a17 hE e36 kp; replace e34 := kt kp e34; refine sd 37 hE k (Z1i rfl e36 rfl (by omega)) ?_; intro a18 hE e37 kp; replace e34 := kt kp e34; replace e37 := e37.trans (Z10 (show ((pgs Nn : Nat) : Int) * 16 + 3 = (Nn : Int) by rw [hpg]; omega))
 apply Z06 38 hE k rfl (by rfl) (by rfl) rfl
 case h =>
  simp [go_sem, ↓IntWalk.iteOmega, ev e34, ev e37]
  with_reducible exact ⟨rfl, rfl⟩
 case hc => exact dnew_any ↑Nn Nn _ O (by omega)
 clear O; rintro e w20 ⟨p, B, cap, bm, rfl, O⟩
 refine ⟨_, rfl, ?_⟩
 intro a19 hE e38 kp; apply Z06 39 hE k rfl (by rfl) (by rfl) rfl
 case h =>
  simp [go_sem, ↓IntWalk.iteOmega]
  with_reducible exact ⟨rfl, rfl⟩
 case hc => exact Z50 _
 rintro e w22 ⟨rfl, RE⟩
 replace O := OwnT.ext O RE; refine ⟨_, rfl, ?_⟩
 intro a21 hE e39 kp; replace e38 := kt kp e38; apply Z06 40 hE k rfl (by rfl) (by rfl) rfl
 case h =>
  simp [go_sem, ↓IntWalk.iteOmega, ev e38, ev e39]
  with_reducible exact ⟨rfl, rfl⟩
 case hc => exact Z49 9 3 4 _ O (by decide) hP2.1 mn0_ok (by decide) mn0_free
 clear O; rintro e w24 ⟨j0, sb, kb, fb, hj0, rfl, O⟩
 refine ⟨_, rfl, ?_⟩
 intro a23 hE e40 kp; refine sd 33 hE k (Z02 rfl e40) ?_; intro a25 hE e33 kp; apply Z03 41 hE k rfl rfl rfl rfl; case h =>
  simp [go_sem, ↓IntWalk.iteOmega, ev e33]
  with_reducible rfl
 intro a26 hE e41 kp; replace e33 := kt kp e33; apply Z03 42 hE k rfl rfl rfl rfl; case h =>
  simp [go_sem, ↓IntWalk.iteOmega, ev e33]
  with_reducible rfl
 intro a27 hE e42 kp; replace e41 := kt kp e41; refine sd 7 hE k (Z01 rfl e41) ?_; intro a28 hE e7 kp; replace e42 := kt kp e42; refine sd 8 hE k (Z01 rfl e42) ?_; intro a29 hE e8 kp; replace e7 := kt kp e7; refine wpList_nil ?_; replace e1 := hE.g e1; replace e6 := hE.g e6; replace k := k.env hE; clear hE e5; refine Z00 (wp_seq ?_); refine wp_seq ?_; refine wp_region_lit ?_
 have hE := Env.refl a29 [43, 44, 45, 46, 47, 48]; refine zm 43 hE k e8 ?_; intro a30 hE e43 kp; refine sd 44 hE k (Z08 (Z0x rfl e43 rfl) (decide_eq_false (by omega))) ?_
 intro a31 hE e44 kp; refine sd 45 hE k (Z02 rfl e44) ?_; intro a32 hE e45 kp; apply Z04 46 hE k rfl rfl rfl rfl rfl e45
 case h =>
  exact Z02 rfl (hE.g e7)
 intro a33 hE e46 kp; replace e45 := kt kp e45; apply Z04 47 hE k rfl rfl rfl rfl rfl e45
 case h =>
  simp [go_sem, ↓IntWalk.iteOmega, ev e46]
  with_reducible rfl
 intro a34 hE e47 kp; replace e45 := kt kp e45; refine sd 48 hE k (Z09 rfl e45 e47) ?_; intro a35 hE e48 kp; refine wpList_nil ?_; replace e1 := hE.g e1; replace e6 := hE.g e6; replace e7 := hE.g e7; replace k := k.env hE; clear hE e8; refine Z00 ?_; refine Z07 e48 rfl ?_
 refine wp_skip ?_; refine Z00 (wp_seq ?_); refine wp_region_lit ?_
 have hE := Env.refl a35 [49, 50, 51, 52, 9]; refine zm 49 hE k e6 ?_; intro a36 hE e49 kp; apply Z06 50 hE k rfl (by rfl) (by rfl) rfl
 case h =>
  simp [go_sem, ↓IntWalk.iteOmega]
  with_reducible exact ⟨rfl, rfl⟩
 case hc => exact Z50 _
 rintro e w38 ⟨rfl, RE⟩
 replace O := OwnT.ext O RE; refine ⟨_, rfl, ?_⟩
 intro a37 hE e50 kp; replace e49 := kt kp e49; apply Z03 51 hE k rfl rfl rfl rfl; case h =>
  simp [go_sem, ↓IntWalk.iteOmega, ev e50]
  with_reducible rfl
 intro a39 hE e51 kp; replace e49 := kt kp e49; apply Z06 52 hE k rfl (by rfl) (by rfl) rfl
 case h =>
  simp [go_sem, ↓IntWalk.iteOmega, ev e49, ev e51]
  with_reducible exact ⟨rfl, rfl⟩
 case hc => exact unew_any (pgs Nn) (fmtHd 9 3 4) _ O hPb.2
 clear O; rintro e w41 ⟨ub, g1, g2, g3, rfl, O⟩
 refine ⟨_, rfl, ?_⟩
 intro a40 hE e52 kp; refine sd 9 hE k (Z01 rfl e52) ?_; intro a42 hE e9 kp; refine wpList_nil ?_; replace e1 := hE.g e1; replace e6 := hE.g e6; replace e7 := hE.g e7; replace k := k.env hE; clear hE e48; refine Z00 ?_; replace O := pool_nil O
 replace O : OwnT _ _ ([tBlk ub 62 (usC (pgs Nn) g1 g2 g3 (fmtHd 9 3 4)), tBlk g1 4 (boA (pgs Nn) ((fun _ => false))), tBlk g2 4 (boA (pgs Nn) ((fun _ => false))), tBlk g3 47 (ndA (pgs Nn) (fun _ => .slice none 0 0)), tBlk sb 102 (stB p ((fmtHd 9 3 4)) 0 kb fb), tMap kb 512 (keptV ((fun _ => false))), tMap fb 512 ((fun _ => none)), tPool ([]) ([]), tDisc p mb B Nn cap bm (fmS (List.replicate Nn zsec) noL (fmtHd 9 3 4)) noL, tMn mb (mn0.useN j0), tPool ([]) ([])]) w41 := OwnT.pick O [1, 2, 3, 4, 5, 6, 7, 8, 9, 10, 0] (by decide)
 refine wp_seq ?_; refine wp_seq ?_; refine wp_region_lit ?_
 have hE := Env.refl a42 [10]; refine sd 10 hE k (Z01 rfl rfl) ?_; intro a43 hE e10 kp; refine wpList_nil ?_; replace e1 := hE.g e1; replace e6 := hE.g e6; replace e7 := hE.g e7; replace e9 := hE.g e9; replace k := k.env hE; clear hE; refine Z00 ?_; refine wp_block ?_; have hh0 : HeadsAt (fmS (List.replicate Nn zsec) noL (fmtHd 9 3 4)) (fmtHd 9 3 4) 0 := heads_fm (by rw [List.length_replicate]; omega) (by decide)
 have ok0 := stok_nil (P := pgs Nn) hPb.2
 have s0 : St7 Nn 0 (fmtHd 9 3 4) 0 (fun _ => false) (fun _ => none) (fun _ => none) [] [] (fmS (List.replicate Nn zsec) noL (fmtHd 9 3 4)) (mn0.useN j0) (fun _ => .slice none 0 0) [] [] := ⟨hh0, by decide, by decide, ok0, fun _ _ => rfl, Rel7.nil, (mn0_ok.useN j0).mono (by omega), mn0_free.useN j0⟩
 refine wp_loop (fun a w => Fr 281 a ∧ a.eval (.tmp 1) = .slice A n1 c1 ∧ a.eval (.tmp 6) = .int .i64 (↑(pgs Nn)) ∧ a.eval (.tmp 7) = .pointer (some ⟨sb, 0, none⟩) ∧ a.eval (.tmp 9) = .pointer (some ⟨ub, 0, none⟩) ∧ ∃ (i : Nat) (h : Hd) (o : Nat) (K : Int → Bool) (F : Int → Option Nd) (m : Int → Option Value) (vs : List Value) (N : List Nd) (S : List Sec) (M : Mn) (T : Int → Value) (us : List Value) (QN : List Nd), a.eval (.tmp 10) = .int .i64 ↑i ∧ i ≤ 40 ∧ St7 Nn i h o K F m vs N S M T us QN ∧ OwnT W0.heap.size W0 ([tBlk ub 62 #[.int .i64 (↑(pgs Nn)), .slice (some ⟨g1, 0, none⟩) ((pgs Nn)) ((pgs Nn)), .slice (some ⟨g2, 0, none⟩) ((pgs Nn)) ((pgs Nn)), .slice (some ⟨g3, 0, none⟩) ((pgs Nn)) ((pgs Nn)), .int .u64 h.g, .int .i64 h.r, .int .i64 h.a, .int .i64 h.b, .int .i64 h.c], tBlk g1 4 (boA (pgs Nn) K), tBlk g2 4 (boA (pgs Nn) (isF F)), tBlk g3 47 (ndA (pgs Nn) T), tBlk sb 102 (stB p h (((o : Nat) : Int)) kb fb), tMap kb 512 (keptV K), tMap fb 512 m, tPool vs N, tDisc p mb B Nn cap bm S noL, tMn mb M, tPool us QN]) w) (fun a w => 40 - (intOf (a.eval (.tmp 10))).toNat) ?_ ?_
 · exact ⟨k, e1, e6, e7, e9, 0, _, _, _, _, _, _, _, _, _, _, _, _, e10, by omega, s0, O⟩
 intro a44 w45 hI; clear k e1 e6 e7 e9; obtain ⟨k, e1, e6, e7, e9, h_⟩ := hI
 clear O e10 s0 ok0 hh0; obtain ⟨i, h, o, K, F, m, vs, N, S, M, T, us, QN, e10, hi, s7, O⟩ := h_
 have mi := e10
 by_cases hlt : i < n1 ∧ i < 40
 rotate_left
 · skip
   by_cases h1 : i < n1
   · skip
     refine wp_seq ?_; refine wp_seq ?_; refine wp_region_lit ?_
     have hE := Env.refl a44 [53, 54, 55, 56, 57, 58, 59, 60]; refine zm 53 hE k e10 ?_; intro a46 hE e53 kp; refine zm 54 hE k e1 ?_; intro a47 hE e54 kp; replace e53 := kt kp e53; refine sd 55 hE k (Z1w Tryz.underlying22 rfl e54) ?_; intro a48 hE e55 kp; replace e53 := kt kp e53; refine sd 56 hE k (Z08 (Z0z rfl e53 e55) (decide_eq_true (by omega))) ?_
     intro a49 hE e56 kp; refine sd 57 hE k (Z02 rfl e56) ?_; intro a50 hE e57 kp; apply Z04 58 hE k rfl rfl rfl rfl rfl e57
     case h =>
      exact Z02 rfl (hE.g e10)
     intro a51 hE e58 kp; replace e57 := kt kp e57; apply Z04 59 hE k rfl rfl rfl rfl rfl e57
     case h =>
      exact Z08 (Z0z rfl e58 rfl) (decide_eq_false (by omega))
     intro a52 hE e59 kp; replace e57 := kt kp e57; refine sd 60 hE k (Z0b rfl e57 e59) ?_; intro a53 hE e60 kp; refine wpList_nil ?_; replace e1 := hE.g e1; replace e6 := hE.g e6; replace e7 := hE.g e7; replace e9 := hE.g e9; replace e10 := hE.g e10; replace k := k.env hE; clear hE; refine Z00 ?_; refine Z07 e60 rfl ?_
     refine wp_exit ?_
     refine Z0p ?_
     refine Z0p ?_
     refine Z11 ?_
     refine Z00 (wp_seq ?_); refine wp_region_lit ?_
     have hE := Env.refl a53 [4]; refine sd 4 hE k (Z01 rfl rfl) ?_; intro a54 hE e4 kp; refine wpList_nil ?_; replace k := k.env hE; clear hE e1 e6 e7 e9 e10 e60; refine Z00 ?_; refine wp_ret ?_
     refine Z0k rfl k e4 ?_
     exact ⟨rfl, O.below⟩
   · skip
     refine wp_seq ?_; refine wp_seq ?_; refine wp_region_lit ?_
     have hE := Env.refl a44 [53, 54, 55, 56, 57, 58, 59, 60]; refine zm 53 hE k e10 ?_; intro a55 hE e53 kp; refine zm 54 hE k e1 ?_; intro a56 hE e54 kp; replace e53 := kt kp e53; refine sd 55 hE k (Z1w Tryz.underlying22 rfl e54) ?_; intro a57 hE e55 kp; replace e53 := kt kp e53; refine sd 56 hE k (Z08 (Z0z rfl e53 e55) (decide_eq_false (by omega))) ?_
     intro a58 hE e56 kp; refine sd 57 hE k (Z02 rfl e56) ?_; intro a59 hE e57 kp; refine Z05 58 hE k rfl (by rfl) (by rfl) rfl rfl (.inl e57) ?_
     intro a60 hE e58 kp; replace e57 := kt kp e57; refine Z05 59 hE k rfl (by rfl) (by rfl) rfl rfl (.inl e57) ?_
     intro a61 hE e59 kp; replace e57 := kt kp e57; refine sd 60 hE k (Z09 rfl e57 rfl) ?_; intro a62 hE e60 kp; refine wpList_nil ?_; replace e1 := hE.g e1; replace e6 := hE.g e6; replace e7 := hE.g e7; replace e9 := hE.g e9; replace e10 := hE.g e10; replace k := k.env hE; clear hE; refine Z00 ?_; refine Z07 e60 rfl ?_
     refine wp_exit ?_
     refine Z0p ?_
     refine Z0p ?_
     refine Z11 ?_
     refine Z00 (wp_seq ?_); refine wp_region_lit ?_
     have hE := Env.refl a62 [4]; refine sd 4 hE k (Z01 rfl rfl) ?_; intro a63 hE e4 kp; refine wpList_nil ?_; replace k := k.env hE; clear hE e1 e6 e7 e9 e10 e60; refine Z00 ?_; refine wp_ret ?_
     refine Z0k rfl k e4 ?_
     exact ⟨rfl, O.below⟩
 obtain ⟨hlt, hl40⟩ := hlt
 have hltI : (i : Int) < (n1 : Int) := by omega
 obtain ⟨x, hx⟩ : ∃ x, xs[i]? = some x := ⟨_, List.getElem?_eq_getElem (by omega)⟩
 have hLx := hls x (List.mem_of_getElem? hx)
 obtain ⟨b1, o1, rfl, d0, d1, d2, d3⟩ := act_at hrow O.below hx
 obtain ⟨kd, nn, rt, LA, lc, ls⟩ := x
 simp only at d0 d1 d2 d3 hLx

 refine wp_seq ?_; refine wp_seq ?_; refine wp_region_lit ?_
 have hE := Env.refl a44 [53, 54, 55, 56, 57, 58, 59, 60]; refine zm 53 hE k e10 ?_; intro a64 hE e53 kp; refine zm 54 hE k e1 ?_; intro a65 hE e54 kp; replace e53 := kt kp e53; refine sd 55 hE k (Z1w Tryz.underlying22 rfl e54) ?_; intro a66 hE e55 kp; replace e53 := kt kp e53; refine sd 56 hE k (Z08 (Z0z rfl e53 e55) (decide_eq_true (by omega))) ?_
 intro a67 hE e56 kp; refine sd 57 hE k (Z02 rfl e56) ?_; intro a68 hE e57 kp; apply Z04 58 hE k rfl rfl rfl rfl rfl e57
 case h =>
  exact Z02 rfl (hE.g e10)
 intro a69 hE e58 kp; replace e57 := kt kp e57; apply Z04 59 hE k rfl rfl rfl rfl rfl e57
 case h =>
  exact Z08 (Z0z rfl e58 rfl) (decide_eq_true (by omega))
 intro a70 hE e59 kp; replace e57 := kt kp e57; refine sd 60 hE k (Z0b rfl e57 e59) ?_; intro a71 hE e60 kp; refine wpList_nil ?_; replace e1 := hE.g e1; replace e6 := hE.g e6; replace e7 := hE.g e7; replace e9 := hE.g e9; replace e10 := hE.g e10; replace k := k.env hE; clear hE; refine Z00 ?_; refine Z0h e60 rfl ?_
 refine wp_skip ?_; refine Z00 (wp_seq ?_); refine wp_block ?_; refine wp_seq ?_; refine wp_region_lit ?_
 have hE := Env.refl a71 [63, 64, 65, 66, 11]; refine zm 63 hE k e1 ?_; intro a72 hE e63 kp; refine zm 64 hE k e10 ?_; intro a73 hE e64 kp; replace e63 := kt kp e63; apply Z03 65 hE k rfl rfl rfl rfl; case h =>
  simp [go_sem, ↓IntWalk.iteOmega, ev e63, ev e64]
  with_reducible rfl
 intro a74 hE e65 kp; apply Z03 66 hE k rfl rfl rfl rfl; case h =>
  simp [go_sem, ↓IntWalk.iteOmega, ev e65, d0, d1, d2, d3]
  with_reducible rfl
 intro a75 hE e66 kp; refine Z0v O (cs := #[.int .i64 0, .int .i64 0, .int .i64 0, .slice none 0 0]) (t := 42) 11 hE k rfl (by rfl) (by rfl) rfl (by simp [go_sem, ↓IntWalk.iteOmega]) ?_
 clear O; intro xb a76 w77 O hE e11 kp; replace e66 := kt kp e66; refine Z1b O 0 0 hE e11 e66 ?_
 clear O; intro w78 O; replace O : OwnT _ _ ((tBlk xb 42 #[.int .i64 kd, .int .i64 nn, .int .i64 rt, .slice LA ls.length lc]) :: _) w78 := O
 refine wpList_nil ?_; replace e1 := hE.g e1; replace e6 := hE.g e6; replace e7 := hE.g e7; replace e9 := hE.g e9; replace e10 := hE.g e10; replace k := k.env hE; clear hE e60 e66; refine Z00 ?_; clear d0 d1 d2 d3; by_cases hl20 : ls.length ≤ 20
 rotate_left
 · skip
   refine wp_seq ?_; refine wp_seq ?_; refine wp_region_lit ?_
   have hE := Env.refl a76 [67, 68, 69, 70]; apply Z03 67 hE k rfl rfl rfl rfl; case h =>
    simp [go_sem, ↓IntWalk.iteOmega, ev (hE.g e11)]
    with_reducible rfl
   intro a79 hE e67 kp; refine sd 68 hE k (Z0a O 0 rfl rfl e67 rfl Tryz.underlying40 rfl) ?_; intro a80 hE e68 kp; refine sd 69 hE k (Z1w Tryz.underlying40 rfl e68) ?_; intro a81 hE e69 kp; refine sd 70 hE k (Z08 (Z82 rfl e69 rfl) (decide_eq_true (by omega))) ?_
   intro a82 hE e70 kp; refine wpList_nil ?_; replace e1 := hE.g e1; replace e6 := hE.g e6; replace e7 := hE.g e7; replace e9 := hE.g e9; replace e10 := hE.g e10; replace e11 := hE.g e11; replace k := k.env hE; clear hE; refine Z00 ?_; refine Z0h e70 rfl ?_
   refine wp_seq ?_; refine wp_region_lit ?_
   have hE := Env.refl a82 [4]; refine sd 4 hE k (Z01 rfl rfl) ?_; intro a83 hE e4 kp; refine wpList_nil ?_; replace k := k.env hE; clear hE e1 e6 e7 e9 e10 e11 e70; refine Z00 ?_; refine wp_ret ?_
   refine Z0m ?_
   refine Z12 ?_
   refine Z0m ?_
   refine Z0m ?_
   refine Z12 ?_
   refine Z0m ?_
   refine Z0k rfl k e4 ?_
   exact ⟨rfl, O.below⟩
 have hL : ∀ W, Below W0.heap.size W0 W → Row1 W LA (Value.int .i64) ls := fun W hb => hLx.below hb
 refine wp_seq ?_; refine wp_seq ?_; refine wp_region_lit ?_
 have hE := Env.refl a76 [67, 68, 69, 70]; apply Z03 67 hE k rfl rfl rfl rfl; case h =>
  simp [go_sem, ↓IntWalk.iteOmega, ev (hE.g e11)]
  with_reducible rfl
 intro a84 hE e67 kp; refine sd 68 hE k (Z0a O 0 rfl rfl e67 rfl Tryz.underlying40 rfl) ?_; intro a85 hE e68 kp; refine sd 69 hE k (Z1w Tryz.underlying40 rfl e68) ?_; intro a86 hE e69 kp; refine sd 70 hE k (Z08 (Z82 rfl e69 rfl) (decide_eq_false (by omega))) ?_
 intro a87 hE e70 kp; refine wpList_nil ?_; replace e1 := hE.g e1; replace e6 := hE.g e6; replace e7 := hE.g e7; replace e9 := hE.g e9; replace e10 := hE.g e10; replace e11 := hE.g e11; replace k := k.env hE; clear hE; refine Z00 ?_; refine Z07 e70 rfl ?_
 refine wp_skip ?_; refine Z00 ?_; refine wp_cutF (fun a w => Fr 281 a ∧ a.eval (.tmp 1) = .slice (some ⟨b1, o1, none⟩) n1 c1 ∧ a.eval (.tmp 6) = .int .i64 (↑(pgs Nn)) ∧ a.eval (.tmp 7) = .pointer (some ⟨sb, 0, none⟩) ∧ a.eval (.tmp 9) = .pointer (some ⟨ub, 0, none⟩) ∧ a.eval (.tmp 10) = .int .i64 ↑i ∧ ∃ (h : Hd) (o : Nat) (K : Int → Bool) (F : Int → Option Nd) (m : Int → Option Value) (vs : List Value) (N : List Nd) (S : List Sec) (M : Mn) (T : Int → Value) (us : List Value) (QN : List Nd), St7 Nn (i + 1) h o K F m vs N S M T us QN ∧ OwnT W0.heap.size W0 [tBlk ub 62 #[.int .i64 (↑(pgs Nn)), .slice (some ⟨g1, 0, none⟩) ((pgs Nn)) ((pgs Nn)), .slice (some ⟨g2, 0, none⟩) ((pgs Nn)) ((pgs Nn)), .slice (some ⟨g3, 0, none⟩) ((pgs Nn)) ((pgs Nn)), .int .u64 h.g, .int .i64 h.r, .int .i64 h.a, .int .i64 h.b, .int .i64 h.c], tBlk g1 4 (boA (pgs Nn) K), tBlk g2 4 (boA (pgs Nn) (isF F)), tBlk g3 47 (ndA (pgs Nn) T), tBlk sb 102 (stB p h (((o : Nat) : Int)) kb fb), tMap kb 512 (keptV K), tMap fb 512 m, tPool vs N, tDisc p mb B Nn cap bm S noL, tMn mb M, tPool us QN] w) ?_ ?_
 · skip
   refine wp_seq ?_; refine wp_region_lit ?_
   have hE := Env.refl a87 [71, 72]; apply Z03 71 hE k rfl rfl rfl rfl; case h =>
    simp [go_sem, ↓IntWalk.iteOmega, ev (hE.g e11)]
    with_reducible rfl
   intro a88 hE e71 kp; refine sd 72 hE k (Z0a O 0 rfl rfl e71 rfl Tryz.underlying3 rfl) ?_; intro a89 hE e72 kp; refine wpList_nil ?_; replace e1 := hE.g e1; replace e6 := hE.g e6; replace e7 := hE.g e7; replace e9 := hE.g e9; replace e10 := hE.g e10; replace e11 := hE.g e11; replace k := k.env hE; clear hE e70; refine Z00 ?_; refine wp_block ?_; refine wp_cutF (fun a w => Fr 281 a ∧ a.eval (.tmp 1) = .slice (some ⟨b1, o1, none⟩) n1 c1 ∧ a.eval (.tmp 6) = .int .i64 (↑(pgs Nn)) ∧ a.eval (.tmp 7) = .pointer (some ⟨sb, 0, none⟩) ∧ a.eval (.tmp 9) = .pointer (some ⟨ub, 0, none⟩) ∧ a.eval (.tmp 10) = .int .i64 ↑i ∧ a.eval (.tmp 11) = .pointer (some ⟨xb, 0, none⟩) ∧ a.eval (.tmp 72) = .int .i64 kd ∧ ∃ (b12 : Bool), a.eval (.tmp 73) = .bool b12 ∧ (b12 = true ↔ kd = 1 ∨ kd = 2) ∧ OwnT W0.heap.size W0 [tBlk xb 42 #[.int .i64 kd, .int .i64 nn, .int .i64 rt, .slice LA ls.length lc], tBlk ub 62 #[.int .i64 (↑(pgs Nn)), .slice (some ⟨g1, 0, none⟩) ((pgs Nn)) ((pgs Nn)), .slice (some ⟨g2, 0, none⟩) ((pgs Nn)) ((pgs Nn)), .slice (some ⟨g3, 0, none⟩) ((pgs Nn)) ((pgs Nn)), .int .u64 h.g, .int .i64 h.r, .int .i64 h.a, .int .i64 h.b, .int .i64 h.c], tBlk g1 4 (boA (pgs Nn) K), tBlk g2 4 (boA (pgs Nn) (isF F)), tBlk g3 47 (ndA (pgs Nn) T), tBlk sb 102 (stB p h (((o : Nat) : Int)) kb fb), tMap kb 512 (keptV K), tMap fb 512 m, tPool vs N, tDisc p mb B Nn cap bm S noL, tMn mb M, tPool us QN] w) ?_ ?_
   · skip
     by_cases h1 : kd = 1
     · skip
       refine wp_seq ?_; refine wp_region_lit ?_
       have hE := Env.refl a89 [74, 73]; refine sd 74 hE k (Z08 (Z19 rfl (hE.g e72) rfl) (decide_eq_true h1)) ?_
       intro a90 hE e74 kp; refine sd 73 hE k (Z01 rfl e74) ?_; intro a91 hE e73 kp; refine wpList_nil ?_; replace e1 := hE.g e1; replace e6 := hE.g e6; replace e7 := hE.g e7; replace e9 := hE.g e9; replace e10 := hE.g e10; replace e11 := hE.g e11; replace e72 := hE.g e72; replace k := k.env hE; clear hE; refine Z00 ?_; refine Z0h e73 rfl ?_
       refine wp_skip ?_; refine Z00 ?_; exact ⟨k, e1, e6, e7, e9, e10, e11, e72, true, e73, ⟨fun _ => .inl h1, fun _ => rfl⟩, O⟩
     · skip
       by_cases h2 : kd = 2
       · skip
         refine wp_seq ?_; refine wp_region_lit ?_
         have hE := Env.refl a89 [74, 73]; refine sd 74 hE k (Z08 (Z19 rfl (hE.g e72) rfl) (decide_eq_false h1)) ?_
         intro a92 hE e74 kp; refine sd 73 hE k (Z01 rfl e74) ?_; intro a93 hE e73 kp; refine wpList_nil ?_; replace e1 := hE.g e1; replace e6 := hE.g e6; replace e7 := hE.g e7; replace e9 := hE.g e9; replace e10 := hE.g e10; replace e11 := hE.g e11; replace e72 := hE.g e72; replace k := k.env hE; clear hE; refine Z00 ?_; refine Z07 e73 rfl ?_
         refine wp_region_lit ?_
         have hE := Env.refl a93 [75, 73]; refine sd 75 hE k (Z08 (Z19 rfl (hE.g e72) rfl) (decide_eq_true h2)) ?_
         intro a94 hE e75 kp; refine sd 73 hE k (Z01 rfl e75) ?_; intro a95 hE e73 kp; refine wpList_nil ?_; replace e1 := hE.g e1; replace e6 := hE.g e6; replace e7 := hE.g e7; replace e9 := hE.g e9; replace e10 := hE.g e10; replace e11 := hE.g e11; replace e72 := hE.g e72; replace k := k.env hE; clear hE; refine Z00 ?_; exact ⟨k, e1, e6, e7, e9, e10, e11, e72, true, e73, ⟨fun _ => .inr h2, fun _ => rfl⟩, O⟩
       · skip
         refine wp_seq ?_; refine wp_region_lit ?_
         have hE := Env.refl a89 [74, 73]; refine sd 74 hE k (Z08 (Z19 rfl (hE.g e72) rfl) (decide_eq_false h1)) ?_
         intro a96 hE e74 kp; refine sd 73 hE k (Z01 rfl e74) ?_; intro a97 hE e73 kp; refine wpList_nil ?_; replace e1 := hE.g e1; replace e6 := hE.g e6; replace e7 := hE.g e7; replace e9 := hE.g e9; replace e10 := hE.g e10; replace e11 := hE.g e11; replace e72 := hE.g e72; replace k := k.env hE; clear hE; refine Z00 ?_; refine Z07 e73 rfl ?_
         refine wp_region_lit ?_
         have hE := Env.refl a97 [75, 73]; refine sd 75 hE k (Z08 (Z19 rfl (hE.g e72) rfl) (decide_eq_false h2)) ?_
         intro a98 hE e75 kp; refine sd 73 hE k (Z01 rfl e75) ?_; intro a99 hE e73 kp; refine wpList_nil ?_; replace e1 := hE.g e1; replace e6 := hE.g e6; replace e7 := hE.g e7; replace e9 := hE.g e9; replace e10 := hE.g e10; replace e11 := hE.g e11; replace e72 := hE.g e72; replace k := k.env hE; clear hE; refine Z00 ?_; exact ⟨k, e1, e6, e7, e9, e10, e11, e72, false, e73, ⟨fun h => (by cases h), fun h => by rcases h with h | h; exact absurd h h1; exact absurd h h2⟩, O⟩
   · clear k e1 e6 e7 e9 e10 e11 e72 O; intro a100 w101 h_; obtain ⟨k, e1, e6, e7, e9, e10, e11, e72, b12, e73, hb12, O⟩ := h_
     have h0K := (s7.ok.apart s7.ap).k0
     have h0F := (s7.ok.apart s7.ap).f0
     cases b12 with
     | true =>
      refine Z0h e73 rfl ?_
      refine wp_seq ?_; refine wp_region_lit ?_
      have hE := Env.refl a100 [77, 78, 79, 80, 81, 76, 82, 83, 12, 13]; refine zm 77 hE k e7 ?_; intro a102 hE e77 kp; apply Z03 78 hE k rfl rfl rfl rfl; case h =>
       simp [go_sem, ↓IntWalk.iteOmega, ev (hE.g e11)]
       with_reducible rfl
      intro a103 hE e78 kp; replace e77 := kt kp e77; refine sd 79 hE k (Z0a O 0 rfl rfl e78 rfl Tryz.underlying3 rfl) ?_; intro a104 hE e79 kp; replace e77 := kt kp e77; apply Z06 80 hE k rfl (by rfl) (by rfl) rfl
      case h =>
       simp [go_sem, ↓IntWalk.iteOmega, ev e79]
       with_reducible exact ⟨rfl, rfl⟩
      case hc => exact Z4p nn _
      rintro e w106 ⟨g, rfl, hrow1, RE⟩
      replace O := OwnT.ext O RE; refine ⟨_, rfl, ?_⟩
      intro a105 hE e80 kp; replace e77 := kt kp e77; apply Z06 81 hE k rfl (by rfl) (by rfl) rfl
      case h =>
       simp [go_sem, ↓IntWalk.iteOmega, ev e77, ev e80]
       with_reducible exact ⟨rfl, rfl⟩
      case hc => exact sadd_two (R := [tMn mb M, tPool us QN, tBlk xb 42 #[.int .i64 kd, .int .i64 nn, .int .i64 rt, .slice LA ls.length lc], tBlk ub 62 #[.int .i64 (↑(pgs Nn)), .slice (some ⟨g1, 0, none⟩) ((pgs Nn)) ((pgs Nn)), .slice (some ⟨g2, 0, none⟩) ((pgs Nn)) ((pgs Nn)), .slice (some ⟨g3, 0, none⟩) ((pgs Nn)) ((pgs Nn)), .int .u64 h.g, .int .i64 h.r, .int .i64 h.a, .int .i64 h.b, .int .i64 h.c], tBlk g1 4 (boA (pgs Nn) K), tBlk g2 4 (boA (pgs Nn) (isF F)), tBlk g3 47 (ndA (pgs Nn) T)]) nn _ (OwnT.pick O [5, 6, 7, 8, 9, 10, 11, 0, 1, 2, 3, 4] (by decide)) s7.ok hrow1
      clear O; rintro e w108 ⟨cA, ef, F', m', vs', N', rfl, O, ok', hX⟩
      clear hrow1; refine ⟨_, rfl, ?_⟩
      intro a107 hE e81 kp; refine sd 76 hE k (Z02 rfl e81) ?_; intro a109 hE e76 kp; apply Z03 82 hE k rfl rfl rfl rfl; case h =>
       simp [go_sem, ↓IntWalk.iteOmega, ev e76]
       with_reducible rfl
      intro a110 hE e82 kp; replace e76 := kt kp e76; apply Z03 83 hE k rfl rfl rfl rfl; case h =>
       simp [go_sem, ↓IntWalk.iteOmega, ev e76]
       with_reducible rfl
      intro a111 hE e83 kp; replace e82 := kt kp e82; refine sd 12 hE k (Z01 rfl e82) ?_; intro a112 hE e12 kp; replace e83 := kt kp e83; refine sd 13 hE k (Z01 rfl e83) ?_; intro a113 hE e13 kp; replace e12 := kt kp e12; refine wpList_nil ?_; replace e1 := hE.g e1; replace e6 := hE.g e6; replace e7 := hE.g e7; replace e9 := hE.g e9; replace e10 := hE.g e10; replace e11 := hE.g e11; replace k := k.env hE; clear hE e72 e73; refine Z00 ?_; replace O : OwnT _ _ ([tBlk xb 42 #[.int .i64 kd, .int .i64 nn, .int .i64 rt, .slice LA ls.length lc], tBlk ub 62 #[.int .i64 (↑(pgs Nn)), .slice (some ⟨g1, 0, none⟩) ((pgs Nn)) ((pgs Nn)), .slice (some ⟨g2, 0, none⟩) ((pgs Nn)) ((pgs Nn)), .slice (some ⟨g3, 0, none⟩) ((pgs Nn)) ((pgs Nn)), .int .u64 h.g, .int .i64 h.r, .int .i64 h.a, .int .i64 h.b, .int .i64 h.c], tBlk g1 4 (boA (pgs Nn) K), tBlk g2 4 (boA (pgs Nn) (isF F)), tBlk g3 47 (ndA (pgs Nn) T), tBlk sb 102 (stB p h (((o : Nat) : Int)) kb fb), tMap kb 512 (keptV K), tMap fb 512 m', tPool vs' N', tDisc p mb B Nn cap bm S noL, tMn mb M, tPool us QN]) w108 := OwnT.pick O [7, 8, 9, 10, 11, 0, 1, 2, 3, 4, 5, 6] (by decide)
      refine wp_seq ?_; refine wp_region_lit ?_
      have hE := Env.refl a113 [85, 86, 87, 88, 89, 84, 90, 91, 14, 15]; refine zm 85 hE k e9 ?_; intro a114 hE e85 kp; apply Z03 86 hE k rfl rfl rfl rfl; case h =>
       simp [go_sem, ↓IntWalk.iteOmega, ev (hE.g e11)]
       with_reducible rfl
      intro a115 hE e86 kp; replace e85 := kt kp e85; refine sd 87 hE k (Z0a O 0 rfl rfl e86 rfl Tryz.underlying3 rfl) ?_; intro a116 hE e87 kp; replace e85 := kt kp e85; apply Z06 88 hE k rfl (by rfl) (by rfl) rfl
      case h =>
       simp [go_sem, ↓IntWalk.iteOmega, ev e87]
       with_reducible exact ⟨rfl, rfl⟩
      case hc => exact node_own nn _
      rintro e w118 ⟨gn, rfl, OX⟩
      replace O := OwnT.graft O OX
      have hrow2 : Row w118 (some ⟨gn, 0, none⟩) 2 pairC (nodeP nn) := by obtain ⟨B9, c9, e9_, -, -, h9, -⟩ := Z4c O.t0; cases e9_; exact h9
      refine ⟨_, rfl, ?_⟩
      intro a117 hE e88 kp; replace e85 := kt kp e85; apply Z06 89 hE k rfl (by rfl) (by rfl) rfl
      case h =>
       simp [go_sem, ↓IntWalk.iteOmega, ev e85, ev e88]
       with_reducible exact ⟨rfl, rfl⟩
      case hc => exact uadd_two (R := [tPs (.slice (some ⟨gn, 0, none⟩) 1 1) (nodeP nn), tBlk xb 42 #[.int .i64 kd, .int .i64 nn, .int .i64 rt, .slice LA ls.length lc], tBlk sb 102 (stB p h (((o : Nat) : Int)) kb fb), tMap kb 512 (keptV K), tMap fb 512 m', tPool vs' N', tDisc p mb B Nn cap bm S noL, tMn mb M, tPool us QN]) nn _ (OwnT.pick O [2, 3, 4, 5, 0, 1, 6, 7, 8, 9, 10, 11, 12] (by decide)) hrow2 hPb
      clear O; rintro e w120 ⟨c2, e2, G', T', rfl, O, hY⟩
      clear hrow2; refine ⟨_, rfl, ?_⟩
      intro a119 hE e89 kp; refine sd 84 hE k (Z02 rfl e89) ?_; intro a121 hE e84 kp; apply Z03 90 hE k rfl rfl rfl rfl; case h =>
       simp [go_sem, ↓IntWalk.iteOmega, ev e84]
       with_reducible rfl
      intro a122 hE e90 kp; replace e84 := kt kp e84; apply Z03 91 hE k rfl rfl rfl rfl; case h =>
       simp [go_sem, ↓IntWalk.iteOmega, ev e84]
       with_reducible rfl
      intro a123 hE e91 kp; replace e90 := kt kp e90; refine sd 14 hE k (Z01 rfl e90) ?_; intro a124 hE e14 kp; replace e91 := kt kp e91; refine sd 15 hE k (Z01 rfl e91) ?_; intro a125 hE e15 kp; replace e14 := kt kp e14; refine wpList_nil ?_; replace e1 := hE.g e1; replace e6 := hE.g e6; replace e7 := hE.g e7; replace e9 := hE.g e9; replace e10 := hE.g e10; replace e12 := hE.g e12; replace e13 := hE.g e13; replace k := k.env hE; clear hE e11; refine Z00 ?_; rcases hX with ⟨d, rfl, rfl, hd, rfl⟩ | ⟨rfl, rfl, hno, eF⟩
      · rcases hY with ⟨d2, hd2, rfl, rfl, rfl, rfl⟩ | ⟨hno, -⟩
        rotate_left
        · exact (hd.some hno).elim
        obtain rfl := hd.eq hd2
        refine wp_seq ?_; refine wp_region_lit ?_
        have hE := Env.refl a125 [92, 93, 94, 95, 96, 97, 98, 99]; refine zm 92 hE k e13 ?_; intro a126 hE e92 kp; refine zm 93 hE k e14 ?_; intro a127 hE e93 kp; replace e92 := kt kp e92; refine sd 94 hE k (Z0x rfl e92 e93) ?_; intro a128 hE e94 kp; refine sd 95 hE k (Z02 rfl e94) ?_; intro a129 hE e95 kp; apply Z04 96 hE k rfl rfl rfl rfl rfl e95
        case h =>
         exact Z02 rfl (hE.g e12)
        intro a130 hE e96 kp; replace e95 := kt kp e95; apply Z04 97 hE k rfl rfl rfl rfl rfl e95
        case h =>
         exact Z02 rfl (hE.g e15)
        intro a131 hE e97 kp; replace e95 := kt kp e95; replace e96 := kt kp e96; apply Z04 98 hE k rfl rfl rfl rfl rfl e95
        case h =>
         exact Z08 (Z0x rfl e96 e97) (decide_eq_false (fun h => h rfl))
        intro a132 hE e98 kp; replace e95 := kt kp e95; refine sd 99 hE k (Z09 rfl e95 e98) ?_; intro a133 hE e99 kp; refine wpList_nil ?_; replace e1 := hE.g e1; replace e6 := hE.g e6; replace e7 := hE.g e7; replace e9 := hE.g e9; replace e10 := hE.g e10; replace k := k.env hE; clear hE e12 e13 e14 e15; refine Z00 ?_; refine Z07 e99 rfl ?_
        refine wp_skip ?_; refine Z0f ?_; refine Z00 ?_; have hul : us.length = QN.length := (OwnT.get O 12 rfl : (tPool us QN).holds _).1
        replace O := OwnT.poolAdd (l := 0) (OwnT.pick O [4, 12, 0, 1, 2, 3, 6, 7, 8, 9, 10, 11] (by decide))
        rw [isF_put (nd := node nn)] at O
        replace O : OwnT _ _ ([tBlk ub 62 #[.int .i64 (↑(pgs Nn)), .slice (some ⟨g1, 0, none⟩) ((pgs Nn)) ((pgs Nn)), .slice (some ⟨g2, 0, none⟩) ((pgs Nn)) ((pgs Nn)), .slice (some ⟨g3, 0, none⟩) ((pgs Nn)) ((pgs Nn)), .int .u64 h.g, .int .i64 h.r, .int .i64 h.a, .int .i64 h.b, .int .i64 h.c], tBlk g1 4 (boA (pgs Nn) K), tBlk g2 4 (boA (pgs Nn) (isF (putF F ((d : Nat) : Int) (node nn)))), tBlk g3 47 (ndA (pgs Nn) ((putT T ((d : Nat) : Int) (.slice (some ⟨gn, 0, none⟩) 1 1)))), tBlk sb 102 (stB p h (((o : Nat) : Int)) kb fb), tMap kb 512 (keptV K), tMap fb 512 m', tPool vs' N', tDisc p mb B Nn cap bm S noL, tMn mb M, tPool ((us ++ [.slice (some ⟨gn, 0, none⟩) 1 1])) ((QN ++ [(0, nodeP nn)]))]) w120 := OwnT.pick O [1, 2, 3, 4, 5, 6, 7, 8, 9, 10, 0] (by decide)
        have hap' : ∀ c, K c = true → putF F ((d : Nat) : Int) (node nn) c = none := fun c hc => by unfold putF; rw [if_neg (fun e => by rw [e, (Z6y hd.2.2.1).2] at hc; cases hc)]; exact s7.ap c hc
        exact ⟨k, e1, e6, e7, e9, e10, _, _, _, _, _, _, _, _, _, _, _, _, ⟨s7.hd, s7.g1, by have := s7.g2; omega, ok', hap', s7.rel.add hul hd, s7.mok.mono (by omega), s7.free⟩, O⟩
      · obtain rfl : F = F' := eF.symm
        rcases hY with ⟨d2, hd2, -⟩ | ⟨-, rfl, rfl, rfl, eT⟩
        · exact (hd2.some hno).elim
        obtain rfl : T = T' := eT.symm
        refine wp_seq ?_; refine wp_region_lit ?_
        have hE := Env.refl a125 [92, 93, 94, 95, 96, 97, 98, 99]; refine zm 92 hE k e13 ?_; intro a134 hE e92 kp; refine zm 93 hE k e14 ?_; intro a135 hE e93 kp; replace e92 := kt kp e92; refine sd 94 hE k (Z0x rfl e92 e93) ?_; intro a136 hE e94 kp; refine sd 95 hE k (Z02 rfl e94) ?_; intro a137 hE e95 kp; apply Z04 96 hE k rfl rfl rfl rfl rfl e95
        case h =>
         exact Z02 rfl (hE.g e12)
        intro a138 hE e96 kp; replace e95 := kt kp e95; apply Z04 97 hE k rfl rfl rfl rfl rfl e95
        case h =>
         exact Z02 rfl (hE.g e15)
        intro a139 hE e97 kp; replace e95 := kt kp e95; replace e96 := kt kp e96; apply Z04 98 hE k rfl rfl rfl rfl rfl e95
        case h =>
         exact Z0x rfl e96 e97
        intro a140 hE e98 kp; replace e95 := kt kp e95; refine sd 99 hE k (Z09 rfl e95 e98) ?_; intro a141 hE e99 kp; refine wpList_nil ?_; replace e1 := hE.g e1; replace e6 := hE.g e6; replace e7 := hE.g e7; replace e9 := hE.g e9; replace e10 := hE.g e10; replace k := k.env hE; clear hE e12 e13 e14 e15; refine Z00 ?_; refine Z07 e99 rfl ?_
        refine wp_skip ?_; refine Z0f ?_; refine Z00 ?_; replace O : OwnT _ _ ([tBlk ub 62 #[.int .i64 (↑(pgs Nn)), .slice (some ⟨g1, 0, none⟩) ((pgs Nn)) ((pgs Nn)), .slice (some ⟨g2, 0, none⟩) ((pgs Nn)) ((pgs Nn)), .slice (some ⟨g3, 0, none⟩) ((pgs Nn)) ((pgs Nn)), .int .u64 h.g, .int .i64 h.r, .int .i64 h.a, .int .i64 h.b, .int .i64 h.c], tBlk g1 4 (boA (pgs Nn) K), tBlk g2 4 (boA (pgs Nn) (isF F)), tBlk g3 47 (ndA (pgs Nn) T), tBlk sb 102 (stB p h (((o : Nat) : Int)) kb fb), tMap kb 512 (keptV K), tMap fb 512 m', tPool vs' N', tDisc p mb B Nn cap bm S noL, tMn mb M, tPool us QN]) w120 := OwnT.pick O [0, 1, 2, 3, 6, 7, 8, 9, 10, 11, 12] (by decide)
        exact ⟨k, e1, e6, e7, e9, e10, _, _, _, _, _, _, _, _, _, _, _, _, ⟨s7.hd, s7.g1, by have := s7.g2; omega, ok', s7.ap, s7.rel, s7.mok.mono (by omega), s7.free⟩, O⟩
     | false =>
      by_cases hk3 : kd = 3
      · skip
        refine Z07 e73 rfl ?_
        refine wp_seq ?_; refine wp_region_lit ?_
        have hE := Env.refl a100 [101, 100]; refine sd 101 hE k (Z08 (Z19 rfl (hE.g e72) rfl) (decide_eq_true hk3)) ?_
        intro a142 hE e101 kp; refine sd 100 hE k (Z01 rfl e101) ?_; intro a143 hE e100 kp; refine wpList_nil ?_; replace e1 := hE.g e1; replace e6 := hE.g e6; replace e7 := hE.g e7; replace e9 := hE.g e9; replace e10 := hE.g e10; replace e11 := hE.g e11; replace e72 := hE.g e72; replace k := k.env hE; clear hE e73; refine Z00 ?_; refine Z0h e100 rfl ?_
        refine wp_seq ?_; refine wp_region_lit ?_
        have hE := Env.refl a143 [102, 103, 104, 105]; refine zm 102 hE k e7 ?_; intro a144 hE e102 kp; apply Z03 103 hE k rfl rfl rfl rfl; case h =>
         simp [go_sem, ↓IntWalk.iteOmega, ev (hE.g e11)]
         with_reducible rfl
        intro a145 hE e103 kp; replace e102 := kt kp e102; refine sd 104 hE k (Z0a O 0 rfl rfl e103 rfl Tryz.underlying40 rfl) ?_; intro a146 hE e104 kp; replace e102 := kt kp e102; apply Z06 105 hE k rfl (by rfl) (by rfl) rfl
        case h =>
         simp [go_sem, ↓IntWalk.iteOmega, ev e102, ev e104]
         with_reducible exact ⟨rfl, rfl⟩
        case hc => exact Z3y (R := [tBlk xb 42 #[.int .i64 kd, .int .i64 nn, .int .i64 rt, .slice LA ls.length lc], tBlk ub 62 #[.int .i64 (↑(pgs Nn)), .slice (some ⟨g1, 0, none⟩) ((pgs Nn)) ((pgs Nn)), .slice (some ⟨g2, 0, none⟩) ((pgs Nn)) ((pgs Nn)), .slice (some ⟨g3, 0, none⟩) ((pgs Nn)) ((pgs Nn)), .int .u64 h.g, .int .i64 h.r, .int .i64 h.a, .int .i64 h.b, .int .i64 h.c], tBlk g1 4 (boA (pgs Nn) K), tBlk g2 4 (boA (pgs Nn) (isF F)), tBlk g3 47 (ndA (pgs Nn) T), tDisc p mb B Nn cap bm S noL, tMn mb M, tPool us QN]) (xs := ls) _ (OwnT.pick O [5, 6, 7, 8, 0, 1, 2, 3, 4, 9, 10, 11] (by decide)) s7.ok (fun W OW => hL W OW.below) (by omega)
        clear O; rintro e w148 ⟨m', rfl, O, ok'⟩
        refine ⟨_, rfl, ?_⟩
        intro a147 hE e105 kp; refine wpList_nil ?_; replace e1 := hE.g e1; replace e6 := hE.g e6; replace e7 := hE.g e7; replace e9 := hE.g e9; replace e10 := hE.g e10; replace e11 := hE.g e11; replace k := k.env hE; clear hE e72 e100 e105; refine Z00 ?_; replace O : OwnT _ _ ([tBlk ub 62 #[.int .i64 (↑(pgs Nn)), .slice (some ⟨g1, 0, none⟩) ((pgs Nn)) ((pgs Nn)), .slice (some ⟨g2, 0, none⟩) ((pgs Nn)) ((pgs Nn)), .slice (some ⟨g3, 0, none⟩) ((pgs Nn)) ((pgs Nn)), .int .u64 h.g, .int .i64 h.r, .int .i64 h.a, .int .i64 h.b, .int .i64 h.c], tBlk g1 4 (boA (pgs Nn) K), tBlk g2 4 (boA (pgs Nn) (isF F)), tBlk g3 47 (ndA (pgs Nn) T), tBlk xb 42 #[.int .i64 kd, .int .i64 nn, .int .i64 rt, .slice LA ls.length lc], tBlk sb 102 (stB p h (((o : Nat) : Int)) kb fb), tMap kb 512 (keptV K), tMap fb 512 m', tPool vs N, tDisc p mb B Nn cap bm S noL, tMn mb M, tPool us QN]) w148 := OwnT.pick O [5, 6, 7, 8, 4, 0, 1, 2, 3, 9, 10, 11] (by decide)
        refine wp_region_lit ?_
        have hE := Env.refl a147 [106, 107, 108, 109]; refine zm 106 hE k e9 ?_; intro a149 hE e106 kp; apply Z03 107 hE k rfl rfl rfl rfl; case h =>
         simp [go_sem, ↓IntWalk.iteOmega, ev (hE.g e11)]
         with_reducible rfl
        intro a150 hE e107 kp; replace e106 := kt kp e106; refine sd 108 hE k (Z0a O 4 rfl rfl e107 rfl Tryz.underlying40 rfl) ?_; intro a151 hE e108 kp; replace e106 := kt kp e106; apply Z06 109 hE k rfl (by rfl) (by rfl) rfl
        case h =>
         simp [go_sem, ↓IntWalk.iteOmega, ev e106, ev e108]
         with_reducible exact ⟨rfl, rfl⟩
        case hc => exact usweep_F (R := [tBlk xb 42 #[.int .i64 kd, .int .i64 nn, .int .i64 rt, .slice LA ls.length lc], tBlk sb 102 (stB p h (((o : Nat) : Int)) kb fb), tMap kb 512 (keptV K), tMap fb 512 m', tPool vs N, tDisc p mb B Nn cap bm S noL, tMn mb M, tPool us QN]) (xs := ls) _ O (fun W OW => hL W OW.below) (by omega) hPb h0F
        clear O; rintro e w153 ⟨rfl, O⟩
        refine ⟨_, rfl, ?_⟩
        intro a152 hE e109 kp; refine wpList_nil ?_; replace e1 := hE.g e1; replace e6 := hE.g e6; replace e7 := hE.g e7; replace e9 := hE.g e9; replace e10 := hE.g e10; replace k := k.env hE; clear hE e11 e109; refine Z0f ?_; refine Z00 ?_; replace O : OwnT _ _ ([tBlk ub 62 #[.int .i64 (↑(pgs Nn)), .slice (some ⟨g1, 0, none⟩) ((pgs Nn)) ((pgs Nn)), .slice (some ⟨g2, 0, none⟩) ((pgs Nn)) ((pgs Nn)), .slice (some ⟨g3, 0, none⟩) ((pgs Nn)) ((pgs Nn)), .int .u64 h.g, .int .i64 h.r, .int .i64 h.a, .int .i64 h.b, .int .i64 h.c], tBlk g1 4 (boA (pgs Nn) K), tBlk g2 4 (boA (pgs Nn) (isF (fun i => if (!decide (i ∈ ls)) = true then none else F i))), tBlk g3 47 (ndA (pgs Nn) T), tBlk sb 102 (stB p h (((o : Nat) : Int)) kb fb), tMap kb 512 (keptV K), tMap fb 512 m', tPool vs N, tDisc p mb B Nn cap bm S noL, tMn mb M, tPool us QN]) w153 := OwnT.pick O [0, 1, 2, 3, 5, 6, 7, 8, 9, 10, 11] (by decide)
        have hFl : ∀ c nd, (fun i => if (!decide (i ∈ ls)) = true then none else F i) c = some nd → F c = some nd := fun c nd h => by
         dsimp only at h
         split at h
         · cases h
         · exact h
        have hap' : ∀ c, K c = true → (fun i => if (!decide (i ∈ ls)) = true then none else F i) c = none := fun c hc => by
         dsimp only
         split
         · rfl
         · exact s7.ap c hc

        exact ⟨k, e1, e6, e7, e9, e10, _, _, _, _, _, _, _, _, _, _, _, _, ⟨s7.hd, s7.g1, by have := s7.g2; omega, ok', hap', s7.rel.less (fun _ h => h) hFl, s7.mok.mono (by omega), s7.free⟩, O⟩
      · skip
        by_cases hk4 : kd = 4
        · skip
          refine Z07 e73 rfl ?_
          refine wp_seq ?_; refine wp_region_lit ?_
          have hE := Env.refl a100 [101, 100]; refine sd 101 hE k (Z08 (Z19 rfl (hE.g e72) rfl) (decide_eq_false hk3)) ?_
          intro a154 hE e101 kp; refine sd 100 hE k (Z01 rfl e101) ?_; intro a155 hE e100 kp; refine wpList_nil ?_; replace e1 := hE.g e1; replace e6 := hE.g e6; replace e7 := hE.g e7; replace e9 := hE.g e9; replace e10 := hE.g e10; replace e11 := hE.g e11; replace e72 := hE.g e72; replace k := k.env hE; clear hE e73; refine Z00 ?_; refine Z07 e100 rfl ?_
          refine wp_seq ?_; refine wp_region_lit ?_
          have hE := Env.refl a155 [111, 110]; refine sd 111 hE k (Z08 (Z19 rfl (hE.g e72) rfl) (decide_eq_true hk4)) ?_
          intro a156 hE e111 kp; refine sd 110 hE k (Z01 rfl e111) ?_; intro a157 hE e110 kp; refine wpList_nil ?_; replace e1 := hE.g e1; replace e6 := hE.g e6; replace e7 := hE.g e7; replace e9 := hE.g e9; replace e10 := hE.g e10; replace e11 := hE.g e11; replace e72 := hE.g e72; replace k := k.env hE; clear hE e100; refine Z00 ?_; refine Z0h e110 rfl ?_
          replace O : OwnT _ _ ([tBlk ub 62 #[.int .i64 (↑(pgs Nn)), .slice (some ⟨g1, 0, none⟩) ((pgs Nn)) ((pgs Nn)), .slice (some ⟨g2, 0, none⟩) ((pgs Nn)) ((pgs Nn)), .slice (some ⟨g3, 0, none⟩) ((pgs Nn)) ((pgs Nn)), .int .u64 h.g, .int .i64 h.r, .int .i64 h.a, .int .i64 h.b, .int .i64 h.c], tBlk g1 4 (boA (pgs Nn) K), tBlk g2 4 (boA (pgs Nn) (isF F)), tBlk g3 47 (ndA (pgs Nn) T), tBlk xb 42 #[.int .i64 kd, .int .i64 nn, .int .i64 rt, .slice LA ls.length lc], tBlk sb 102 (stB p h (((o : Nat) : Int)) kb fb), tMap kb 512 (keptV K), tMap fb 512 m, tPool vs N, tDisc p mb B Nn cap bm S noL, tMn mb M, tPool us QN]) w101 := OwnT.pick O [1, 2, 3, 4, 0, 5, 6, 7, 8, 9, 10, 11] (by decide)
          have hg12 := And.intro s7.g1 s7.g2
          refine wp_seq ?_; refine wp_region_lit ?_
          have hE := Env.refl a157 [113, 114, 115, 116, 117, 118, 112, 119, 120, 16, 17]; refine zm 113 hE k e9 ?_; intro a158 hE e113 kp; apply Z03 114 hE k rfl rfl rfl rfl; case h =>
           simp [go_sem, ↓IntWalk.iteOmega, ev (hE.g e11)]
           with_reducible rfl
          intro a159 hE e114 kp; replace e113 := kt kp e113; refine sd 115 hE k (Z0a O 4 rfl rfl e114 rfl Tryz.underlying3 rfl) ?_; intro a160 hE e115 kp; replace e113 := kt kp e113; apply Z03 116 hE k rfl rfl rfl rfl; case h =>
           simp [go_sem, ↓IntWalk.iteOmega, ev (hE.g e11)]
           with_reducible rfl
          intro a161 hE e116 kp; replace e113 := kt kp e113; replace e115 := kt kp e115; refine sd 117 hE k (Z0a O 4 rfl rfl e116 rfl Tryz.underlying40 rfl) ?_; intro a162 hE e117 kp; replace e113 := kt kp e113; replace e115 := kt kp e115; apply Z06 118 hE k rfl (by rfl) (by rfl) rfl
          case h =>
           simp [go_sem, ↓IntWalk.iteOmega, ev e113, ev e115, ev e117]
           with_reducible exact ⟨rfl, rfl⟩
          case hc => exact unext_any (R := [tBlk xb 42 #[.int .i64 kd, .int .i64 nn, .int .i64 rt, .slice LA ls.length lc], tBlk sb 102 (stB p h (((o : Nat) : Int)) kb fb), tMap kb 512 (keptV K), tMap fb 512 m, tPool vs N, tDisc p mb B Nn cap bm S noL, tMn mb M, tPool us QN]) (xs := ls) rt _ O (fun W OW => hL W OW.below) (by omega) hPb (by omega)
          clear O; rintro e w164 ⟨bq, rfl, O, hbq⟩
          refine ⟨.tuple #[.agg #[.int .u64 (h.g + 1), .int .i64 rt, .int .i64 h.a, .int .i64 h.b, .int .i64 h.c], .bool bq], rfl, ?_⟩
          intro a163 hE e118 kp; refine sd 112 hE k (Z02 rfl e118) ?_; intro a165 hE e112 kp; apply Z03 119 hE k rfl rfl rfl rfl; case h =>
           simp [go_sem, ↓IntWalk.iteOmega, ev e112]
           with_reducible rfl
          intro a166 hE e119 kp; replace e112 := kt kp e112; apply Z03 120 hE k rfl rfl rfl rfl; case h =>
           simp [go_sem, ↓IntWalk.iteOmega, ev e112]
           with_reducible rfl
          intro a167 hE e120 kp; replace e119 := kt kp e119; refine Z0v O (cs := #[.int .u64 0, .int .i64 0, .int .i64 0, .int .i64 0, .int .i64 0]) (t := 39) 16 hE k rfl (by rfl) (by rfl) rfl (by simp [go_sem, ↓IntWalk.iteOmega]) ?_
          clear O; intro hn a168 w169 O hE e16 kp; replace e119 := kt kp e119; replace e120 := kt kp e120; refine Z1b O 0 0 hE e16 e119 ?_
          clear O; intro w170 O; replace O : OwnT _ _ ((tBlk hn 39 #[.int .u64 (h.g + 1), .int .i64 rt, .int .i64 h.a, .int .i64 h.b, .int .i64 h.c]) :: _) w170 := O
          refine sd 17 hE k (Z01 rfl e120) ?_; intro a171 hE e17 kp; replace e16 := kt kp e16; refine wpList_nil ?_; replace e1 := hE.g e1; replace e6 := hE.g e6; replace e7 := hE.g e7; replace e9 := hE.g e9; replace e10 := hE.g e10; replace e11 := hE.g e11; replace k := k.env hE; clear hE e72 e110; refine Z00 ?_; have hdl := (OwnT.disc (OwnT.pull O 10 rfl)).ok.len
          cases bq with
          | true =>
           obtain ⟨hok, hlo, hrt⟩ := hbq.1 rfl
           refine wp_seq ?_; refine wp_region_lit ?_
           have hE := Env.refl a171 [121, 122, 123, 124, 125, 126, 18]; refine zm 121 hE k e7 ?_; intro a172 hE e121 kp; apply Z03 122 hE k rfl rfl rfl rfl; case h =>
            simp [go_sem, ↓IntWalk.iteOmega, ev (hE.g e11)]
            with_reducible rfl
           intro a173 hE e122 kp; replace e121 := kt kp e121; refine sd 123 hE k (Z0a O 5 rfl rfl e122 rfl Tryz.underlying3 rfl) ?_; intro a174 hE e123 kp; replace e121 := kt kp e121; apply Z03 124 hE k rfl rfl rfl rfl; case h =>
            simp [go_sem, ↓IntWalk.iteOmega, ev (hE.g e11)]
            with_reducible rfl
           intro a175 hE e124 kp; replace e121 := kt kp e121; replace e123 := kt kp e123; refine sd 125 hE k (Z0a O 5 rfl rfl e124 rfl Tryz.underlying40 rfl) ?_; intro a176 hE e125 kp; replace e121 := kt kp e121; replace e123 := kt kp e123; apply Z06 126 hE k rfl (by rfl) (by rfl) rfl
           case h =>
            simp [go_sem, ↓IntWalk.iteOmega, ev e121, ev e123, ev e125]
            with_reducible exact ⟨rfl, rfl⟩
           case hc => exact Z5y (R := [tBlk hn 39 #[.int .u64 (h.g + 1), .int .i64 rt, .int .i64 h.a, .int .i64 h.b, .int .i64 h.c], tBlk ub 62 #[.int .i64 (↑(pgs Nn)), .slice (some ⟨g1, 0, none⟩) ((pgs Nn)) ((pgs Nn)), .slice (some ⟨g2, 0, none⟩) ((pgs Nn)) ((pgs Nn)), .slice (some ⟨g3, 0, none⟩) ((pgs Nn)) ((pgs Nn)), .int .u64 h.g, .int .i64 h.r, .int .i64 h.a, .int .i64 h.b, .int .i64 h.c], tBlk g1 4 (boA (pgs Nn) K), tBlk g2 4 (boA (pgs Nn) (isF F)), tBlk g3 47 (ndA (pgs Nn) T), tBlk xb 42 #[.int .i64 kd, .int .i64 nn, .int .i64 rt, .slice LA ls.length lc], tPool us QN]) (xs := ls) rt _ (OwnT.pick O [6, 7, 8, 9, 10, 11, 0, 1, 2, 3, 4, 5, 12] (by decide)) s7.ok (fun W OW => hL W OW.below) (by omega) s7.hd (by omega) s7.mok (by omega) hok hlo hrt s7.free
           clear O; rintro e w178 ⟨j, m', rfl, hj, O, ok', hh'⟩
           refine ⟨_, rfl, ?_⟩
           intro a177 hE e126 kp; refine sd 18 hE k (Z01 rfl e126) ?_; intro a179 hE e18 kp; refine wpList_nil ?_; replace e1 := hE.g e1; replace e6 := hE.g e6; replace e7 := hE.g e7; replace e9 := hE.g e9; replace e10 := hE.g e10; replace e11 := hE.g e11; replace e16 := hE.g e16; replace e17 := hE.g e17; replace k := k.env hE; clear hE; refine Z00 (wp_seq ?_); refine wp_seq ?_; refine wp_region_lit ?_
           have hE := Env.refl a179 [127, 128, 129, 130, 131, 132, 133, 134, 135, 136, 137, 138, 139]; refine zm 127 hE k e17 ?_; intro a180 hE e127 kp; refine sd 128 hE k (Z15 rfl e127) ?_; intro a181 hE e128 kp; refine sd 129 hE k (Z02 rfl e128) ?_; intro a182 hE e129 kp; refine Z05 130 hE k rfl (by rfl) (by rfl) rfl rfl (.inl e129) ?_
           intro a183 hE e130 kp; replace e129 := kt kp e129; refine Z05 131 hE k rfl (by rfl) (by rfl) rfl rfl (.inl e129) ?_
           intro a184 hE e131 kp; replace e129 := kt kp e129; refine sd 132 hE k (Z09 rfl e129 rfl) ?_; intro a185 hE e132 kp; refine sd 133 hE k (Z02 rfl e132) ?_; intro a186 hE e133 kp; apply Z04 134 hE k rfl rfl rfl rfl rfl e133
           case h =>
            exact Z02 rfl (hE.g e17)
           intro a187 hE e134 kp; replace e133 := kt kp e133; apply Z04 135 hE k rfl rfl rfl rfl rfl e133
           case h =>
            exact Z02 rfl e134
           intro a188 hE e135 kp; replace e133 := kt kp e133; apply Z04 136 hE k rfl rfl rfl rfl rfl e135
           case h =>
            exact Z02 rfl (hE.g e18)
           intro a189 hE e136 kp; replace e133 := kt kp e133; replace e135 := kt kp e135; apply Z04 137 hE k rfl rfl rfl rfl rfl e135
           case h =>
            exact Z0x rfl e136 rfl
           intro a190 hE e137 kp; replace e133 := kt kp e133; replace e135 := kt kp e135; apply Z04 138 hE k rfl rfl rfl rfl rfl e133
           case h =>
            exact Z0b rfl e135 e137
           intro a191 hE e138 kp; replace e133 := kt kp e133; refine sd 139 hE k (Z09 rfl e133 e138) ?_; intro a192 hE e139 kp; refine wpList_nil ?_; replace e1 := hE.g e1; replace e6 := hE.g e6; replace e7 := hE.g e7; replace e9 := hE.g e9; replace e10 := hE.g e10; replace e11 := hE.g e11; replace e16 := hE.g e16; replace e17 := hE.g e17; replace k := k.env hE; clear hE e18; refine Z00 ?_; refine Z07 e139 rfl ?_
           refine wp_skip ?_; refine Z00 (wp_seq ?_); refine wp_region_lit ?_
           have hE := Env.refl a192 [140]; refine zm 140 hE k e17 ?_; intro a193 hE e140 kp; refine wpList_nil ?_; replace e1 := hE.g e1; replace e6 := hE.g e6; replace e7 := hE.g e7; replace e9 := hE.g e9; replace e10 := hE.g e10; replace e11 := hE.g e11; replace e16 := hE.g e16; replace k := k.env hE; clear hE e17 e139; refine Z00 ?_; refine Z0h e140 rfl ?_
           replace O : OwnT _ _ ([tBlk ub 62 #[.int .i64 (↑(pgs Nn)), .slice (some ⟨g1, 0, none⟩) ((pgs Nn)) ((pgs Nn)), .slice (some ⟨g2, 0, none⟩) ((pgs Nn)) ((pgs Nn)), .slice (some ⟨g3, 0, none⟩) ((pgs Nn)) ((pgs Nn)), .int .u64 h.g, .int .i64 h.r, .int .i64 h.a, .int .i64 h.b, .int .i64 h.c], tBlk g1 4 (boA (pgs Nn) K), tBlk g2 4 (boA (pgs Nn) (isF F)), tBlk g3 47 (ndA (pgs Nn) T), tBlk hn 39 #[.int .u64 (h.g + 1), .int .i64 rt, .int .i64 h.a, .int .i64 h.b, .int .i64 h.c], tBlk xb 42 #[.int .i64 kd, .int .i64 nn, .int .i64 rt, .slice LA ls.length lc], tBlk sb 102 (stB p (nextHd h rt) (((1 - o : Nat) : Int)) kb fb), tMap kb 512 (keptV ((inP (pgs Nn) ls))), tMap fb 512 m', tPool vs N, tDisc p mb B Nn cap bm ((cmS S F (todo (pgs Nn) F ls) (1 - o) (hdB (nextHd h rt)))) noL, tMn mb (M.useN j), tPool us QN]) w178 := OwnT.pick O [7, 8, 9, 10, 6, 11, 0, 1, 2, 3, 4, 5, 12] (by decide)
           refine wp_region_lit ?_
           have hE := Env.refl a193 [141, 142, 143, 144, 145]; refine zm 141 hE k e9 ?_; intro a194 hE e141 kp; refine sd 142 hE k (Z1n O 4 rfl rfl (hE.g e16) [.int .u64 (h.g + 1), .int .i64 rt, .int .i64 h.a, .int .i64 h.b, .int .i64 h.c] rfl Tryz.underlying39 rfl (by kernel_rfl)) ?_; intro a195 hE e142 kp; replace e141 := kt kp e141; apply Z03 143 hE k rfl rfl rfl rfl; case h =>
            simp [go_sem, ↓IntWalk.iteOmega, ev (hE.g e11)]
            with_reducible rfl
           intro a196 hE e143 kp; replace e141 := kt kp e141; replace e142 := kt kp e142; refine sd 144 hE k (Z0a O 5 rfl rfl e143 rfl Tryz.underlying40 rfl) ?_; intro a197 hE e144 kp; replace e141 := kt kp e141; replace e142 := kt kp e142; apply Z06 145 hE k rfl (by rfl) (by rfl) rfl
           case h =>
            simp [go_sem, ↓IntWalk.iteOmega, ev e141, ev e142, ev e144]
            with_reducible exact ⟨rfl, rfl⟩
           case hc => exact ucommit_F (R := [tBlk hn 39 #[.int .u64 (h.g + 1), .int .i64 rt, .int .i64 h.a, .int .i64 h.b, .int .i64 h.c], tBlk xb 42 #[.int .i64 kd, .int .i64 nn, .int .i64 rt, .slice LA ls.length lc], tBlk sb 102 (stB p (nextHd h rt) (((1 - o : Nat) : Int)) kb fb), tMap kb 512 (keptV ((inP (pgs Nn) ls))), tMap fb 512 m', tPool vs N, tDisc p mb B Nn cap bm ((cmS S F (todo (pgs Nn) F ls) (1 - o) (hdB (nextHd h rt)))) noL, tMn mb (M.useN j), tPool us QN]) (xs := ls) _ O (fun W OW => hL W OW.below) (by omega) hPb (nextHd h rt) h0K h0F
           clear O; rintro e w199 ⟨rfl, O⟩
           refine ⟨_, rfl, ?_⟩
           intro a198 hE e145 kp; refine wpList_nil ?_; replace e1 := hE.g e1; replace e6 := hE.g e6; replace e7 := hE.g e7; replace e9 := hE.g e9; replace e10 := hE.g e10; replace k := k.env hE; clear hE e11 e16 e140 e145; refine Z0f ?_; refine Z00 ?_; replace O : OwnT _ _ ([tBlk ub 62 (usC (pgs Nn) g1 g2 g3 (nextHd h rt)), tBlk g1 4 (boA (pgs Nn) (inP (pgs Nn) ls)), tBlk g2 4 (boA (pgs Nn) (isF (fun _ => none))), tBlk g3 47 (ndA (pgs Nn) T), tBlk sb 102 (stB p (nextHd h rt) (((1 - o : Nat) : Int)) kb fb), tMap kb 512 (keptV ((inP (pgs Nn) ls))), tMap fb 512 m', tPool vs N, tDisc p mb B Nn cap bm ((cmS S F (todo (pgs Nn) F ls) (1 - o) (hdB (nextHd h rt)))) noL, tMn mb (M.useN j), tPool us QN]) w199 := OwnT.pick O [0, 1, 2, 3, 6, 7, 8, 9, 10, 11, 12] (by decide)
           exact ⟨k, e1, e6, e7, e9, e10, nextHd h rt, 1 - o, _, _, _, _, _, _, _, _, _, _, ⟨hh', by show 1 ≤ h.g + 1; omega, by show h.g + 1 ≤ _; omega, ok', fun _ _ => rfl, s7.rel.commit (by rw [hdl]; unfold pgs; omega) (by omega) hlo s7.ap, (s7.mok.useN j).mono (by omega), s7.free.useN j⟩, O⟩
          | false =>
           have hno : ¬ ((nextHd h rt).Ok ∧ ls.any (lostB (pgs Nn) K F) = false ∧ (rt = 0 ∨ rt ∈ ls)) := fun h => Bool.noConfusion (hbq.2 h)
           refine wp_seq ?_; refine wp_region_lit ?_
           have hE := Env.refl a171 [121, 122, 123, 124, 125, 126, 18]; refine zm 121 hE k e7 ?_; intro a200 hE e121 kp; apply Z03 122 hE k rfl rfl rfl rfl; case h =>
            simp [go_sem, ↓IntWalk.iteOmega, ev (hE.g e11)]
            with_reducible rfl
           intro a201 hE e122 kp; replace e121 := kt kp e121; refine sd 123 hE k (Z0a O 5 rfl rfl e122 rfl Tryz.underlying3 rfl) ?_; intro a202 hE e123 kp; replace e121 := kt kp e121; apply Z03 124 hE k rfl rfl rfl rfl; case h =>
            simp [go_sem, ↓IntWalk.iteOmega, ev (hE.g e11)]
            with_reducible rfl
           intro a203 hE e124 kp; replace e121 := kt kp e121; replace e123 := kt kp e123; refine sd 125 hE k (Z0a O 5 rfl rfl e124 rfl Tryz.underlying40 rfl) ?_; intro a204 hE e125 kp; replace e121 := kt kp e121; replace e123 := kt kp e123; apply Z06 126 hE k rfl (by rfl) (by rfl) rfl
           case h =>
            simp [go_sem, ↓IntWalk.iteOmega, ev e121, ev e123, ev e125]
            with_reducible exact ⟨rfl, rfl⟩
           case hc => exact Z8b (R := [tBlk hn 39 #[.int .u64 (h.g + 1), .int .i64 rt, .int .i64 h.a, .int .i64 h.b, .int .i64 h.c], tBlk ub 62 #[.int .i64 (↑(pgs Nn)), .slice (some ⟨g1, 0, none⟩) ((pgs Nn)) ((pgs Nn)), .slice (some ⟨g2, 0, none⟩) ((pgs Nn)) ((pgs Nn)), .slice (some ⟨g3, 0, none⟩) ((pgs Nn)) ((pgs Nn)), .int .u64 h.g, .int .i64 h.r, .int .i64 h.a, .int .i64 h.b, .int .i64 h.c], tBlk g1 4 (boA (pgs Nn) K), tBlk g2 4 (boA (pgs Nn) (isF F)), tBlk g3 47 (ndA (pgs Nn) T), tBlk xb 42 #[.int .i64 kd, .int .i64 nn, .int .i64 rt, .slice LA ls.length lc], tPool us QN]) (xs := ls) rt _ (OwnT.pick O [6, 7, 8, 9, 10, 11, 0, 1, 2, 3, 4, 5, 12] (by decide)) s7.ok (fun W OW => hL W OW.below) (by omega) (by omega) hno
           clear O; rintro e w206 ⟨rfl, O⟩
           refine ⟨_, rfl, ?_⟩
           intro a205 hE e126 kp; refine sd 18 hE k (Z01 rfl e126) ?_; intro a207 hE e18 kp; refine wpList_nil ?_; replace e1 := hE.g e1; replace e6 := hE.g e6; replace e7 := hE.g e7; replace e9 := hE.g e9; replace e10 := hE.g e10; replace e11 := hE.g e11; replace e16 := hE.g e16; replace e17 := hE.g e17; replace k := k.env hE; clear hE; refine Z00 (wp_seq ?_); refine wp_seq ?_; refine wp_region_lit ?_
           have hE := Env.refl a207 [127, 128, 129, 130, 131, 132, 133, 134, 135, 136, 137, 138, 139]; refine zm 127 hE k e17 ?_; intro a208 hE e127 kp; refine sd 128 hE k (Z15 rfl e127) ?_; intro a209 hE e128 kp; refine sd 129 hE k (Z02 rfl e128) ?_; intro a210 hE e129 kp; apply Z04 130 hE k rfl rfl rfl rfl rfl e129
           case h =>
            exact Z02 rfl (hE.g e18)
           intro a211 hE e130 kp; replace e129 := kt kp e129; apply Z04 131 hE k rfl rfl rfl rfl rfl e129
           case h =>
            exact Z0x rfl e130 rfl
           intro a212 hE e131 kp; replace e129 := kt kp e129; refine sd 132 hE k (Z0b rfl e129 e131) ?_; intro a213 hE e132 kp; refine sd 133 hE k (Z02 rfl e132) ?_; intro a214 hE e133 kp; apply Z04 134 hE k rfl rfl rfl rfl rfl e133
           case h =>
            exact Z02 rfl (hE.g e17)
           intro a215 hE e134 kp; replace e133 := kt kp e133; apply Z04 135 hE k rfl rfl rfl rfl rfl e133
           case h =>
            exact Z02 rfl e134
           intro a216 hE e135 kp; replace e133 := kt kp e133; refine Z05 136 hE k rfl (by rfl) (by rfl) rfl rfl (.inl e135) ?_
           intro a217 hE e136 kp; replace e133 := kt kp e133; replace e135 := kt kp e135; refine Z05 137 hE k rfl (by rfl) (by rfl) rfl rfl (.inl e135) ?_
           intro a218 hE e137 kp; replace e133 := kt kp e133; replace e135 := kt kp e135; apply Z04 138 hE k rfl rfl rfl rfl rfl e133
           case h =>
            exact Z09 rfl e135 rfl
           intro a219 hE e138 kp; replace e133 := kt kp e133; refine sd 139 hE k (Z09 rfl e133 e138) ?_; intro a220 hE e139 kp; refine wpList_nil ?_; replace e1 := hE.g e1; replace e6 := hE.g e6; replace e7 := hE.g e7; replace e9 := hE.g e9; replace e10 := hE.g e10; replace e11 := hE.g e11; replace e16 := hE.g e16; replace e17 := hE.g e17; replace k := k.env hE; clear hE e18; refine Z00 ?_; refine Z07 e139 rfl ?_
           refine wp_skip ?_; refine Z00 (wp_seq ?_); refine wp_region_lit ?_
           have hE := Env.refl a220 [140]; refine zm 140 hE k e17 ?_; intro a221 hE e140 kp; refine wpList_nil ?_; replace e1 := hE.g e1; replace e6 := hE.g e6; replace e7 := hE.g e7; replace e9 := hE.g e9; replace e10 := hE.g e10; replace e11 := hE.g e11; replace e16 := hE.g e16; replace k := k.env hE; clear hE e17 e139; refine Z00 ?_; refine Z07 e140 rfl ?_
           refine wp_skip ?_; refine Z0f ?_; refine Z00 ?_; replace O : OwnT _ _ ([tBlk ub 62 #[.int .i64 (↑(pgs Nn)), .slice (some ⟨g1, 0, none⟩) ((pgs Nn)) ((pgs Nn)), .slice (some ⟨g2, 0, none⟩) ((pgs Nn)) ((pgs Nn)), .slice (some ⟨g3, 0, none⟩) ((pgs Nn)) ((pgs Nn)), .int .u64 h.g, .int .i64 h.r, .int .i64 h.a, .int .i64 h.b, .int .i64 h.c], tBlk g1 4 (boA (pgs Nn) K), tBlk g2 4 (boA (pgs Nn) (isF F)), tBlk g3 47 (ndA (pgs Nn) T), tBlk sb 102 (stB p h (((o : Nat) : Int)) kb fb), tMap kb 512 (keptV K), tMap fb 512 m, tPool vs N, tDisc p mb B Nn cap bm S noL, tMn mb M, tPool us QN]) w206 := OwnT.pick O [7, 8, 9, 10, 0, 1, 2, 3, 4, 5, 12] (by decide)
           exact ⟨k, e1, e6, e7, e9, e10, _, _, _, _, _, _, _, _, _, _, _, _, s7.next, O⟩
        · skip
          by_cases hk5 : kd = 5
          · skip
            refine Z07 e73 rfl ?_
            refine wp_seq ?_; refine wp_region_lit ?_
            have hE := Env.refl a100 [101, 100]; refine sd 101 hE k (Z08 (Z19 rfl (hE.g e72) rfl) (decide_eq_false hk3)) ?_
            intro a222 hE e101 kp; refine sd 100 hE k (Z01 rfl e101) ?_; intro a223 hE e100 kp; refine wpList_nil ?_; replace e1 := hE.g e1; replace e6 := hE.g e6; replace e7 := hE.g e7; replace e9 := hE.g e9; replace e10 := hE.g e10; replace e11 := hE.g e11; replace e72 := hE.g e72; replace k := k.env hE; clear hE e73; refine Z00 ?_; refine Z07 e100 rfl ?_
            refine wp_seq ?_; refine wp_region_lit ?_
            have hE := Env.refl a223 [111, 110]; refine sd 111 hE k (Z08 (Z19 rfl (hE.g e72) rfl) (decide_eq_false hk4)) ?_
            intro a224 hE e111 kp; refine sd 110 hE k (Z01 rfl e111) ?_; intro a225 hE e110 kp; refine wpList_nil ?_; replace e1 := hE.g e1; replace e6 := hE.g e6; replace e7 := hE.g e7; replace e9 := hE.g e9; replace e10 := hE.g e10; replace e11 := hE.g e11; replace e72 := hE.g e72; replace k := k.env hE; clear hE e100; refine Z00 ?_; refine Z07 e110 rfl ?_
            refine wp_seq ?_; refine wp_region_lit ?_
            have hE := Env.refl a225 [147, 146]; refine sd 147 hE k (Z08 (Z19 rfl (hE.g e72) rfl) (decide_eq_true hk5)) ?_
            intro a226 hE e147 kp; refine sd 146 hE k (Z01 rfl e147) ?_; intro a227 hE e146 kp; refine wpList_nil ?_; replace e1 := hE.g e1; replace e6 := hE.g e6; replace e7 := hE.g e7; replace e9 := hE.g e9; replace e10 := hE.g e10; replace e11 := hE.g e11; replace e72 := hE.g e72; replace k := k.env hE; clear hE e110; refine Z00 ?_; refine Z0h e146 rfl ?_
            have hss := OwnT.stR O.tail.tail.tail.tail.tail
            have hdd := OwnT.disc (OwnT.pull O 9 rfl)
            by_cases hpr : 1 ≤ nn ∧ nn < (pgs Nn : Nat)
            rotate_left
            · skip
              by_cases hp1 : nn < 1
              · skip
                refine wp_seq ?_; refine wp_region_lit ?_
                have hE := Env.refl a227 [149, 150, 151, 152, 148, 153, 154, 19, 20]; refine zm 149 hE k e7 ?_; intro a228 hE e149 kp; apply Z03 150 hE k rfl rfl rfl rfl; case h =>
                 simp [go_sem, ↓IntWalk.iteOmega, ev (hE.g e11)]
                 with_reducible rfl
                intro a229 hE e150 kp; replace e149 := kt kp e149; refine sd 151 hE k (Z0a O 0 rfl rfl e150 rfl Tryz.underlying3 rfl) ?_; intro a230 hE e151 kp; replace e149 := kt kp e149; apply Z06 152 hE k rfl (by rfl) (by rfl) rfl
                case h =>
                 simp [go_sem, ↓IntWalk.iteOmega, ev e149, ev e151]
                 with_reducible exact ⟨rfl, rfl⟩
                case hc => exact Z4y nn _ hss hdd hpr
                rintro e w232 ⟨rfl, RE⟩
                replace O := OwnT.ext O RE; refine ⟨_, rfl, ?_⟩
                intro a231 hE e152 kp; refine sd 148 hE k (Z02 rfl e152) ?_; intro a233 hE e148 kp; apply Z03 153 hE k rfl rfl rfl rfl; case h =>
                 simp [go_sem, ↓IntWalk.iteOmega, ev e148]
                 with_reducible rfl
                intro a234 hE e153 kp; replace e148 := kt kp e148; apply Z03 154 hE k rfl rfl rfl rfl; case h =>
                 simp [go_sem, ↓IntWalk.iteOmega, ev e148]
                 with_reducible rfl
                intro a235 hE e154 kp; replace e153 := kt kp e153; refine Z0v O (cs := #[.int .i64 0, .slice none 0 0]) (t := 47) 19 hE k rfl (by rfl) (by rfl) rfl (by simp [go_sem, ↓IntWalk.iteOmega]) ?_
                clear O; intro lk a236 w237 O hE e19 kp; replace e153 := kt kp e153; replace e154 := kt kp e154; refine Z1b O 0 0 hE e19 e153 ?_
                clear O; intro w238 O; replace O : OwnT _ _ ((tBlk lk 47 #[.int .i64 0, .slice none 0 0]) :: _) w238 := O
                refine sd 20 hE k (Z01 rfl e154) ?_; intro a239 hE e20 kp; replace e19 := kt kp e19; refine wpList_nil ?_; replace e1 := hE.g e1; replace e6 := hE.g e6; replace e7 := hE.g e7; replace e9 := hE.g e9; replace e10 := hE.g e10; replace e11 := hE.g e11; replace k := k.env hE; clear hE e72 e146; refine Z00 (wp_seq ?_); refine wp_region_lit ?_
                have hE := Env.refl a239 [155, 156, 157, 158, 159, 160, 161, 162, 163]; apply Z03 155 hE k rfl rfl rfl rfl; case h =>
                 simp [go_sem, ↓IntWalk.iteOmega, ev (hE.g e11)]
                 with_reducible rfl
                intro a240 hE e155 kp; refine sd 156 hE k (Z0a O 1 rfl rfl e155 rfl Tryz.underlying3 rfl) ?_; intro a241 hE e156 kp; refine sd 157 hE k (Z08 (Z0z rfl e156 rfl) (decide_eq_true (by omega))) ?_
                intro a242 hE e157 kp; refine sd 158 hE k (Z02 rfl e157) ?_; intro a243 hE e158 kp; refine Z05 159 hE k rfl (by rfl) (by rfl) rfl rfl (.inl e158) ?_
                intro a244 hE e159 kp; replace e158 := kt kp e158; refine Z05 160 hE k rfl (by rfl) (by rfl) rfl rfl (.inl e158) ?_
                intro a245 hE e160 kp; replace e158 := kt kp e158; refine Z05 161 hE k rfl (by rfl) (by rfl) rfl rfl (.inl e158) ?_
                intro a246 hE e161 kp; replace e158 := kt kp e158; replace e160 := kt kp e160; refine Z05 162 hE k rfl (by rfl) (by rfl) rfl rfl (.inl e158) ?_
                intro a247 hE e162 kp; replace e158 := kt kp e158; refine sd 163 hE k (Z0b rfl e158 rfl) ?_; intro a248 hE e163 kp; refine wpList_nil ?_; replace e1 := hE.g e1; replace e6 := hE.g e6; replace e7 := hE.g e7; replace e9 := hE.g e9; replace e10 := hE.g e10; replace e11 := hE.g e11; replace e19 := hE.g e19; replace e20 := hE.g e20; replace k := k.env hE; clear hE; refine Z00 ?_; refine Z0h e163 rfl ?_
                refine wp_seq ?_; refine wp_region_lit ?_
                have hE := Env.refl a248 [164, 165]; refine zm 164 hE k e20 ?_; intro a249 hE e164 kp; refine sd 165 hE k (Z0x rfl e164 rfl) ?_; intro a250 hE e165 kp; refine wpList_nil ?_; replace e1 := hE.g e1; replace e6 := hE.g e6; replace e7 := hE.g e7; replace e9 := hE.g e9; replace e10 := hE.g e10; replace k := k.env hE; clear hE e11 e19 e20 e163; refine Z00 ?_; refine Z07 e165 rfl ?_
                refine wp_skip ?_; refine Z0f ?_; refine Z00 ?_; replace O : OwnT _ _ ([tBlk ub 62 #[.int .i64 (↑(pgs Nn)), .slice (some ⟨g1, 0, none⟩) ((pgs Nn)) ((pgs Nn)), .slice (some ⟨g2, 0, none⟩) ((pgs Nn)) ((pgs Nn)), .slice (some ⟨g3, 0, none⟩) ((pgs Nn)) ((pgs Nn)), .int .u64 h.g, .int .i64 h.r, .int .i64 h.a, .int .i64 h.b, .int .i64 h.c], tBlk g1 4 (boA (pgs Nn) K), tBlk g2 4 (boA (pgs Nn) (isF F)), tBlk g3 47 (ndA (pgs Nn) T), tBlk sb 102 (stB p h (((o : Nat) : Int)) kb fb), tMap kb 512 (keptV K), tMap fb 512 m, tPool vs N, tDisc p mb B Nn cap bm S noL, tMn mb M, tPool us QN]) w238 := OwnT.pick O [2, 3, 4, 5, 6, 7, 8, 9, 10, 11, 12] (by decide)
                exact ⟨k, e1, e6, e7, e9, e10, _, _, _, _, _, _, _, _, _, _, _, _, s7.next, O⟩
              · skip
                refine wp_seq ?_; refine wp_region_lit ?_
                have hE := Env.refl a227 [149, 150, 151, 152, 148, 153, 154, 19, 20]; refine zm 149 hE k e7 ?_; intro a251 hE e149 kp; apply Z03 150 hE k rfl rfl rfl rfl; case h =>
                 simp [go_sem, ↓IntWalk.iteOmega, ev (hE.g e11)]
                 with_reducible rfl
                intro a252 hE e150 kp; replace e149 := kt kp e149; refine sd 151 hE k (Z0a O 0 rfl rfl e150 rfl Tryz.underlying3 rfl) ?_; intro a253 hE e151 kp; replace e149 := kt kp e149; apply Z06 152 hE k rfl (by rfl) (by rfl) rfl
                case h =>
                 simp [go_sem, ↓IntWalk.iteOmega, ev e149, ev e151]
                 with_reducible exact ⟨rfl, rfl⟩
                case hc => exact Z4y nn _ hss hdd hpr
                rintro e w255 ⟨rfl, RE⟩
                replace O := OwnT.ext O RE; refine ⟨_, rfl, ?_⟩
                intro a254 hE e152 kp; refine sd 148 hE k (Z02 rfl e152) ?_; intro a256 hE e148 kp; apply Z03 153 hE k rfl rfl rfl rfl; case h =>
                 simp [go_sem, ↓IntWalk.iteOmega, ev e148]
                 with_reducible rfl
                intro a257 hE e153 kp; replace e148 := kt kp e148; apply Z03 154 hE k rfl rfl rfl rfl; case h =>
                 simp [go_sem, ↓IntWalk.iteOmega, ev e148]
                 with_reducible rfl
                intro a258 hE e154 kp; replace e153 := kt kp e153; refine Z0v O (cs := #[.int .i64 0, .slice none 0 0]) (t := 47) 19 hE k rfl (by rfl) (by rfl) rfl (by simp [go_sem, ↓IntWalk.iteOmega]) ?_
                clear O; intro lk a259 w260 O hE e19 kp; replace e153 := kt kp e153; replace e154 := kt kp e154; refine Z1b O 0 0 hE e19 e153 ?_
                clear O; intro w261 O; replace O : OwnT _ _ ((tBlk lk 47 #[.int .i64 0, .slice none 0 0]) :: _) w261 := O
                refine sd 20 hE k (Z01 rfl e154) ?_; intro a262 hE e20 kp; replace e19 := kt kp e19; refine wpList_nil ?_; replace e1 := hE.g e1; replace e6 := hE.g e6; replace e7 := hE.g e7; replace e9 := hE.g e9; replace e10 := hE.g e10; replace e11 := hE.g e11; replace k := k.env hE; clear hE e72 e146; refine Z00 (wp_seq ?_); refine wp_region_lit ?_
                have hE := Env.refl a262 [155, 156, 157, 158, 159, 160, 161, 162, 163]; apply Z03 155 hE k rfl rfl rfl rfl; case h =>
                 simp [go_sem, ↓IntWalk.iteOmega, ev (hE.g e11)]
                 with_reducible rfl
                intro a263 hE e155 kp; refine sd 156 hE k (Z0a O 1 rfl rfl e155 rfl Tryz.underlying3 rfl) ?_; intro a264 hE e156 kp; refine sd 157 hE k (Z08 (Z0z rfl e156 rfl) (decide_eq_false (by omega))) ?_
                intro a265 hE e157 kp; refine sd 158 hE k (Z02 rfl e157) ?_; intro a266 hE e158 kp; apply Z04 159 hE k rfl rfl rfl rfl rfl e158
                case h =>
                 simp [go_sem, ↓IntWalk.iteOmega, ev (hE.g e11)]
                 with_reducible rfl
                intro a267 hE e159 kp; replace e158 := kt kp e158; apply Z04 160 hE k rfl rfl rfl rfl rfl e158
                case h =>
                 exact Z0a O 1 rfl rfl e159 rfl Tryz.underlying3 rfl
                intro a268 hE e160 kp; replace e158 := kt kp e158; apply Z04 161 hE k rfl rfl rfl rfl rfl e158
                case h =>
                 exact Z02 rfl (hE.g e6)
                intro a269 hE e161 kp; replace e158 := kt kp e158; replace e160 := kt kp e160; apply Z04 162 hE k rfl rfl rfl rfl rfl e158
                case h =>
                 exact Z08 (Z1l rfl e160 e161) (decide_eq_true (by omega))
                intro a270 hE e162 kp; replace e158 := kt kp e158; refine sd 163 hE k (Z09 rfl e158 e162) ?_; intro a271 hE e163 kp; refine wpList_nil ?_; replace e1 := hE.g e1; replace e6 := hE.g e6; replace e7 := hE.g e7; replace e9 := hE.g e9; replace e10 := hE.g e10; replace e11 := hE.g e11; replace e19 := hE.g e19; replace e20 := hE.g e20; replace k := k.env hE; clear hE; refine Z00 ?_; refine Z0h e163 rfl ?_
                refine wp_seq ?_; refine wp_region_lit ?_
                have hE := Env.refl a271 [164, 165]; refine zm 164 hE k e20 ?_; intro a272 hE e164 kp; refine sd 165 hE k (Z0x rfl e164 rfl) ?_; intro a273 hE e165 kp; refine wpList_nil ?_; replace e1 := hE.g e1; replace e6 := hE.g e6; replace e7 := hE.g e7; replace e9 := hE.g e9; replace e10 := hE.g e10; replace k := k.env hE; clear hE e11 e19 e20 e163; refine Z00 ?_; refine Z07 e165 rfl ?_
                refine wp_skip ?_; refine Z0f ?_; refine Z00 ?_; replace O : OwnT _ _ ([tBlk ub 62 #[.int .i64 (↑(pgs Nn)), .slice (some ⟨g1, 0, none⟩) ((pgs Nn)) ((pgs Nn)), .slice (some ⟨g2, 0, none⟩) ((pgs Nn)) ((pgs Nn)), .slice (some ⟨g3, 0, none⟩) ((pgs Nn)) ((pgs Nn)), .int .u64 h.g, .int .i64 h.r, .int .i64 h.a, .int .i64 h.b, .int .i64 h.c], tBlk g1 4 (boA (pgs Nn) K), tBlk g2 4 (boA (pgs Nn) (isF F)), tBlk g3 47 (ndA (pgs Nn) T), tBlk sb 102 (stB p h (((o : Nat) : Int)) kb fb), tMap kb 512 (keptV K), tMap fb 512 m, tPool vs N, tDisc p mb B Nn cap bm S noL, tMn mb M, tPool us QN]) w261 := OwnT.pick O [2, 3, 4, 5, 6, 7, 8, 9, 10, 11, 12] (by decide)
                exact ⟨k, e1, e6, e7, e9, e10, _, _, _, _, _, _, _, _, _, _, _, _, s7.next, O⟩
            obtain ⟨q, rfl⟩ : ∃ q : Nat, nn = (q : Int) := ⟨nn.toNat, by omega⟩
            have hqP : q < pgs Nn := by omega
            cases hF : F (q : Int) with
            | some nd =>
             obtain ⟨iq, gq, n', hTq, hus, hqn, hndq, -⟩ := s7.rel q (by omega) hqP (.inr (by rw [hF]; rfl))
             obtain rfl := hndq nd hF
             have hGi : isF F ((q : Nat) : Int) = true := by show (F (q : Int)).isSome = true; rw [hF]; rfl

             refine wp_seq ?_; refine wp_region_lit ?_
             have hE := Env.refl a227 [149, 150, 151, 152, 148, 153, 154, 19, 20]; refine zm 149 hE k e7 ?_; intro a274 hE e149 kp; apply Z03 150 hE k rfl rfl rfl rfl; case h =>
              simp [go_sem, ↓IntWalk.iteOmega, ev (hE.g e11)]
              with_reducible rfl
             intro a275 hE e150 kp; replace e149 := kt kp e149; refine sd 151 hE k (Z0a O 0 rfl rfl e150 rfl Tryz.underlying3 rfl) ?_; intro a276 hE e151 kp; replace e149 := kt kp e149; apply Z06 152 hE k rfl (by rfl) (by rfl) rfl
             case h =>
              simp [go_sem, ↓IntWalk.iteOmega, ev e149, ev e151]
              with_reducible exact ⟨rfl, rfl⟩
             case hc => exact sread_new ↑q n' _ hss hdd s7.ok (OwnT.get O 8 rfl) hF
             rintro e w278 ⟨By, cy, rfl, hk, RE⟩
             replace O := OwnT.ext O RE; refine ⟨_, rfl, ?_⟩
             intro a277 hE e152 kp; refine sd 148 hE k (Z02 rfl e152) ?_; intro a279 hE e148 kp; apply Z03 153 hE k rfl rfl rfl rfl; case h =>
              simp [go_sem, ↓IntWalk.iteOmega, ev e148]
              with_reducible rfl
             intro a280 hE e153 kp; replace e148 := kt kp e148; apply Z03 154 hE k rfl rfl rfl rfl; case h =>
              simp [go_sem, ↓IntWalk.iteOmega, ev e148]
              with_reducible rfl
             intro a281 hE e154 kp; replace e153 := kt kp e153; refine Z4z O (cs := #[.int .i64 0, .slice none 0 0]) (t := 47) 19 hE k rfl (by rfl) (by rfl) rfl (by simp [go_sem, ↓IntWalk.iteOmega]) ?_
             clear O; intro lk a282 w283 RX O hE e19 kp; replace hk := Row.ext hk RX
             clear RX; replace e153 := kt kp e153; replace e154 := kt kp e154; have q0 : w283.cell? ⟨lk, 0, none⟩ = some (.int .i64 0) := (OwnT.blk O 0 rfl).cell 0
             have z0 : w283.frozen? ⟨lk, 0, none⟩ = false := (OwnT.blk O 0 rfl).frozen 0
             have q1 : w283.cell? ⟨lk, 1, none⟩ = some (.slice none 0 0) := (OwnT.blk O 0 rfl).cell 1
             have z1 : w283.frozen? ⟨lk, 1, none⟩ = false := (OwnT.blk O 0 rfl).frozen 1
             have hbr := OwnT.blk O 0 rfl
             refine Z2c (w' := ((w283.setCell ⟨lk, 0, none⟩ (.int .i64 0)).setCell ⟨lk, 1, none⟩ (.slice By 1 cy))) hE rfl rfl (by simp [go_sem, ↓IntWalk.iteOmega, ev e19, ev e153, q0, z0, q1, z1]) ?_
             replace O := OwnT.push 0 rfl (((OwnT.pull O 0 rfl).set 0 (.int .i64 0)).set 1 (.slice By 1 cy))
             replace hk := Z4m (v0 := .int .i64 0) (v1 := .slice By 1 cy) hk hbr
             clear hbr; clear q0 z0 q1 z1; generalize ((w283.setCell ⟨lk, 0, none⟩ (.int .i64 0)).setCell ⟨lk, 1, none⟩ (.slice By 1 cy)) = w284 at O hk ⊢
             replace O : OwnT _ _ ((tBlk lk 47 #[.int .i64 0, .slice By 1 cy]) :: _) w284 := O
             refine sd 20 hE k (Z01 rfl e154) ?_; intro a285 hE e20 kp; replace e19 := kt kp e19; refine wpList_nil ?_; replace e1 := hE.g e1; replace e6 := hE.g e6; replace e7 := hE.g e7; replace e9 := hE.g e9; replace e10 := hE.g e10; replace e11 := hE.g e11; replace k := k.env hE; clear hE e72 e146; refine Z00 (wp_seq ?_); refine wp_region_lit ?_
             have hE := Env.refl a285 [155, 156, 157, 158, 159, 160, 161, 162, 163]; apply Z03 155 hE k rfl rfl rfl rfl; case h =>
              simp [go_sem, ↓IntWalk.iteOmega, ev (hE.g e11)]
              with_reducible rfl
             intro a286 hE e155 kp; refine sd 156 hE k (Z0a O 1 rfl rfl e155 rfl Tryz.underlying3 rfl) ?_; intro a287 hE e156 kp; refine sd 157 hE k (Z08 (Z0z rfl e156 rfl) (decide_eq_false (by omega))) ?_
             intro a288 hE e157 kp; refine sd 158 hE k (Z02 rfl e157) ?_; intro a289 hE e158 kp; apply Z04 159 hE k rfl rfl rfl rfl rfl e158
             case h =>
              simp [go_sem, ↓IntWalk.iteOmega, ev (hE.g e11)]
              with_reducible rfl
             intro a290 hE e159 kp; replace e158 := kt kp e158; apply Z04 160 hE k rfl rfl rfl rfl rfl e158
             case h =>
              exact Z0a O 1 rfl rfl e159 rfl Tryz.underlying3 rfl
             intro a291 hE e160 kp; replace e158 := kt kp e158; apply Z04 161 hE k rfl rfl rfl rfl rfl e158
             case h =>
              exact Z02 rfl (hE.g e6)
             intro a292 hE e161 kp; replace e158 := kt kp e158; replace e160 := kt kp e160; apply Z04 162 hE k rfl rfl rfl rfl rfl e158
             case h =>
              exact Z08 (Z1l rfl e160 e161) (decide_eq_false (by omega))
             intro a293 hE e162 kp; replace e158 := kt kp e158; refine sd 163 hE k (Z09 rfl e158 e162) ?_; intro a294 hE e163 kp; refine wpList_nil ?_; replace e1 := hE.g e1; replace e6 := hE.g e6; replace e7 := hE.g e7; replace e9 := hE.g e9; replace e10 := hE.g e10; replace e11 := hE.g e11; replace e19 := hE.g e19; replace e20 := hE.g e20; replace k := k.env hE; clear hE; refine Z00 ?_; refine Z07 e163 rfl ?_
             refine wp_seq ?_; refine Z0l (R := Ext) (w0 := w284) [[], [0], [0, 1], [0, 1, 2], [], [4], rg 6, rg 7, rg 8, rg 9, rg 10, rg 11, rg 12, rg 9, [0, 1, 2, 3, 4, 5, 6, 7, 8, 13], rg 15, rg 16, rg 17] [166, 167, 168, 169, 170, 171, 172, 173, 174, 175, 176, 177, 178, 179, 180, 181, 182, 183] Ext.refl (fun _ _ _ => Ext.trans) (Ext.drew _) (by kernel_rfl) ?_
             refine bd 166 k rfl rfl rfl (fun ax wx hE hR hF => Z02 rfl (hE.g e9)) ?_
             refine bd 167 k rfl rfl rfl (fun ax wx hE hR hF => have e166 := zhF hF 0 166 ml0; Z0d rfl e166) ?_
             apply bd 168 k rfl rfl rfl; case h =>
              intro ax wx hE hR hF; have e167 := zhF hF 1 167 ml0; simp [go_sem, ↓IntWalk.iteOmega, ev e167]
              with_reducible rfl
             refine bd 169 k rfl rfl rfl (fun ax wx hE hR hF => have e168 := zhF hF 2 168 ml0; Z0a (OwnT.ext O hR) 2 rfl rfl e168 rfl Tryz.underlying59 rfl) ?_
             apply bd 170 k rfl rfl rfl; case h =>
              intro ax wx hE hR hF; simp [go_sem, ↓IntWalk.iteOmega, ev (hE.g e11)]
              with_reducible rfl
             refine bd 171 k rfl rfl rfl (fun ax wx hE hR hF => have e170 := zhF hF 4 170 ml0; Z0a (OwnT.ext O hR) 1 rfl rfl e170 rfl Tryz.underlying3 rfl) ?_
             apply bd 172 k rfl rfl rfl; case h =>
              intro ax wx hE hR hF; have e169 := zhF hF 3 169 ml2; have e171 := zhF hF 5 171 ml0; simp [go_sem, ↓IntWalk.iteOmega, ev e169, ev e171]
              with_reducible rfl
             apply bd 173 k rfl rfl rfl; case h =>
              intro ax wx hE hR hF; have e172 := zhF hF 6 172 ml0; have d1 := Z0u (OwnT.blk (OwnT.ext O hR) 4 rfl) hqP
              simp [go_sem, ↓IntWalk.iteOmega, ev e172, d1, hGi]
              with_reducible rfl
             refine bd 174 k rfl rfl rfl (fun ax wx hE hR hF => have e173 := zhF hF 7 173 ml0; Z02 rfl e173) ?_
             refine bsk 175 k rfl rfl rfl rfl (fun hF => zhF hF 8 174 ml0) ?_
             refine bsk 176 k rfl rfl rfl rfl (fun hF => zhF hF 8 174 ml1) ?_
             refine bsk 177 k rfl rfl rfl rfl (fun hF => zhF hF 8 174 ml2) ?_
             refine bsk 178 k rfl rfl rfl rfl (fun hF => zhF hF 8 174 ml3) ?_
             refine bsk 179 k rfl rfl rfl rfl (fun hF => zhF hF 8 174 ml4) ?_
             refine bsk 180 k rfl rfl rfl rfl (fun hF => zhF hF 8 174 ml5) ?_
             refine bsk 181 k rfl rfl rfl rfl (fun hF => zhF hF 8 174 ml6) ?_
             refine bsk 182 k rfl rfl rfl rfl (fun hF => zhF hF 8 174 ml7) ?_
             refine bd 183 k rfl rfl rfl (fun ax wx hE hR hF => have e174 := zhF hF 8 174 ml8; have e182 := zhF hF 16 182 ml0; Z0b rfl e174 rfl) ?_
             apply Build.stop
             refine ⟨by kernel_rfl, .inl ⟨rfl, ?_⟩⟩
             intro a295 w296 hE R hF; have e183 : a295.eval (.tmp 183) = _ := hF 17 (det 183 _) ml0
             clear hF; replace O := OwnT.ext O R; replace hk := Row.ext hk R
             clear R; replace e1 := hE.g e1; replace e6 := hE.g e6; replace e7 := hE.g e7; replace e9 := hE.g e9; replace e10 := hE.g e10; replace e11 := hE.g e11; replace e19 := hE.g e19; replace e20 := hE.g e20; replace k := k.env hE; clear hE e163; refine Z00 ?_; refine Z0h e183 rfl ?_
             have hpr2 : Row w296 (some ⟨gq, 0, none⟩) 2 pairC (nodeP n') := by obtain ⟨B9, c9, e9_, -, -, h9, -⟩ := Z4c ((OwnT.get O 12 rfl : (tPool us QN).holds _).2 iq _ _ hus hqn); cases e9_; exact h9
             refine wp_seq ?_; refine Z0l (R := Ext) (w0 := w296) [[], [0], [0, 1], [0, 1, 2], [0, 1, 2], [0, 1, 2, 4], [0, 1, 2, 4, 5], [0, 1, 2, 4, 5, 6], [0, 1, 2], [0, 1, 2, 8], [0, 1, 2, 4, 5, 6, 7, 8, 9], [0, 1, 2, 4, 5, 6, 7, 8, 9, 10], rg 12, rg 13, rg 14] [184, 185, 186, 187, 188, 189, 190, 191, 192, 193, 194, 195, 196, 197, 198] Ext.refl (fun _ _ _ => Ext.trans) (Ext.drew _) (by kernel_rfl) ?_
             refine bd 184 k rfl rfl rfl (fun ax wx hE hR hF => Z02 rfl (hE.g e20)) ?_
             refine bd 185 k rfl rfl rfl (fun ax wx hE hR hF => have e184 := zhF hF 0 184 ml0; Z08 (Z0x rfl e184 rfl) (decide_eq_false (by omega))) ?_
             refine bd 186 k rfl rfl rfl (fun ax wx hE hR hF => have e185 := zhF hF 1 185 ml0; Z02 rfl e185) ?_
             refine bdg 187 k rfl rfl rfl rfl (fun ax wx hE hR hF => have e186 := zhF hF 2 186 ml0; ⟨e186, Z1n (OwnT.ext O hR) 0 rfl rfl (hE.g e19) [.int .i64 0, .slice By 1 cy] rfl Tryz.underlying47 rfl (by kernel_rfl)⟩) ?_
             refine bdg 188 k rfl rfl rfl rfl (fun ax wx hE hR hF => have e186 := zhF hF 2 186 ml1; ⟨e186, Z02 rfl (hE.g e9)⟩) ?_
             refine bdg 189 k rfl rfl rfl rfl (fun ax wx hE hR hF => have e188 := zhF hF 4 188 ml0; have e186 := zhF hF 2 186 ml2; ⟨e186, Z0d rfl e188⟩) ?_
             apply bdg 190 k rfl rfl rfl rfl; case h =>
              intro ax wx hE hR hF; have e189 := zhF hF 5 189 ml0; have e186 := zhF hF 2 186 ml3; refine ⟨e186, ?_⟩; simp [go_sem, ↓IntWalk.iteOmega, ev e189]
              with_reducible rfl
             refine bdg 191 k rfl rfl rfl rfl (fun ax wx hE hR hF => have e190 := zhF hF 6 190 ml0; have e186 := zhF hF 2 186 ml4; ⟨e186, Z0a (OwnT.ext O hR) 2 rfl rfl e190 rfl Tryz.underlying60 rfl⟩) ?_
             apply bdg 192 k rfl rfl rfl rfl; case h =>
              intro ax wx hE hR hF; have e186 := zhF hF 2 186 ml5; refine ⟨e186, ?_⟩; simp [go_sem, ↓IntWalk.iteOmega, ev (hE.g e11)]
              with_reducible rfl
             refine bdg 193 k rfl rfl rfl rfl (fun ax wx hE hR hF => have e192 := zhF hF 8 192 ml0; have e186 := zhF hF 2 186 ml6; ⟨e186, Z0a (OwnT.ext O hR) 1 rfl rfl e192 rfl Tryz.underlying3 rfl⟩) ?_
             apply bdg 194 k rfl rfl rfl rfl; case h =>
              intro ax wx hE hR hF; have e191 := zhF hF 7 191 ml2; have e193 := zhF hF 9 193 ml0; have e186 := zhF hF 2 186 ml7; refine ⟨e186, ?_⟩; simp [go_sem, ↓IntWalk.iteOmega, ev e191, ev e193]
              with_reducible rfl
             apply bdg 195 k rfl rfl rfl rfl; case h =>
              intro ax wx hE hR hF; have e194 := zhF hF 10 194 ml0; have e186 := zhF hF 2 186 ml8; refine ⟨e186, ?_⟩; obtain ⟨d0, d1⟩ := nd_cell (OwnT.blk (OwnT.ext O hR) 5 rfl) hqP
              rw [Nat.mul_comm] at d0 d1
              rw [hTq] at d1
              simp [go_sem, ↓IntWalk.iteOmega, ev e194, d0, d1]
              with_reducible rfl
             apply Build.callg 196 Ext.refl (by rfl) (by rw [k.size]; rfl) rfl rfl
             case h =>
              intro ax wx hE hR hF; have e187 := zhF hF 3 187 ml8; have e195 := zhF hF 11 195 ml0; have e186 := zhF hF 2 186 ml9; refine ⟨e186, ?_⟩; simp [go_sem, ↓IntWalk.iteOmega, ev e187, ev e195]
              with_reducible exact ⟨rfl, rfl⟩
             case hc => intro wx hR; exact Z25 (cy := cy) (cz := 1) (a := n') (hk.ext hR) (hpr2.ext hR)
             refine bdg 197 k rfl rfl rfl rfl (fun ax wx hE hR hF => have e196 := zhF hF 12 196 ml0; have e186 := zhF hF 2 186 ml10; ⟨e186, Z15 rfl e196⟩) ?_
             refine bd 198 k rfl rfl rfl (fun ax wx hE hR hF => have e186 := zhF hF 2 186 ml11; have e197 := zhF hF 13 197 ml0; Z09 rfl e186 e197) ?_
             apply Build.stop
             refine ⟨by kernel_rfl, .inl ⟨rfl, ?_⟩⟩
             intro a297 w298 hE R hF; have e198 : a297.eval (.tmp 198) = _ := hF 14 (det 198 _) ml0
             clear hF; replace O := OwnT.ext O R; clear R; replace e1 := hE.g e1; replace e6 := hE.g e6; replace e7 := hE.g e7; replace e9 := hE.g e9; replace e10 := hE.g e10; replace k := k.env hE; clear hE e11 e19 e20 e183; refine Z00 ?_; refine Z07 e198 rfl ?_
             refine wp_skip ?_; refine Z0f ?_; refine Z00 ?_; replace O : OwnT _ _ ([tBlk ub 62 #[.int .i64 (↑(pgs Nn)), .slice (some ⟨g1, 0, none⟩) ((pgs Nn)) ((pgs Nn)), .slice (some ⟨g2, 0, none⟩) ((pgs Nn)) ((pgs Nn)), .slice (some ⟨g3, 0, none⟩) ((pgs Nn)) ((pgs Nn)), .int .u64 h.g, .int .i64 h.r, .int .i64 h.a, .int .i64 h.b, .int .i64 h.c], tBlk g1 4 (boA (pgs Nn) K), tBlk g2 4 (boA (pgs Nn) (isF F)), tBlk g3 47 (ndA (pgs Nn) T), tBlk sb 102 (stB p h (((o : Nat) : Int)) kb fb), tMap kb 512 (keptV K), tMap fb 512 m, tPool vs N, tDisc p mb B Nn cap bm S noL, tMn mb M, tPool us QN]) w298 := OwnT.pick O [2, 3, 4, 5, 6, 7, 8, 9, 10, 11, 12] (by decide)
             exact ⟨k, e1, e6, e7, e9, e10, _, _, _, _, _, _, _, _, _, _, _, _, s7.next, O⟩
            | none =>
             have hGi : isF F ((q : Nat) : Int) = false := by show (F (q : Int)).isSome = false; rw [hF]; rfl
             cases hK : K (q : Int) with
             | true =>
              obtain ⟨iq, gq, n', hTq, hus, hqn, -, hpq⟩ := s7.rel q (by omega) hqP (.inl hK)
              refine wp_seq ?_; refine wp_region_lit ?_
              have hE := Env.refl a227 [149, 150, 151, 152, 148, 153, 154, 19, 20]; refine zm 149 hE k e7 ?_; intro a299 hE e149 kp; apply Z03 150 hE k rfl rfl rfl rfl; case h =>
               simp [go_sem, ↓IntWalk.iteOmega, ev (hE.g e11)]
               with_reducible rfl
              intro a300 hE e150 kp; replace e149 := kt kp e149; refine sd 151 hE k (Z0a O 0 rfl rfl e150 rfl Tryz.underlying3 rfl) ?_; intro a301 hE e151 kp; replace e149 := kt kp e149; apply Z06 152 hE k rfl (by rfl) (by rfl) rfl
              case h =>
               simp [go_sem, ↓IntWalk.iteOmega, ev e149, ev e151]
               with_reducible exact ⟨rfl, rfl⟩
              case hc => exact Z5v (M := M) q ↑q n' rfl _ hss hdd s7.ok (by omega) hF (OwnT.get O 10 rfl) s7.free.1 (hpq hK)
              rintro e w303 ⟨By, cy, rfl, hk, RE⟩
              replace O := OwnT.ext O RE; refine ⟨_, rfl, ?_⟩
              intro a302 hE e152 kp; refine sd 148 hE k (Z02 rfl e152) ?_; intro a304 hE e148 kp; apply Z03 153 hE k rfl rfl rfl rfl; case h =>
               simp [go_sem, ↓IntWalk.iteOmega, ev e148]
               with_reducible rfl
              intro a305 hE e153 kp; replace e148 := kt kp e148; apply Z03 154 hE k rfl rfl rfl rfl; case h =>
               simp [go_sem, ↓IntWalk.iteOmega, ev e148]
               with_reducible rfl
              intro a306 hE e154 kp; replace e153 := kt kp e153; refine Z4z O (cs := #[.int .i64 0, .slice none 0 0]) (t := 47) 19 hE k rfl (by rfl) (by rfl) rfl (by simp [go_sem, ↓IntWalk.iteOmega]) ?_
              clear O; intro lk a307 w308 RX O hE e19 kp; replace hk := Row.ext hk RX
              clear RX; replace e153 := kt kp e153; replace e154 := kt kp e154; have q0 : w308.cell? ⟨lk, 0, none⟩ = some (.int .i64 0) := (OwnT.blk O 0 rfl).cell 0
              have z0 : w308.frozen? ⟨lk, 0, none⟩ = false := (OwnT.blk O 0 rfl).frozen 0
              have q1 : w308.cell? ⟨lk, 1, none⟩ = some (.slice none 0 0) := (OwnT.blk O 0 rfl).cell 1
              have z1 : w308.frozen? ⟨lk, 1, none⟩ = false := (OwnT.blk O 0 rfl).frozen 1
              have hbr := OwnT.blk O 0 rfl
              refine Z2c (w' := ((w308.setCell ⟨lk, 0, none⟩ (.int .i64 0)).setCell ⟨lk, 1, none⟩ (.slice By 1 cy))) hE rfl rfl (by simp [go_sem, ↓IntWalk.iteOmega, ev e19, ev e153, q0, z0, q1, z1]) ?_
              replace O := OwnT.push 0 rfl (((OwnT.pull O 0 rfl).set 0 (.int .i64 0)).set 1 (.slice By 1 cy))
              replace hk := Z4m (v0 := .int .i64 0) (v1 := .slice By 1 cy) hk hbr
              clear hbr; clear q0 z0 q1 z1; generalize ((w308.setCell ⟨lk, 0, none⟩ (.int .i64 0)).setCell ⟨lk, 1, none⟩ (.slice By 1 cy)) = w309 at O hk ⊢
              replace O : OwnT _ _ ((tBlk lk 47 #[.int .i64 0, .slice By 1 cy]) :: _) w309 := O
              refine sd 20 hE k (Z01 rfl e154) ?_; intro a310 hE e20 kp; replace e19 := kt kp e19; refine wpList_nil ?_; replace e1 := hE.g e1; replace e6 := hE.g e6; replace e7 := hE.g e7; replace e9 := hE.g e9; replace e10 := hE.g e10; replace e11 := hE.g e11; replace k := k.env hE; clear hE e72 e146; refine Z00 (wp_seq ?_); refine wp_region_lit ?_
              have hE := Env.refl a310 [155, 156, 157, 158, 159, 160, 161, 162, 163]; apply Z03 155 hE k rfl rfl rfl rfl; case h =>
               simp [go_sem, ↓IntWalk.iteOmega, ev (hE.g e11)]
               with_reducible rfl
              intro a311 hE e155 kp; refine sd 156 hE k (Z0a O 1 rfl rfl e155 rfl Tryz.underlying3 rfl) ?_; intro a312 hE e156 kp; refine sd 157 hE k (Z08 (Z0z rfl e156 rfl) (decide_eq_false (by omega))) ?_
              intro a313 hE e157 kp; refine sd 158 hE k (Z02 rfl e157) ?_; intro a314 hE e158 kp; apply Z04 159 hE k rfl rfl rfl rfl rfl e158
              case h =>
               simp [go_sem, ↓IntWalk.iteOmega, ev (hE.g e11)]
               with_reducible rfl
              intro a315 hE e159 kp; replace e158 := kt kp e158; apply Z04 160 hE k rfl rfl rfl rfl rfl e158
              case h =>
               exact Z0a O 1 rfl rfl e159 rfl Tryz.underlying3 rfl
              intro a316 hE e160 kp; replace e158 := kt kp e158; apply Z04 161 hE k rfl rfl rfl rfl rfl e158
              case h =>
               exact Z02 rfl (hE.g e6)
              intro a317 hE e161 kp; replace e158 := kt kp e158; replace e160 := kt kp e160; apply Z04 162 hE k rfl rfl rfl rfl rfl e158
              case h =>
               exact Z08 (Z1l rfl e160 e161) (decide_eq_false (by omega))
              intro a318 hE e162 kp; replace e158 := kt kp e158; refine sd 163 hE k (Z09 rfl e158 e162) ?_; intro a319 hE e163 kp; refine wpList_nil ?_; replace e1 := hE.g e1; replace e6 := hE.g e6; replace e7 := hE.g e7; replace e9 := hE.g e9; replace e10 := hE.g e10; replace e11 := hE.g e11; replace e19 := hE.g e19; replace e20 := hE.g e20; replace k := k.env hE; clear hE; refine Z00 ?_; refine Z07 e163 rfl ?_
              refine wp_seq ?_; refine Z0l (R := Ext) (w0 := w309) [[], [0], [0, 1], [0, 1, 2], [], [4], rg 6, rg 7, rg 8, rg 9, rg 10, rg 11, rg 12, rg 9, [0, 1, 2, 3, 4, 5, 6, 7, 8, 13], rg 15, rg 16, rg 17] [166, 167, 168, 169, 170, 171, 172, 173, 174, 175, 176, 177, 178, 179, 180, 181, 182, 183] Ext.refl (fun _ _ _ => Ext.trans) (Ext.drew _) (by kernel_rfl) ?_
              refine bd 166 k rfl rfl rfl (fun ax wx hE hR hF => Z02 rfl (hE.g e9)) ?_
              refine bd 167 k rfl rfl rfl (fun ax wx hE hR hF => have e166 := zhF hF 0 166 ml0; Z0d rfl e166) ?_
              apply bd 168 k rfl rfl rfl; case h =>
               intro ax wx hE hR hF; have e167 := zhF hF 1 167 ml0; simp [go_sem, ↓IntWalk.iteOmega, ev e167]
               with_reducible rfl
              refine bd 169 k rfl rfl rfl (fun ax wx hE hR hF => have e168 := zhF hF 2 168 ml0; Z0a (OwnT.ext O hR) 2 rfl rfl e168 rfl Tryz.underlying59 rfl) ?_
              apply bd 170 k rfl rfl rfl; case h =>
               intro ax wx hE hR hF; simp [go_sem, ↓IntWalk.iteOmega, ev (hE.g e11)]
               with_reducible rfl
              refine bd 171 k rfl rfl rfl (fun ax wx hE hR hF => have e170 := zhF hF 4 170 ml0; Z0a (OwnT.ext O hR) 1 rfl rfl e170 rfl Tryz.underlying3 rfl) ?_
              apply bd 172 k rfl rfl rfl; case h =>
               intro ax wx hE hR hF; have e169 := zhF hF 3 169 ml2; have e171 := zhF hF 5 171 ml0; simp [go_sem, ↓IntWalk.iteOmega, ev e169, ev e171]
               with_reducible rfl
              apply bd 173 k rfl rfl rfl; case h =>
               intro ax wx hE hR hF; have e172 := zhF hF 6 172 ml0; have d1 := Z0u (OwnT.blk (OwnT.ext O hR) 4 rfl) hqP
               simp [go_sem, ↓IntWalk.iteOmega, ev e172, d1, hGi]
               with_reducible rfl
              refine bd 174 k rfl rfl rfl (fun ax wx hE hR hF => have e173 := zhF hF 7 173 ml0; Z02 rfl e173) ?_
              refine bdg 175 k rfl rfl rfl rfl (fun ax wx hE hR hF => have e174 := zhF hF 8 174 ml0; ⟨e174, Z02 rfl (hE.g e9)⟩) ?_
              refine bdg 176 k rfl rfl rfl rfl (fun ax wx hE hR hF => have e175 := zhF hF 9 175 ml0; have e174 := zhF hF 8 174 ml1; ⟨e174, Z0d rfl e175⟩) ?_
              apply bdg 177 k rfl rfl rfl rfl; case h =>
               intro ax wx hE hR hF; have e176 := zhF hF 10 176 ml0; have e174 := zhF hF 8 174 ml2; refine ⟨e174, ?_⟩; simp [go_sem, ↓IntWalk.iteOmega, ev e176]
               with_reducible rfl
              refine bdg 178 k rfl rfl rfl rfl (fun ax wx hE hR hF => have e177 := zhF hF 11 177 ml0; have e174 := zhF hF 8 174 ml3; ⟨e174, Z0a (OwnT.ext O hR) 2 rfl rfl e177 rfl Tryz.underlying59 rfl⟩) ?_
              apply bdg 179 k rfl rfl rfl rfl; case h =>
               intro ax wx hE hR hF; have e174 := zhF hF 8 174 ml4; refine ⟨e174, ?_⟩; simp [go_sem, ↓IntWalk.iteOmega, ev (hE.g e11)]
               with_reducible rfl
              refine bdg 180 k rfl rfl rfl rfl (fun ax wx hE hR hF => have e179 := zhF hF 13 179 ml0; have e174 := zhF hF 8 174 ml5; ⟨e174, Z0a (OwnT.ext O hR) 1 rfl rfl e179 rfl Tryz.underlying3 rfl⟩) ?_
              apply bdg 181 k rfl rfl rfl rfl; case h =>
               intro ax wx hE hR hF; have e178 := zhF hF 12 178 ml2; have e180 := zhF hF 14 180 ml0; have e174 := zhF hF 8 174 ml6; refine ⟨e174, ?_⟩; simp [go_sem, ↓IntWalk.iteOmega, ev e178, ev e180]
               with_reducible rfl
              apply bdg 182 k rfl rfl rfl rfl; case h =>
               intro ax wx hE hR hF; have e181 := zhF hF 15 181 ml0; have e174 := zhF hF 8 174 ml7; refine ⟨e174, ?_⟩; have d1 := Z0u (OwnT.blk (OwnT.ext O hR) 3 rfl) hqP
               simp [go_sem, ↓IntWalk.iteOmega, ev e181, d1, hK]
               with_reducible rfl
              refine bd 183 k rfl rfl rfl (fun ax wx hE hR hF => have e174 := zhF hF 8 174 ml8; have e182 := zhF hF 16 182 ml0; Z09 rfl e174 e182) ?_
              apply Build.stop
              refine ⟨by kernel_rfl, .inl ⟨rfl, ?_⟩⟩
              intro a320 w321 hE R hF; have e183 : a320.eval (.tmp 183) = _ := hF 17 (det 183 _) ml0
              clear hF; replace O := OwnT.ext O R; replace hk := Row.ext hk R
              clear R; replace e1 := hE.g e1; replace e6 := hE.g e6; replace e7 := hE.g e7; replace e9 := hE.g e9; replace e10 := hE.g e10; replace e11 := hE.g e11; replace e19 := hE.g e19; replace e20 := hE.g e20; replace k := k.env hE; clear hE e163; refine Z00 ?_; refine Z0h e183 rfl ?_
              have hpr2 : Row w321 (some ⟨gq, 0, none⟩) 2 pairC (nodeP n') := by obtain ⟨B9, c9, e9_, -, -, h9, -⟩ := Z4c ((OwnT.get O 12 rfl : (tPool us QN).holds _).2 iq _ _ hus hqn); cases e9_; exact h9
              refine wp_seq ?_; refine Z0l (R := Ext) (w0 := w321) [[], [0], [0, 1], [0, 1, 2], [0, 1, 2], [0, 1, 2, 4], [0, 1, 2, 4, 5], [0, 1, 2, 4, 5, 6], [0, 1, 2], [0, 1, 2, 8], [0, 1, 2, 4, 5, 6, 7, 8, 9], [0, 1, 2, 4, 5, 6, 7, 8, 9, 10], rg 12, rg 13, rg 14] [184, 185, 186, 187, 188, 189, 190, 191, 192, 193, 194, 195, 196, 197, 198] Ext.refl (fun _ _ _ => Ext.trans) (Ext.drew _) (by kernel_rfl) ?_
              refine bd 184 k rfl rfl rfl (fun ax wx hE hR hF => Z02 rfl (hE.g e20)) ?_
              refine bd 185 k rfl rfl rfl (fun ax wx hE hR hF => have e184 := zhF hF 0 184 ml0; Z08 (Z0x rfl e184 rfl) (decide_eq_false (by omega))) ?_
              refine bd 186 k rfl rfl rfl (fun ax wx hE hR hF => have e185 := zhF hF 1 185 ml0; Z02 rfl e185) ?_
              refine bdg 187 k rfl rfl rfl rfl (fun ax wx hE hR hF => have e186 := zhF hF 2 186 ml0; ⟨e186, Z1n (OwnT.ext O hR) 0 rfl rfl (hE.g e19) [.int .i64 0, .slice By 1 cy] rfl Tryz.underlying47 rfl (by kernel_rfl)⟩) ?_
              refine bdg 188 k rfl rfl rfl rfl (fun ax wx hE hR hF => have e186 := zhF hF 2 186 ml1; ⟨e186, Z02 rfl (hE.g e9)⟩) ?_
              refine bdg 189 k rfl rfl rfl rfl (fun ax wx hE hR hF => have e188 := zhF hF 4 188 ml0; have e186 := zhF hF 2 186 ml2; ⟨e186, Z0d rfl e188⟩) ?_
              apply bdg 190 k rfl rfl rfl rfl; case h =>
               intro ax wx hE hR hF; have e189 := zhF hF 5 189 ml0; have e186 := zhF hF 2 186 ml3; refine ⟨e186, ?_⟩; simp [go_sem, ↓IntWalk.iteOmega, ev e189]
               with_reducible rfl
              refine bdg 191 k rfl rfl rfl rfl (fun ax wx hE hR hF => have e190 := zhF hF 6 190 ml0; have e186 := zhF hF 2 186 ml4; ⟨e186, Z0a (OwnT.ext O hR) 2 rfl rfl e190 rfl Tryz.underlying60 rfl⟩) ?_
              apply bdg 192 k rfl rfl rfl rfl; case h =>
               intro ax wx hE hR hF; have e186 := zhF hF 2 186 ml5; refine ⟨e186, ?_⟩; simp [go_sem, ↓IntWalk.iteOmega, ev (hE.g e11)]
               with_reducible rfl
              refine bdg 193 k rfl rfl rfl rfl (fun ax wx hE hR hF => have e192 := zhF hF 8 192 ml0; have e186 := zhF hF 2 186 ml6; ⟨e186, Z0a (OwnT.ext O hR) 1 rfl rfl e192 rfl Tryz.underlying3 rfl⟩) ?_
              apply bdg 194 k rfl rfl rfl rfl; case h =>
               intro ax wx hE hR hF; have e191 := zhF hF 7 191 ml2; have e193 := zhF hF 9 193 ml0; have e186 := zhF hF 2 186 ml7; refine ⟨e186, ?_⟩; simp [go_sem, ↓IntWalk.iteOmega, ev e191, ev e193]
               with_reducible rfl
              apply bdg 195 k rfl rfl rfl rfl; case h =>
               intro ax wx hE hR hF; have e194 := zhF hF 10 194 ml0; have e186 := zhF hF 2 186 ml8; refine ⟨e186, ?_⟩; obtain ⟨d0, d1⟩ := nd_cell (OwnT.blk (OwnT.ext O hR) 5 rfl) hqP
               rw [Nat.mul_comm] at d0 d1
               rw [hTq] at d1
               simp [go_sem, ↓IntWalk.iteOmega, ev e194, d0, d1]
               with_reducible rfl
              apply Build.callg 196 Ext.refl (by rfl) (by rw [k.size]; rfl) rfl rfl
              case h =>
               intro ax wx hE hR hF; have e187 := zhF hF 3 187 ml8; have e195 := zhF hF 11 195 ml0; have e186 := zhF hF 2 186 ml9; refine ⟨e186, ?_⟩; simp [go_sem, ↓IntWalk.iteOmega, ev e187, ev e195]
               with_reducible exact ⟨rfl, rfl⟩
              case hc => intro wx hR; exact Z25 (cy := cy) (cz := 1) (a := n') (hk.ext hR) (hpr2.ext hR)
              refine bdg 197 k rfl rfl rfl rfl (fun ax wx hE hR hF => have e196 := zhF hF 12 196 ml0; have e186 := zhF hF 2 186 ml10; ⟨e186, Z15 rfl e196⟩) ?_
              refine bd 198 k rfl rfl rfl (fun ax wx hE hR hF => have e186 := zhF hF 2 186 ml11; have e197 := zhF hF 13 197 ml0; Z09 rfl e186 e197) ?_
              apply Build.stop
              refine ⟨by kernel_rfl, .inl ⟨rfl, ?_⟩⟩
              intro a322 w323 hE R hF; have e198 : a322.eval (.tmp 198) = _ := hF 14 (det 198 _) ml0
              clear hF; replace O := OwnT.ext O R; clear R; replace e1 := hE.g e1; replace e6 := hE.g e6; replace e7 := hE.g e7; replace e9 := hE.g e9; replace e10 := hE.g e10; replace k := k.env hE; clear hE e11 e19 e20 e183; refine Z00 ?_; refine Z07 e198 rfl ?_
              refine wp_skip ?_; refine Z0f ?_; refine Z00 ?_; replace O : OwnT _ _ ([tBlk ub 62 #[.int .i64 (↑(pgs Nn)), .slice (some ⟨g1, 0, none⟩) ((pgs Nn)) ((pgs Nn)), .slice (some ⟨g2, 0, none⟩) ((pgs Nn)) ((pgs Nn)), .slice (some ⟨g3, 0, none⟩) ((pgs Nn)) ((pgs Nn)), .int .u64 h.g, .int .i64 h.r, .int .i64 h.a, .int .i64 h.b, .int .i64 h.c], tBlk g1 4 (boA (pgs Nn) K), tBlk g2 4 (boA (pgs Nn) (isF F)), tBlk g3 47 (ndA (pgs Nn) T), tBlk sb 102 (stB p h (((o : Nat) : Int)) kb fb), tMap kb 512 (keptV K), tMap fb 512 m, tPool vs N, tDisc p mb B Nn cap bm S noL, tMn mb M, tPool us QN]) w323 := OwnT.pick O [2, 3, 4, 5, 6, 7, 8, 9, 10, 11, 12] (by decide)
              exact ⟨k, e1, e6, e7, e9, e10, _, _, _, _, _, _, _, _, _, _, _, _, s7.next, O⟩
             | false =>
              refine wp_seq ?_; refine wp_region_lit ?_
              have hE := Env.refl a227 [149, 150, 151, 152, 148, 153, 154, 19, 20]; refine zm 149 hE k e7 ?_; intro a324 hE e149 kp; apply Z03 150 hE k rfl rfl rfl rfl; case h =>
               simp [go_sem, ↓IntWalk.iteOmega, ev (hE.g e11)]
               with_reducible rfl
              intro a325 hE e150 kp; replace e149 := kt kp e149; refine sd 151 hE k (Z0a O 0 rfl rfl e150 rfl Tryz.underlying3 rfl) ?_; intro a326 hE e151 kp; replace e149 := kt kp e149; apply Z06 152 hE k rfl (by rfl) (by rfl) rfl
              case h =>
               simp [go_sem, ↓IntWalk.iteOmega, ev e149, ev e151]
               with_reducible exact ⟨rfl, rfl⟩
              case hc => exact sread_some (M := M) q _ hss hdd s7.ok hpr hF (OwnT.get O 10 rfl) s7.free.1
              rintro e w328 ⟨lv9, ct9, By, cy, ef, rfl, RE⟩
              replace O := OwnT.ext O RE; refine ⟨_, rfl, ?_⟩
              intro a327 hE e152 kp; refine sd 148 hE k (Z02 rfl e152) ?_; intro a329 hE e148 kp; apply Z03 153 hE k rfl rfl rfl rfl; case h =>
               simp [go_sem, ↓IntWalk.iteOmega, ev e148]
               with_reducible rfl
              intro a330 hE e153 kp; replace e148 := kt kp e148; apply Z03 154 hE k rfl rfl rfl rfl; case h =>
               simp [go_sem, ↓IntWalk.iteOmega, ev e148]
               with_reducible rfl
              intro a331 hE e154 kp; replace e153 := kt kp e153; refine Z0v O (cs := #[.int .i64 0, .slice none 0 0]) (t := 47) 19 hE k rfl (by rfl) (by rfl) rfl (by simp [go_sem, ↓IntWalk.iteOmega]) ?_
              clear O; intro lk a332 w333 O hE e19 kp; replace e153 := kt kp e153; replace e154 := kt kp e154; refine Z1b O 0 0 hE e19 e153 ?_
              clear O; intro w334 O; replace O : OwnT _ _ ((tBlk lk 47 #[.int .i64 ↑lv9, .slice By ct9 cy]) :: _) w334 := O
              refine sd 20 hE k (Z01 rfl e154) ?_; intro a335 hE e20 kp; replace e19 := kt kp e19; refine wpList_nil ?_; replace e1 := hE.g e1; replace e6 := hE.g e6; replace e7 := hE.g e7; replace e9 := hE.g e9; replace e10 := hE.g e10; replace e11 := hE.g e11; replace k := k.env hE; clear hE e72 e146; refine Z00 (wp_seq ?_); refine wp_region_lit ?_
              have hE := Env.refl a335 [155, 156, 157, 158, 159, 160, 161, 162, 163]; apply Z03 155 hE k rfl rfl rfl rfl; case h =>
               simp [go_sem, ↓IntWalk.iteOmega, ev (hE.g e11)]
               with_reducible rfl
              intro a336 hE e155 kp; refine sd 156 hE k (Z0a O 1 rfl rfl e155 rfl Tryz.underlying3 rfl) ?_; intro a337 hE e156 kp; refine sd 157 hE k (Z08 (Z0z rfl e156 rfl) (decide_eq_false (by omega))) ?_
              intro a338 hE e157 kp; refine sd 158 hE k (Z02 rfl e157) ?_; intro a339 hE e158 kp; apply Z04 159 hE k rfl rfl rfl rfl rfl e158
              case h =>
               simp [go_sem, ↓IntWalk.iteOmega, ev (hE.g e11)]
               with_reducible rfl
              intro a340 hE e159 kp; replace e158 := kt kp e158; apply Z04 160 hE k rfl rfl rfl rfl rfl e158
              case h =>
               exact Z0a O 1 rfl rfl e159 rfl Tryz.underlying3 rfl
              intro a341 hE e160 kp; replace e158 := kt kp e158; apply Z04 161 hE k rfl rfl rfl rfl rfl e158
              case h =>
               exact Z02 rfl (hE.g e6)
              intro a342 hE e161 kp; replace e158 := kt kp e158; replace e160 := kt kp e160; apply Z04 162 hE k rfl rfl rfl rfl rfl e158
              case h =>
               exact Z08 (Z1l rfl e160 e161) (decide_eq_false (by omega))
              intro a343 hE e162 kp; replace e158 := kt kp e158; refine sd 163 hE k (Z09 rfl e158 e162) ?_; intro a344 hE e163 kp; refine wpList_nil ?_; replace e1 := hE.g e1; replace e6 := hE.g e6; replace e7 := hE.g e7; replace e9 := hE.g e9; replace e10 := hE.g e10; replace e11 := hE.g e11; replace e19 := hE.g e19; replace e20 := hE.g e20; replace k := k.env hE; clear hE; refine Z00 ?_; refine Z07 e163 rfl ?_
              refine wp_seq ?_; refine Z0l (R := Ext) (w0 := w334) [[], [0], [0, 1], [0, 1, 2], [], [4], rg 6, rg 7, rg 8, rg 9, rg 10, rg 11, rg 12, rg 9, [0, 1, 2, 3, 4, 5, 6, 7, 8, 13], rg 15, rg 16, rg 17] [166, 167, 168, 169, 170, 171, 172, 173, 174, 175, 176, 177, 178, 179, 180, 181, 182, 183] Ext.refl (fun _ _ _ => Ext.trans) (Ext.drew _) (by kernel_rfl) ?_
              refine bd 166 k rfl rfl rfl (fun ax wx hE hR hF => Z02 rfl (hE.g e9)) ?_
              refine bd 167 k rfl rfl rfl (fun ax wx hE hR hF => have e166 := zhF hF 0 166 ml0; Z0d rfl e166) ?_
              apply bd 168 k rfl rfl rfl; case h =>
               intro ax wx hE hR hF; have e167 := zhF hF 1 167 ml0; simp [go_sem, ↓IntWalk.iteOmega, ev e167]
               with_reducible rfl
              refine bd 169 k rfl rfl rfl (fun ax wx hE hR hF => have e168 := zhF hF 2 168 ml0; Z0a (OwnT.ext O hR) 2 rfl rfl e168 rfl Tryz.underlying59 rfl) ?_
              apply bd 170 k rfl rfl rfl; case h =>
               intro ax wx hE hR hF; simp [go_sem, ↓IntWalk.iteOmega, ev (hE.g e11)]
               with_reducible rfl
              refine bd 171 k rfl rfl rfl (fun ax wx hE hR hF => have e170 := zhF hF 4 170 ml0; Z0a (OwnT.ext O hR) 1 rfl rfl e170 rfl Tryz.underlying3 rfl) ?_
              apply bd 172 k rfl rfl rfl; case h =>
               intro ax wx hE hR hF; have e169 := zhF hF 3 169 ml2; have e171 := zhF hF 5 171 ml0; simp [go_sem, ↓IntWalk.iteOmega, ev e169, ev e171]
               with_reducible rfl
              apply bd 173 k rfl rfl rfl; case h =>
               intro ax wx hE hR hF; have e172 := zhF hF 6 172 ml0; have d1 := Z0u (OwnT.blk (OwnT.ext O hR) 4 rfl) hqP
               simp [go_sem, ↓IntWalk.iteOmega, ev e172, d1, hGi]
               with_reducible rfl
              refine bd 174 k rfl rfl rfl (fun ax wx hE hR hF => have e173 := zhF hF 7 173 ml0; Z02 rfl e173) ?_
              refine bdg 175 k rfl rfl rfl rfl (fun ax wx hE hR hF => have e174 := zhF hF 8 174 ml0; ⟨e174, Z02 rfl (hE.g e9)⟩) ?_
              refine bdg 176 k rfl rfl rfl rfl (fun ax wx hE hR hF => have e175 := zhF hF 9 175 ml0; have e174 := zhF hF 8 174 ml1; ⟨e174, Z0d rfl e175⟩) ?_
              apply bdg 177 k rfl rfl rfl rfl; case h =>
               intro ax wx hE hR hF; have e176 := zhF hF 10 176 ml0; have e174 := zhF hF 8 174 ml2; refine ⟨e174, ?_⟩; simp [go_sem, ↓IntWalk.iteOmega, ev e176]
               with_reducible rfl
              refine bdg 178 k rfl rfl rfl rfl (fun ax wx hE hR hF => have e177 := zhF hF 11 177 ml0; have e174 := zhF hF 8 174 ml3; ⟨e174, Z0a (OwnT.ext O hR) 2 rfl rfl e177 rfl Tryz.underlying59 rfl⟩) ?_
              apply bdg 179 k rfl rfl rfl rfl; case h =>
               intro ax wx hE hR hF; have e174 := zhF hF 8 174 ml4; refine ⟨e174, ?_⟩; simp [go_sem, ↓IntWalk.iteOmega, ev (hE.g e11)]
               with_reducible rfl
              refine bdg 180 k rfl rfl rfl rfl (fun ax wx hE hR hF => have e179 := zhF hF 13 179 ml0; have e174 := zhF hF 8 174 ml5; ⟨e174, Z0a (OwnT.ext O hR) 1 rfl rfl e179 rfl Tryz.underlying3 rfl⟩) ?_
              apply bdg 181 k rfl rfl rfl rfl; case h =>
               intro ax wx hE hR hF; have e178 := zhF hF 12 178 ml2; have e180 := zhF hF 14 180 ml0; have e174 := zhF hF 8 174 ml6; refine ⟨e174, ?_⟩; simp [go_sem, ↓IntWalk.iteOmega, ev e178, ev e180]
               with_reducible rfl
              apply bdg 182 k rfl rfl rfl rfl; case h =>
               intro ax wx hE hR hF; have e181 := zhF hF 15 181 ml0; have e174 := zhF hF 8 174 ml7; refine ⟨e174, ?_⟩; have d1 := Z0u (OwnT.blk (OwnT.ext O hR) 3 rfl) hqP
               simp [go_sem, ↓IntWalk.iteOmega, ev e181, d1, hK]
               with_reducible rfl
              refine bd 183 k rfl rfl rfl (fun ax wx hE hR hF => have e174 := zhF hF 8 174 ml8; have e182 := zhF hF 16 182 ml0; Z09 rfl e174 e182) ?_
              apply Build.stop
              refine ⟨by kernel_rfl, .inl ⟨rfl, ?_⟩⟩
              intro a345 w346 hE R hF; have e183 : a345.eval (.tmp 183) = _ := hF 17 (det 183 _) ml0
              clear hF; replace O := OwnT.ext O R; clear R; replace e1 := hE.g e1; replace e6 := hE.g e6; replace e7 := hE.g e7; replace e9 := hE.g e9; replace e10 := hE.g e10; replace e11 := hE.g e11; replace e19 := hE.g e19; replace e20 := hE.g e20; replace k := k.env hE; clear hE e163; refine Z00 ?_; refine Z07 e183 rfl ?_
              refine wp_skip ?_; refine Z0f ?_; refine Z00 ?_; replace O : OwnT _ _ ([tBlk ub 62 #[.int .i64 (↑(pgs Nn)), .slice (some ⟨g1, 0, none⟩) ((pgs Nn)) ((pgs Nn)), .slice (some ⟨g2, 0, none⟩) ((pgs Nn)) ((pgs Nn)), .slice (some ⟨g3, 0, none⟩) ((pgs Nn)) ((pgs Nn)), .int .u64 h.g, .int .i64 h.r, .int .i64 h.a, .int .i64 h.b, .int .i64 h.c], tBlk g1 4 (boA (pgs Nn) K), tBlk g2 4 (boA (pgs Nn) (isF F)), tBlk g3 47 (ndA (pgs Nn) T), tBlk sb 102 (stB p h (((o : Nat) : Int)) kb fb), tMap kb 512 (keptV K), tMap fb 512 m, tPool vs N, tDisc p mb B Nn cap bm S noL, tMn mb M, tPool us QN]) w346 := OwnT.pick O [2, 3, 4, 5, 6, 7, 8, 9, 10, 11, 12] (by decide)
              exact ⟨k, e1, e6, e7, e9, e10, _, _, _, _, _, _, _, _, _, _, _, _, s7.next, O⟩
          · skip
            by_cases hk6 : kd = 6
            · skip
              refine Z07 e73 rfl ?_
              refine wp_seq ?_; refine wp_region_lit ?_
              have hE := Env.refl a100 [101, 100]; refine sd 101 hE k (Z08 (Z19 rfl (hE.g e72) rfl) (decide_eq_false hk3)) ?_
              intro a347 hE e101 kp; refine sd 100 hE k (Z01 rfl e101) ?_; intro a348 hE e100 kp; refine wpList_nil ?_; replace e1 := hE.g e1; replace e6 := hE.g e6; replace e7 := hE.g e7; replace e9 := hE.g e9; replace e10 := hE.g e10; replace e11 := hE.g e11; replace e72 := hE.g e72; replace k := k.env hE; clear hE e73; refine Z00 ?_; refine Z07 e100 rfl ?_
              refine wp_seq ?_; refine wp_region_lit ?_
              have hE := Env.refl a348 [111, 110]; refine sd 111 hE k (Z08 (Z19 rfl (hE.g e72) rfl) (decide_eq_false hk4)) ?_
              intro a349 hE e111 kp; refine sd 110 hE k (Z01 rfl e111) ?_; intro a350 hE e110 kp; refine wpList_nil ?_; replace e1 := hE.g e1; replace e6 := hE.g e6; replace e7 := hE.g e7; replace e9 := hE.g e9; replace e10 := hE.g e10; replace e11 := hE.g e11; replace e72 := hE.g e72; replace k := k.env hE; clear hE e100; refine Z00 ?_; refine Z07 e110 rfl ?_
              refine wp_seq ?_; refine wp_region_lit ?_
              have hE := Env.refl a350 [147, 146]; refine sd 147 hE k (Z08 (Z19 rfl (hE.g e72) rfl) (decide_eq_false hk5)) ?_
              intro a351 hE e147 kp; refine sd 146 hE k (Z01 rfl e147) ?_; intro a352 hE e146 kp; refine wpList_nil ?_; replace e1 := hE.g e1; replace e6 := hE.g e6; replace e7 := hE.g e7; replace e9 := hE.g e9; replace e10 := hE.g e10; replace e11 := hE.g e11; replace e72 := hE.g e72; replace k := k.env hE; clear hE e110; refine Z00 ?_; refine Z07 e146 rfl ?_
              refine wp_seq ?_; refine wp_region_lit ?_
              have hE := Env.refl a352 [200, 199]; refine sd 200 hE k (Z08 (Z19 rfl (hE.g e72) rfl) (decide_eq_true hk6)) ?_
              intro a353 hE e200 kp; refine sd 199 hE k (Z01 rfl e200) ?_; intro a354 hE e199 kp; refine wpList_nil ?_; replace e1 := hE.g e1; replace e6 := hE.g e6; replace e7 := hE.g e7; replace e9 := hE.g e9; replace e10 := hE.g e10; replace e11 := hE.g e11; replace k := k.env hE; clear hE e72 e146; refine Z00 ?_; refine Z0h e199 rfl ?_
              refine wp_seq ?_; refine wp_region_lit ?_
              have hE := Env.refl a354 [201, 21]; refine Z3z (m := 0) (c := 0) O (cs := #[]) (t := 3) 201 hE k rfl (by rfl) (by rfl) rfl (by simp [go_sem, ↓IntWalk.iteOmega]) ?_
              clear O; intro gs a355 w356 O hE e201 kp; refine sd 21 hE k (Z01 rfl e201) ?_; intro a357 hE e21 kp; refine wpList_nil ?_; replace e1 := hE.g e1; replace e6 := hE.g e6; replace e7 := hE.g e7; replace e9 := hE.g e9; replace e10 := hE.g e10; replace e11 := hE.g e11; replace k := k.env hE; clear hE e199; refine Z00 ?_; replace O := OwnT.asRowE (k := 1) O
              refine wp_seq ?_; refine wp_seq ?_; refine wp_region_lit ?_
              have hE := Env.refl a357 [22]; refine sd 22 hE k (Z01 rfl rfl) ?_; intro a358 hE e22 kp; refine wpList_nil ?_; replace e1 := hE.g e1; replace e6 := hE.g e6; replace e7 := hE.g e7; replace e9 := hE.g e9; replace e10 := hE.g e10; replace e11 := hE.g e11; replace e21 := hE.g e21; replace k := k.env hE; clear hE; refine Z00 ?_; refine wp_block ?_; refine wp_loop (fun a w => Fr 281 a ∧ a.eval (.tmp 1) = .slice (some ⟨b1, o1, none⟩) n1 c1 ∧ a.eval (.tmp 6) = .int .i64 (↑(pgs Nn)) ∧ a.eval (.tmp 7) = .pointer (some ⟨sb, 0, none⟩) ∧ a.eval (.tmp 9) = .pointer (some ⟨ub, 0, none⟩) ∧ a.eval (.tmp 10) = .int .i64 ↑i ∧ a.eval (.tmp 11) = .pointer (some ⟨xb, 0, none⟩) ∧ ∃ (z : Nat) (sm : List Int) (Bs : Option Addr) (cs : Nat), a.eval (.tmp 21) = .slice Bs sm.length cs ∧ a.eval (.tmp 22) = .int .i64 ↑z ∧ z ≤ ls.length ∧ sm.length ≤ z ∧ (∀ c ∈ sm, 1 ≤ c ∧ c < (pgs Nn : Nat) ∧ K c = true) ∧ OwnT W0.heap.size W0 [tRow 3 1 (.slice Bs sm.length cs) sm.length (intsV sm), tBlk xb 42 #[.int .i64 kd, .int .i64 nn, .int .i64 rt, .slice LA ls.length lc], tBlk ub 62 #[.int .i64 (↑(pgs Nn)), .slice (some ⟨g1, 0, none⟩) ((pgs Nn)) ((pgs Nn)), .slice (some ⟨g2, 0, none⟩) ((pgs Nn)) ((pgs Nn)), .slice (some ⟨g3, 0, none⟩) ((pgs Nn)) ((pgs Nn)), .int .u64 h.g, .int .i64 h.r, .int .i64 h.a, .int .i64 h.b, .int .i64 h.c], tBlk g1 4 (boA (pgs Nn) K), tBlk g2 4 (boA (pgs Nn) (isF F)), tBlk g3 47 (ndA (pgs Nn) T), tBlk sb 102 (stB p h (((o : Nat) : Int)) kb fb), tMap kb 512 (keptV K), tMap fb 512 m, tPool vs N, tDisc p mb B Nn cap bm S noL, tMn mb M, tPool us QN] w) (fun a w => ls.length - (intOf (a.eval (.tmp 22))).toNat) ?_ ?_
              · exact ⟨k, e1, e6, e7, e9, e10, e11, 0, [], _, _, e21, e22, Nat.zero_le _, Nat.zero_le _, (fun c hc => by cases hc), O⟩
              intro a359 w360 hI; clear k e1 e6 e7 e9 e10 e11; obtain ⟨k, e1, e6, e7, e9, e10, e11, h_⟩ := hI
              clear O e21 e22; obtain ⟨z, sm, Bs, cs, e21, e22, hz, hsz, hsm, O⟩ := h_
              have mz := e22
              by_cases hzl : z < ls.length
              rotate_left
              · clear mz; refine wp_seq ?_; refine wp_seq ?_; refine wp_region_lit ?_
                have hE := Env.refl a359 [202, 203, 204, 205, 206]; refine zm 202 hE k e22 ?_; intro a361 hE e202 kp; apply Z03 203 hE k rfl rfl rfl rfl; case h =>
                 simp [go_sem, ↓IntWalk.iteOmega, ev (hE.g e11)]
                 with_reducible rfl
                intro a362 hE e203 kp; replace e202 := kt kp e202; refine sd 204 hE k (Z0a O 1 rfl rfl e203 rfl Tryz.underlying40 rfl) ?_; intro a363 hE e204 kp; replace e202 := kt kp e202; refine sd 205 hE k (Z1w Tryz.underlying40 rfl e204) ?_; intro a364 hE e205 kp; replace e202 := kt kp e202; refine sd 206 hE k (Z08 (Z0z rfl e202 e205) (decide_eq_false (by omega))) ?_
                intro a365 hE e206 kp; refine wpList_nil ?_; replace e1 := hE.g e1; replace e6 := hE.g e6; replace e7 := hE.g e7; replace e9 := hE.g e9; replace e10 := hE.g e10; replace e11 := hE.g e11; replace e21 := hE.g e21; replace e22 := hE.g e22; replace k := k.env hE; clear hE; refine Z00 ?_; refine Z07 e206 rfl ?_
                refine wp_exit ?_
                refine Z0p ?_
                refine Z0p ?_
                refine Z11 ?_
                refine Z00 (wp_seq ?_); refine wp_region_lit ?_
                have hE := Env.refl a365 [245, 246, 247]; refine zm 245 hE k e7 ?_; intro a366 hE e245 kp; refine zm 246 hE k e21 ?_; intro a367 hE e246 kp; replace e245 := kt kp e245; apply Z06 247 hE k rfl (by rfl) (by rfl) rfl
                case h =>
                 simp [go_sem, ↓IntWalk.iteOmega, ev e245, ev e246]
                 with_reducible exact ⟨rfl, rfl⟩
                case hc => exact Z51 (R := [tRow 3 1 (.slice Bs sm.length cs) sm.length (intsV sm), tBlk xb 42 #[.int .i64 kd, .int .i64 nn, .int .i64 rt, .slice LA ls.length lc], tBlk ub 62 #[.int .i64 (↑(pgs Nn)), .slice (some ⟨g1, 0, none⟩) ((pgs Nn)) ((pgs Nn)), .slice (some ⟨g2, 0, none⟩) ((pgs Nn)) ((pgs Nn)), .slice (some ⟨g3, 0, none⟩) ((pgs Nn)) ((pgs Nn)), .int .u64 h.g, .int .i64 h.r, .int .i64 h.a, .int .i64 h.b, .int .i64 h.c], tBlk g1 4 (boA (pgs Nn) K), tBlk g2 4 (boA (pgs Nn) (isF F)), tBlk g3 47 (ndA (pgs Nn) T), tMn mb M, tPool us QN]) (xs := sm) _ (OwnT.pick O [6, 7, 8, 9, 10, 0, 1, 2, 3, 4, 5, 11, 12] (by decide)) s7.ok (fun W OW => row1_own (OwnT.get OW 0 rfl) rfl) (by omega)
                clear O; rintro e w369 ⟨m', rfl, O, ok'⟩
                refine ⟨_, rfl, ?_⟩
                intro a368 hE e247 kp; refine wpList_nil ?_; replace e1 := hE.g e1; replace e6 := hE.g e6; replace e7 := hE.g e7; replace e9 := hE.g e9; replace e10 := hE.g e10; replace e21 := hE.g e21; replace k := k.env hE; clear hE e11 e22 e206 e247; refine Z00 ?_; replace O : OwnT _ _ ([tBlk ub 62 #[.int .i64 (↑(pgs Nn)), .slice (some ⟨g1, 0, none⟩) ((pgs Nn)) ((pgs Nn)), .slice (some ⟨g2, 0, none⟩) ((pgs Nn)) ((pgs Nn)), .slice (some ⟨g3, 0, none⟩) ((pgs Nn)) ((pgs Nn)), .int .u64 h.g, .int .i64 h.r, .int .i64 h.a, .int .i64 h.b, .int .i64 h.c], tBlk g1 4 (boA (pgs Nn) K), tBlk g2 4 (boA (pgs Nn) (isF F)), tBlk g3 47 (ndA (pgs Nn) T), tRow 3 1 (.slice Bs sm.length cs) sm.length (intsV sm), tBlk xb 42 #[.int .i64 kd, .int .i64 nn, .int .i64 rt, .slice LA ls.length lc], tBlk sb 102 (stB p h (((o : Nat) : Int)) kb fb), tMap kb 512 (keptV ((inP (pgs Nn) sm))), tMap fb 512 m', tPool vs N, tDisc p mb B Nn cap bm S noL, tMn mb M, tPool us QN]) w369 := OwnT.pick O [7, 8, 9, 10, 5, 6, 0, 1, 2, 3, 4, 11, 12] (by decide)
                refine wp_region_lit ?_
                have hE := Env.refl a368 [248, 249, 250]; refine zm 248 hE k e9 ?_; intro a370 hE e248 kp; refine zm 249 hE k e21 ?_; intro a371 hE e249 kp; replace e248 := kt kp e248; apply Z06 250 hE k rfl (by rfl) (by rfl) rfl
                case h =>
                 simp [go_sem, ↓IntWalk.iteOmega, ev e248, ev e249]
                 with_reducible exact ⟨rfl, rfl⟩
                case hc => exact ukeep_F (R := [tRow 3 1 (.slice Bs sm.length cs) sm.length (intsV sm), tBlk xb 42 #[.int .i64 kd, .int .i64 nn, .int .i64 rt, .slice LA ls.length lc], tBlk sb 102 (stB p h (((o : Nat) : Int)) kb fb), tMap kb 512 (keptV ((inP (pgs Nn) sm))), tMap fb 512 m', tPool vs N, tDisc p mb B Nn cap bm S noL, tMn mb M, tPool us QN]) (xs := sm) _ O (fun W OW => row1_own (OwnT.get OW 0 rfl) rfl) (by omega) hPb h0K h0F
                clear O; rintro e w373 ⟨rfl, O⟩
                refine ⟨_, rfl, ?_⟩
                intro a372 hE e250 kp; refine wpList_nil ?_; replace e1 := hE.g e1; replace e6 := hE.g e6; replace e7 := hE.g e7; replace e9 := hE.g e9; replace e10 := hE.g e10; replace k := k.env hE; clear hE e21 e250; refine Z0f ?_; refine Z00 ?_; replace O : OwnT _ _ ([tBlk ub 62 #[.int .i64 (↑(pgs Nn)), .slice (some ⟨g1, 0, none⟩) ((pgs Nn)) ((pgs Nn)), .slice (some ⟨g2, 0, none⟩) ((pgs Nn)) ((pgs Nn)), .slice (some ⟨g3, 0, none⟩) ((pgs Nn)) ((pgs Nn)), .int .u64 h.g, .int .i64 h.r, .int .i64 h.a, .int .i64 h.b, .int .i64 h.c], tBlk g1 4 (boA (pgs Nn) (inP (pgs Nn) sm)), tBlk g2 4 (boA (pgs Nn) (isF (fun i => if inP (pgs Nn) sm i = true then none else F i))), tBlk g3 47 (ndA (pgs Nn) T), tBlk sb 102 (stB p h (((o : Nat) : Int)) kb fb), tMap kb 512 (keptV ((inP (pgs Nn) sm))), tMap fb 512 m', tPool vs N, tDisc p mb B Nn cap bm S noL, tMn mb M, tPool us QN]) w373 := OwnT.pick O [0, 1, 2, 3, 6, 7, 8, 9, 10, 11, 12] (by decide)
                have hFl : ∀ c nd, (fun i => if inP (pgs Nn) sm i = true then none else F i) c = some nd → F c = some nd := fun c nd h => by
                 dsimp only at h
                 split at h
                 · cases h
                 · exact h
                have hap' : ∀ c, inP (pgs Nn) sm c = true → (fun i => if inP (pgs Nn) sm i = true then none else F i) c = none := fun c hc => by
                 dsimp only
                 rw [if_pos hc]

                exact ⟨k, e1, e6, e7, e9, e10, _, _, _, _, _, _, _, _, _, _, _, _, ⟨s7.hd, s7.g1, by have := s7.g2; omega, ok', hap', s7.rel.less (fun c h => (hsm c (of_decide_eq_true h).1).2.2) hFl, s7.mok.mono (by omega), s7.free⟩, O⟩
              obtain ⟨c, hc⟩ : ∃ c, ls[z]? = some c := ⟨_, List.getElem?_eq_getElem hzl⟩
              obtain ⟨bl, ol, rfl, hcl⟩ := Z2m (hL _ O.below) hc

              refine wp_seq ?_; refine wp_seq ?_; refine wp_region_lit ?_
              have hE := Env.refl a359 [202, 203, 204, 205, 206]; refine zm 202 hE k e22 ?_; intro a374 hE e202 kp; apply Z03 203 hE k rfl rfl rfl rfl; case h =>
               simp [go_sem, ↓IntWalk.iteOmega, ev (hE.g e11)]
               with_reducible rfl
              intro a375 hE e203 kp; replace e202 := kt kp e202; refine sd 204 hE k (Z0a O 1 rfl rfl e203 rfl Tryz.underlying40 rfl) ?_; intro a376 hE e204 kp; replace e202 := kt kp e202; refine sd 205 hE k (Z1w Tryz.underlying40 rfl e204) ?_; intro a377 hE e205 kp; replace e202 := kt kp e202; refine sd 206 hE k (Z08 (Z0z rfl e202 e205) (decide_eq_true (by omega))) ?_
              intro a378 hE e206 kp; refine wpList_nil ?_; replace e1 := hE.g e1; replace e6 := hE.g e6; replace e7 := hE.g e7; replace e9 := hE.g e9; replace e10 := hE.g e10; replace e11 := hE.g e11; replace e21 := hE.g e21; replace e22 := hE.g e22; replace k := k.env hE; clear hE; refine Z00 ?_; refine Z0h e206 rfl ?_
              refine wp_skip ?_; refine Z00 (wp_seq ?_); refine wp_block ?_; by_cases h1 : 1 ≤ c
              rotate_left
              · skip
                refine wp_seq ?_; refine Z0l (R := Ext) (w0 := w360) [[], [0], [], [0, 1, 2], rg 4, rg 5, rg 6, rg 7, rg 8, rg 7, rg 10, rg 11, rg 7, rg 13, rg 14, rg 15, rg 16, rg 17, rg 18, rg 19, rg 16, [0, 1, 2, 3, 4, 5, 6, 7, 8, 9, 10, 11, 12, 13, 14, 15, 20], rg 16, [0, 1, 2, 3, 4, 5, 6, 7, 8, 9, 10, 11, 12, 13, 14, 15, 20, 21, 22], [0, 1, 2, 3, 4, 5, 6, 7, 8, 9, 10, 11, 12, 13, 14, 15, 20, 21, 22, 23], rg 25, rg 26, rg 27] [209, 210, 211, 212, 213, 214, 215, 216, 217, 218, 219, 220, 221, 222, 223, 224, 225, 226, 227, 228, 229, 230, 231, 232, 233, 234, 235, 236] Ext.refl (fun _ _ _ => Ext.trans) (Ext.drew _) (by kernel_rfl) ?_
                apply bd 209 k rfl rfl rfl; case h =>
                 intro ax wx hE hR hF; simp [go_sem, ↓IntWalk.iteOmega, ev (hE.g e11)]
                 with_reducible rfl
                refine bd 210 k rfl rfl rfl (fun ax wx hE hR hF => have e209 := zhF hF 0 209 ml0; Z0a (OwnT.ext O hR) 1 rfl rfl e209 rfl Tryz.underlying40 rfl) ?_
                refine bd 211 k rfl rfl rfl (fun ax wx hE hR hF => Z02 rfl (hE.g e22)) ?_
                apply bd 212 k rfl rfl rfl; case h =>
                 intro ax wx hE hR hF; have e210 := zhF hF 1 210 ml1; have e211 := zhF hF 2 211 ml0; simp [go_sem, ↓IntWalk.iteOmega, ev e210, ev e211]
                 with_reducible rfl
                apply bd 213 k rfl rfl rfl; case h =>
                 intro ax wx hE hR hF; have e212 := zhF hF 3 212 ml0; have d0 := hcl wx hR
                 simp [go_sem, ↓IntWalk.iteOmega, ev e212, d0]
                 with_reducible rfl
                refine bd 214 k rfl rfl rfl (fun ax wx hE hR hF => have e213 := zhF hF 4 213 ml0; Z08 (Z1l rfl e213 rfl) (decide_eq_false (by omega))) ?_
                refine bd 215 k rfl rfl rfl (fun ax wx hE hR hF => have e214 := zhF hF 5 214 ml0; Z02 rfl e214) ?_
                refine bsk 216 k rfl rfl rfl rfl (fun hF => zhF hF 6 215 ml0) ?_
                refine bsk 217 k rfl rfl rfl rfl (fun hF => zhF hF 6 215 ml1) ?_
                refine bsk 218 k rfl rfl rfl rfl (fun hF => zhF hF 6 215 ml2) ?_
                refine bsk 219 k rfl rfl rfl rfl (fun hF => zhF hF 6 215 ml3) ?_
                refine bsk 220 k rfl rfl rfl rfl (fun hF => zhF hF 6 215 ml4) ?_
                refine bsk 221 k rfl rfl rfl rfl (fun hF => zhF hF 6 215 ml5) ?_
                refine bsk 222 k rfl rfl rfl rfl (fun hF => zhF hF 6 215 ml6) ?_
                refine bd 223 k rfl rfl rfl (fun ax wx hE hR hF => have e215 := zhF hF 6 215 ml7; have e222 := zhF hF 13 222 ml0; Z09 rfl e215 rfl) ?_
                refine bd 224 k rfl rfl rfl (fun ax wx hE hR hF => have e223 := zhF hF 14 223 ml0; Z02 rfl e223) ?_
                refine bsk 225 k rfl rfl rfl rfl (fun hF => zhF hF 15 224 ml0) ?_
                refine bsk 226 k rfl rfl rfl rfl (fun hF => zhF hF 15 224 ml1) ?_
                refine bsk 227 k rfl rfl rfl rfl (fun hF => zhF hF 15 224 ml2) ?_
                refine bsk 228 k rfl rfl rfl rfl (fun hF => zhF hF 15 224 ml3) ?_
                refine bsk 229 k rfl rfl rfl rfl (fun hF => zhF hF 15 224 ml4) ?_
                refine bsk 230 k rfl rfl rfl rfl (fun hF => zhF hF 15 224 ml5) ?_
                refine bsk 231 k rfl rfl rfl rfl (fun hF => zhF hF 15 224 ml6) ?_
                refine bsk 232 k rfl rfl rfl rfl (fun hF => zhF hF 15 224 ml7) ?_
                refine bsk 233 k rfl rfl rfl rfl (fun hF => zhF hF 15 224 ml8) ?_
                refine bsk 234 k rfl rfl rfl rfl (fun hF => zhF hF 15 224 ml9) ?_
                refine bsk 235 k rfl rfl rfl rfl (fun hF => zhF hF 15 224 ml10) ?_
                refine bd 236 k rfl rfl rfl (fun ax wx hE hR hF => have e224 := zhF hF 15 224 ml11; have e235 := zhF hF 26 235 ml0; Z09 rfl e224 rfl) ?_
                apply Build.stop
                refine ⟨by kernel_rfl, .inl ⟨rfl, ?_⟩⟩
                intro a379 w380 hE R hF; have e236 : a379.eval (.tmp 236) = _ := hF 27 (det 236 _) ml0
                clear hF; replace O := OwnT.ext O R; clear R; replace e1 := hE.g e1; replace e6 := hE.g e6; replace e7 := hE.g e7; replace e9 := hE.g e9; replace e10 := hE.g e10; replace e11 := hE.g e11; replace e21 := hE.g e21; replace e22 := hE.g e22; replace k := k.env hE; clear hE e206; refine Z00 ?_; refine Z07 e236 rfl ?_
                refine wp_skip ?_; refine Z0f ?_; refine Z00 ?_; refine wp_region_lit ?_
                have hE := Env.refl a379 [207, 208, 22]; refine sd 207 hE k (Z02 rfl e22) ?_; intro a381 hE e207 kp; replace e22 := kt kp e22; refine sd 208 hE k (Z1i rfl e207 rfl (by omega)) ?_; intro a382 hE e208 kp; replace e22 := kt kp e22; replace e208 := e208.trans (Z10 (show (z : Int) + 1 = ((z + 1 : Nat) : Int) by omega))
                refine sd 22 hE k (Z01 rfl e208) ?_; intro a383 hE e22 kp; refine wpList_nil ?_; replace e1 := hE.g e1; replace e6 := hE.g e6; replace e7 := hE.g e7; replace e9 := hE.g e9; replace e10 := hE.g e10; replace e11 := hE.g e11; replace e21 := hE.g e21; replace k := k.env hE; clear hE e236; refine Z00 ?_; refine ⟨⟨k, e1, e6, e7, e9, e10, e11, z + 1, sm, _, _, e21, e22, by omega, by omega, hsm, O⟩, ?_⟩
                rw [e22, mz]; simp only [intOf]; omega
              by_cases h2 : c < (pgs Nn : Nat)
              rotate_left
              · skip
                refine wp_seq ?_; refine Z0l (R := Ext) (w0 := w360) [[], [0], [], [0, 1, 2], rg 4, rg 5, rg 6, rg 7, rg 8, rg 7, rg 10, rg 11, rg 7, rg 13, rg 14, rg 15, rg 16, rg 17, rg 18, rg 19, rg 16, [0, 1, 2, 3, 4, 5, 6, 7, 8, 9, 10, 11, 12, 13, 14, 15, 20], rg 16, [0, 1, 2, 3, 4, 5, 6, 7, 8, 9, 10, 11, 12, 13, 14, 15, 20, 21, 22], [0, 1, 2, 3, 4, 5, 6, 7, 8, 9, 10, 11, 12, 13, 14, 15, 20, 21, 22, 23], rg 25, rg 26, rg 27] [209, 210, 211, 212, 213, 214, 215, 216, 217, 218, 219, 220, 221, 222, 223, 224, 225, 226, 227, 228, 229, 230, 231, 232, 233, 234, 235, 236] Ext.refl (fun _ _ _ => Ext.trans) (Ext.drew _) (by kernel_rfl) ?_
                apply bd 209 k rfl rfl rfl; case h =>
                 intro ax wx hE hR hF; simp [go_sem, ↓IntWalk.iteOmega, ev (hE.g e11)]
                 with_reducible rfl
                refine bd 210 k rfl rfl rfl (fun ax wx hE hR hF => have e209 := zhF hF 0 209 ml0; Z0a (OwnT.ext O hR) 1 rfl rfl e209 rfl Tryz.underlying40 rfl) ?_
                refine bd 211 k rfl rfl rfl (fun ax wx hE hR hF => Z02 rfl (hE.g e22)) ?_
                apply bd 212 k rfl rfl rfl; case h =>
                 intro ax wx hE hR hF; have e210 := zhF hF 1 210 ml1; have e211 := zhF hF 2 211 ml0; simp [go_sem, ↓IntWalk.iteOmega, ev e210, ev e211]
                 with_reducible rfl
                apply bd 213 k rfl rfl rfl; case h =>
                 intro ax wx hE hR hF; have e212 := zhF hF 3 212 ml0; have d0 := hcl wx hR
                 simp [go_sem, ↓IntWalk.iteOmega, ev e212, d0]
                 with_reducible rfl
                refine bd 214 k rfl rfl rfl (fun ax wx hE hR hF => have e213 := zhF hF 4 213 ml0; Z08 (Z1l rfl e213 rfl) (decide_eq_true (by omega))) ?_
                refine bd 215 k rfl rfl rfl (fun ax wx hE hR hF => have e214 := zhF hF 5 214 ml0; Z02 rfl e214) ?_
                apply bdg 216 k rfl rfl rfl rfl; case h =>
                 intro ax wx hE hR hF; have e215 := zhF hF 6 215 ml0; refine ⟨e215, ?_⟩; simp [go_sem, ↓IntWalk.iteOmega, ev (hE.g e11)]
                 with_reducible rfl
                refine bdg 217 k rfl rfl rfl rfl (fun ax wx hE hR hF => have e216 := zhF hF 7 216 ml0; have e215 := zhF hF 6 215 ml1; ⟨e215, Z0a (OwnT.ext O hR) 1 rfl rfl e216 rfl Tryz.underlying40 rfl⟩) ?_
                refine bdg 218 k rfl rfl rfl rfl (fun ax wx hE hR hF => have e215 := zhF hF 6 215 ml2; ⟨e215, Z02 rfl (hE.g e22)⟩) ?_
                apply bdg 219 k rfl rfl rfl rfl; case h =>
                 intro ax wx hE hR hF; have e217 := zhF hF 8 217 ml1; have e218 := zhF hF 9 218 ml0; have e215 := zhF hF 6 215 ml3; refine ⟨e215, ?_⟩; simp [go_sem, ↓IntWalk.iteOmega, ev e217, ev e218]
                 with_reducible rfl
                apply bdg 220 k rfl rfl rfl rfl; case h =>
                 intro ax wx hE hR hF; have e219 := zhF hF 10 219 ml0; have e215 := zhF hF 6 215 ml4; refine ⟨e215, ?_⟩; have d0 := hcl wx hR
                 simp [go_sem, ↓IntWalk.iteOmega, ev e219, d0]
                 with_reducible rfl
                refine bdg 221 k rfl rfl rfl rfl (fun ax wx hE hR hF => have e215 := zhF hF 6 215 ml5; ⟨e215, Z02 rfl (hE.g e6)⟩) ?_
                refine bdg 222 k rfl rfl rfl rfl (fun ax wx hE hR hF => have e220 := zhF hF 11 220 ml1; have e221 := zhF hF 12 221 ml0; have e215 := zhF hF 6 215 ml6; ⟨e215, Z08 (Z0z rfl e220 e221) (decide_eq_false h2)⟩) ?_
                refine bd 223 k rfl rfl rfl (fun ax wx hE hR hF => have e215 := zhF hF 6 215 ml7; have e222 := zhF hF 13 222 ml0; Z0b rfl e215 e222) ?_
                refine bd 224 k rfl rfl rfl (fun ax wx hE hR hF => have e223 := zhF hF 14 223 ml0; Z02 rfl e223) ?_
                refine bsk 225 k rfl rfl rfl rfl (fun hF => zhF hF 15 224 ml0) ?_
                refine bsk 226 k rfl rfl rfl rfl (fun hF => zhF hF 15 224 ml1) ?_
                refine bsk 227 k rfl rfl rfl rfl (fun hF => zhF hF 15 224 ml2) ?_
                refine bsk 228 k rfl rfl rfl rfl (fun hF => zhF hF 15 224 ml3) ?_
                refine bsk 229 k rfl rfl rfl rfl (fun hF => zhF hF 15 224 ml4) ?_
                refine bsk 230 k rfl rfl rfl rfl (fun hF => zhF hF 15 224 ml5) ?_
                refine bsk 231 k rfl rfl rfl rfl (fun hF => zhF hF 15 224 ml6) ?_
                refine bsk 232 k rfl rfl rfl rfl (fun hF => zhF hF 15 224 ml7) ?_
                refine bsk 233 k rfl rfl rfl rfl (fun hF => zhF hF 15 224 ml8) ?_
                refine bsk 234 k rfl rfl rfl rfl (fun hF => zhF hF 15 224 ml9) ?_
                refine bsk 235 k rfl rfl rfl rfl (fun hF => zhF hF 15 224 ml10) ?_
                refine bd 236 k rfl rfl rfl (fun ax wx hE hR hF => have e224 := zhF hF 15 224 ml11; have e235 := zhF hF 26 235 ml0; Z09 rfl e224 rfl) ?_
                apply Build.stop
                refine ⟨by kernel_rfl, .inl ⟨rfl, ?_⟩⟩
                intro a384 w385 hE R hF; have e236 : a384.eval (.tmp 236) = _ := hF 27 (det 236 _) ml0
                clear hF; replace O := OwnT.ext O R; clear R; replace e1 := hE.g e1; replace e6 := hE.g e6; replace e7 := hE.g e7; replace e9 := hE.g e9; replace e10 := hE.g e10; replace e11 := hE.g e11; replace e21 := hE.g e21; replace e22 := hE.g e22; replace k := k.env hE; clear hE e206; refine Z00 ?_; refine Z07 e236 rfl ?_
                refine wp_skip ?_; refine Z0f ?_; refine Z00 ?_; refine wp_region_lit ?_
                have hE := Env.refl a384 [207, 208, 22]; refine sd 207 hE k (Z02 rfl e22) ?_; intro a386 hE e207 kp; replace e22 := kt kp e22; refine sd 208 hE k (Z1i rfl e207 rfl (by omega)) ?_; intro a387 hE e208 kp; replace e22 := kt kp e22; replace e208 := e208.trans (Z10 (show (z : Int) + 1 = ((z + 1 : Nat) : Int) by omega))
                refine sd 22 hE k (Z01 rfl e208) ?_; intro a388 hE e22 kp; refine wpList_nil ?_; replace e1 := hE.g e1; replace e6 := hE.g e6; replace e7 := hE.g e7; replace e9 := hE.g e9; replace e10 := hE.g e10; replace e11 := hE.g e11; replace e21 := hE.g e21; replace k := k.env hE; clear hE e236; refine Z00 ?_; refine ⟨⟨k, e1, e6, e7, e9, e10, e11, z + 1, sm, _, _, e21, e22, by omega, by omega, hsm, O⟩, ?_⟩
                rw [e22, mz]; simp only [intOf]; omega
              obtain ⟨q, rfl⟩ : ∃ q : Nat, c = (q : Int) := ⟨c.toNat, by omega⟩
              have hqP : q < pgs Nn := by omega

              cases hK : K (q : Int) with
              | false =>
               refine wp_seq ?_; refine Z0l (R := Ext) (w0 := w360) [[], [0], [], [0, 1, 2], rg 4, rg 5, rg 6, rg 7, rg 8, rg 7, rg 10, rg 11, rg 7, rg 13, rg 14, rg 15, rg 16, rg 17, rg 18, rg 19, rg 16, [0, 1, 2, 3, 4, 5, 6, 7, 8, 9, 10, 11, 12, 13, 14, 15, 20], rg 16, [0, 1, 2, 3, 4, 5, 6, 7, 8, 9, 10, 11, 12, 13, 14, 15, 20, 21, 22], [0, 1, 2, 3, 4, 5, 6, 7, 8, 9, 10, 11, 12, 13, 14, 15, 20, 21, 22, 23], rg 25, rg 26, rg 27] [209, 210, 211, 212, 213, 214, 215, 216, 217, 218, 219, 220, 221, 222, 223, 224, 225, 226, 227, 228, 229, 230, 231, 232, 233, 234, 235, 236] Ext.refl (fun _ _ _ => Ext.trans) (Ext.drew _) (by kernel_rfl) ?_
               apply bd 209 k rfl rfl rfl; case h =>
                intro ax wx hE hR hF; simp [go_sem, ↓IntWalk.iteOmega, ev (hE.g e11)]
                with_reducible rfl
               refine bd 210 k rfl rfl rfl (fun ax wx hE hR hF => have e209 := zhF hF 0 209 ml0; Z0a (OwnT.ext O hR) 1 rfl rfl e209 rfl Tryz.underlying40 rfl) ?_
               refine bd 211 k rfl rfl rfl (fun ax wx hE hR hF => Z02 rfl (hE.g e22)) ?_
               apply bd 212 k rfl rfl rfl; case h =>
                intro ax wx hE hR hF; have e210 := zhF hF 1 210 ml1; have e211 := zhF hF 2 211 ml0; simp [go_sem, ↓IntWalk.iteOmega, ev e210, ev e211]
                with_reducible rfl
               apply bd 213 k rfl rfl rfl; case h =>
                intro ax wx hE hR hF; have e212 := zhF hF 3 212 ml0; have d0 := hcl wx hR
                simp [go_sem, ↓IntWalk.iteOmega, ev e212, d0]
                with_reducible rfl
               refine bd 214 k rfl rfl rfl (fun ax wx hE hR hF => have e213 := zhF hF 4 213 ml0; Z08 (Z1l rfl e213 rfl) (decide_eq_true (by omega))) ?_
               refine bd 215 k rfl rfl rfl (fun ax wx hE hR hF => have e214 := zhF hF 5 214 ml0; Z02 rfl e214) ?_
               apply bdg 216 k rfl rfl rfl rfl; case h =>
                intro ax wx hE hR hF; have e215 := zhF hF 6 215 ml0; refine ⟨e215, ?_⟩; simp [go_sem, ↓IntWalk.iteOmega, ev (hE.g e11)]
                with_reducible rfl
               refine bdg 217 k rfl rfl rfl rfl (fun ax wx hE hR hF => have e216 := zhF hF 7 216 ml0; have e215 := zhF hF 6 215 ml1; ⟨e215, Z0a (OwnT.ext O hR) 1 rfl rfl e216 rfl Tryz.underlying40 rfl⟩) ?_
               refine bdg 218 k rfl rfl rfl rfl (fun ax wx hE hR hF => have e215 := zhF hF 6 215 ml2; ⟨e215, Z02 rfl (hE.g e22)⟩) ?_
               apply bdg 219 k rfl rfl rfl rfl; case h =>
                intro ax wx hE hR hF; have e217 := zhF hF 8 217 ml1; have e218 := zhF hF 9 218 ml0; have e215 := zhF hF 6 215 ml3; refine ⟨e215, ?_⟩; simp [go_sem, ↓IntWalk.iteOmega, ev e217, ev e218]
                with_reducible rfl
               apply bdg 220 k rfl rfl rfl rfl; case h =>
                intro ax wx hE hR hF; have e219 := zhF hF 10 219 ml0; have e215 := zhF hF 6 215 ml4; refine ⟨e215, ?_⟩; have d0 := hcl wx hR
                simp [go_sem, ↓IntWalk.iteOmega, ev e219, d0]
                with_reducible rfl
               refine bdg 221 k rfl rfl rfl rfl (fun ax wx hE hR hF => have e215 := zhF hF 6 215 ml5; ⟨e215, Z02 rfl (hE.g e6)⟩) ?_
               refine bdg 222 k rfl rfl rfl rfl (fun ax wx hE hR hF => have e220 := zhF hF 11 220 ml1; have e221 := zhF hF 12 221 ml0; have e215 := zhF hF 6 215 ml6; ⟨e215, Z08 (Z0z rfl e220 e221) (decide_eq_true h2)⟩) ?_
               refine bd 223 k rfl rfl rfl (fun ax wx hE hR hF => have e215 := zhF hF 6 215 ml7; have e222 := zhF hF 13 222 ml0; Z0b rfl e215 e222) ?_
               refine bd 224 k rfl rfl rfl (fun ax wx hE hR hF => have e223 := zhF hF 14 223 ml0; Z02 rfl e223) ?_
               refine bdg 225 k rfl rfl rfl rfl (fun ax wx hE hR hF => have e224 := zhF hF 15 224 ml0; ⟨e224, Z02 rfl (hE.g e9)⟩) ?_
               refine bdg 226 k rfl rfl rfl rfl (fun ax wx hE hR hF => have e225 := zhF hF 16 225 ml0; have e224 := zhF hF 15 224 ml1; ⟨e224, Z0d rfl e225⟩) ?_
               apply bdg 227 k rfl rfl rfl rfl; case h =>
                intro ax wx hE hR hF; have e226 := zhF hF 17 226 ml0; have e224 := zhF hF 15 224 ml2; refine ⟨e224, ?_⟩; simp [go_sem, ↓IntWalk.iteOmega, ev e226]
                with_reducible rfl
               refine bdg 228 k rfl rfl rfl rfl (fun ax wx hE hR hF => have e227 := zhF hF 18 227 ml0; have e224 := zhF hF 15 224 ml3; ⟨e224, Z0a (OwnT.ext O hR) 2 rfl rfl e227 rfl Tryz.underlying59 rfl⟩) ?_
               apply bdg 229 k rfl rfl rfl rfl; case h =>
                intro ax wx hE hR hF; have e224 := zhF hF 15 224 ml4; refine ⟨e224, ?_⟩; simp [go_sem, ↓IntWalk.iteOmega, ev (hE.g e11)]
                with_reducible rfl
               refine bdg 230 k rfl rfl rfl rfl (fun ax wx hE hR hF => have e229 := zhF hF 20 229 ml0; have e224 := zhF hF 15 224 ml5; ⟨e224, Z0a (OwnT.ext O hR) 1 rfl rfl e229 rfl Tryz.underlying40 rfl⟩) ?_
               refine bdg 231 k rfl rfl rfl rfl (fun ax wx hE hR hF => have e224 := zhF hF 15 224 ml6; ⟨e224, Z02 rfl (hE.g e22)⟩) ?_
               apply bdg 232 k rfl rfl rfl rfl; case h =>
                intro ax wx hE hR hF; have e230 := zhF hF 21 230 ml1; have e231 := zhF hF 22 231 ml0; have e224 := zhF hF 15 224 ml7; refine ⟨e224, ?_⟩; simp [go_sem, ↓IntWalk.iteOmega, ev e230, ev e231]
                with_reducible rfl
               apply bdg 233 k rfl rfl rfl rfl; case h =>
                intro ax wx hE hR hF; have e232 := zhF hF 23 232 ml0; have e224 := zhF hF 15 224 ml8; refine ⟨e224, ?_⟩; have d0 := hcl wx hR
                simp [go_sem, ↓IntWalk.iteOmega, ev e232, d0]
                with_reducible rfl
               apply bdg 234 k rfl rfl rfl rfl; case h =>
                intro ax wx hE hR hF; have e228 := zhF hF 19 228 ml5; have e233 := zhF hF 24 233 ml0; have e224 := zhF hF 15 224 ml9; refine ⟨e224, ?_⟩; simp [go_sem, ↓IntWalk.iteOmega, ev e228, ev e233]
                with_reducible rfl
               apply bdg 235 k rfl rfl rfl rfl; case h =>
                intro ax wx hE hR hF; have e234 := zhF hF 25 234 ml0; have e224 := zhF hF 15 224 ml10; refine ⟨e224, ?_⟩; have d1 := Z0u (OwnT.blk (OwnT.ext O hR) 3 rfl) hqP
                simp [go_sem, ↓IntWalk.iteOmega, ev e234, d1, hK]
                with_reducible rfl
               refine bd 236 k rfl rfl rfl (fun ax wx hE hR hF => have e224 := zhF hF 15 224 ml11; have e235 := zhF hF 26 235 ml0; Z0b rfl e224 e235) ?_
               apply Build.stop
               refine ⟨by kernel_rfl, .inl ⟨rfl, ?_⟩⟩
               intro a389 w390 hE R hF; have e236 : a389.eval (.tmp 236) = _ := hF 27 (det 236 _) ml0
               clear hF; replace O := OwnT.ext O R; clear R; replace e1 := hE.g e1; replace e6 := hE.g e6; replace e7 := hE.g e7; replace e9 := hE.g e9; replace e10 := hE.g e10; replace e11 := hE.g e11; replace e21 := hE.g e21; replace e22 := hE.g e22; replace k := k.env hE; clear hE e206; refine Z00 ?_; refine Z07 e236 rfl ?_
               refine wp_skip ?_; refine Z0f ?_; refine Z00 ?_; refine wp_region_lit ?_
               have hE := Env.refl a389 [207, 208, 22]; refine sd 207 hE k (Z02 rfl e22) ?_; intro a391 hE e207 kp; replace e22 := kt kp e22; refine sd 208 hE k (Z1i rfl e207 rfl (by omega)) ?_; intro a392 hE e208 kp; replace e22 := kt kp e22; replace e208 := e208.trans (Z10 (show (z : Int) + 1 = ((z + 1 : Nat) : Int) by omega))
               refine sd 22 hE k (Z01 rfl e208) ?_; intro a393 hE e22 kp; refine wpList_nil ?_; replace e1 := hE.g e1; replace e6 := hE.g e6; replace e7 := hE.g e7; replace e9 := hE.g e9; replace e10 := hE.g e10; replace e11 := hE.g e11; replace e21 := hE.g e21; replace k := k.env hE; clear hE e236; refine Z00 ?_; refine ⟨⟨k, e1, e6, e7, e9, e10, e11, z + 1, sm, _, _, e21, e22, by omega, by omega, hsm, O⟩, ?_⟩
               rw [e22, mz]; simp only [intOf]; omega
              | true =>
               refine wp_seq ?_; refine Z0l (R := Ext) (w0 := w360) [[], [0], [], [0, 1, 2], rg 4, rg 5, rg 6, rg 7, rg 8, rg 7, rg 10, rg 11, rg 7, rg 13, rg 14, rg 15, rg 16, rg 17, rg 18, rg 19, rg 16, [0, 1, 2, 3, 4, 5, 6, 7, 8, 9, 10, 11, 12, 13, 14, 15, 20], rg 16, [0, 1, 2, 3, 4, 5, 6, 7, 8, 9, 10, 11, 12, 13, 14, 15, 20, 21, 22], [0, 1, 2, 3, 4, 5, 6, 7, 8, 9, 10, 11, 12, 13, 14, 15, 20, 21, 22, 23], rg 25, rg 26, rg 27] [209, 210, 211, 212, 213, 214, 215, 216, 217, 218, 219, 220, 221, 222, 223, 224, 225, 226, 227, 228, 229, 230, 231, 232, 233, 234, 235, 236] Ext.refl (fun _ _ _ => Ext.trans) (Ext.drew _) (by kernel_rfl) ?_
               apply bd 209 k rfl rfl rfl; case h =>
                intro ax wx hE hR hF; simp [go_sem, ↓IntWalk.iteOmega, ev (hE.g e11)]
                with_reducible rfl
               refine bd 210 k rfl rfl rfl (fun ax wx hE hR hF => have e209 := zhF hF 0 209 ml0; Z0a (OwnT.ext O hR) 1 rfl rfl e209 rfl Tryz.underlying40 rfl) ?_
               refine bd 211 k rfl rfl rfl (fun ax wx hE hR hF => Z02 rfl (hE.g e22)) ?_
               apply bd 212 k rfl rfl rfl; case h =>
                intro ax wx hE hR hF; have e210 := zhF hF 1 210 ml1; have e211 := zhF hF 2 211 ml0; simp [go_sem, ↓IntWalk.iteOmega, ev e210, ev e211]
                with_reducible rfl
               apply bd 213 k rfl rfl rfl; case h =>
                intro ax wx hE hR hF; have e212 := zhF hF 3 212 ml0; have d0 := hcl wx hR
                simp [go_sem, ↓IntWalk.iteOmega, ev e212, d0]
                with_reducible rfl
               refine bd 214 k rfl rfl rfl (fun ax wx hE hR hF => have e213 := zhF hF 4 213 ml0; Z08 (Z1l rfl e213 rfl) (decide_eq_true (by omega))) ?_
               refine bd 215 k rfl rfl rfl (fun ax wx hE hR hF => have e214 := zhF hF 5 214 ml0; Z02 rfl e214) ?_
               apply bdg 216 k rfl rfl rfl rfl; case h =>
                intro ax wx hE hR hF; have e215 := zhF hF 6 215 ml0; refine ⟨e215, ?_⟩; simp [go_sem, ↓IntWalk.iteOmega, ev (hE.g e11)]
                with_reducible rfl
               refine bdg 217 k rfl rfl rfl rfl (fun ax wx hE hR hF => have e216 := zhF hF 7 216 ml0; have e215 := zhF hF 6 215 ml1; ⟨e215, Z0a (OwnT.ext O hR) 1 rfl rfl e216 rfl Tryz.underlying40 rfl⟩) ?_
               refine bdg 218 k rfl rfl rfl rfl (fun ax wx hE hR hF => have e215 := zhF hF 6 215 ml2; ⟨e215, Z02 rfl (hE.g e22)⟩) ?_
               apply bdg 219 k rfl rfl rfl rfl; case h =>
                intro ax wx hE hR hF; have e217 := zhF hF 8 217 ml1; have e218 := zhF hF 9 218 ml0; have e215 := zhF hF 6 215 ml3; refine ⟨e215, ?_⟩; simp [go_sem, ↓IntWalk.iteOmega, ev e217, ev e218]
                with_reducible rfl
               apply bdg 220 k rfl rfl rfl rfl; case h =>
                intro ax wx hE hR hF; have e219 := zhF hF 10 219 ml0; have e215 := zhF hF 6 215 ml4; refine ⟨e215, ?_⟩; have d0 := hcl wx hR
                simp [go_sem, ↓IntWalk.iteOmega, ev e219, d0]
                with_reducible rfl
               refine bdg 221 k rfl rfl rfl rfl (fun ax wx hE hR hF => have e215 := zhF hF 6 215 ml5; ⟨e215, Z02 rfl (hE.g e6)⟩) ?_
               refine bdg 222 k rfl rfl rfl rfl (fun ax wx hE hR hF => have e220 := zhF hF 11 220 ml1; have e221 := zhF hF 12 221 ml0; have e215 := zhF hF 6 215 ml6; ⟨e215, Z08 (Z0z rfl e220 e221) (decide_eq_true h2)⟩) ?_
               refine bd 223 k rfl rfl rfl (fun ax wx hE hR hF => have e215 := zhF hF 6 215 ml7; have e222 := zhF hF 13 222 ml0; Z0b rfl e215 e222) ?_
               refine bd 224 k rfl rfl rfl (fun ax wx hE hR hF => have e223 := zhF hF 14 223 ml0; Z02 rfl e223) ?_
               refine bdg 225 k rfl rfl rfl rfl (fun ax wx hE hR hF => have e224 := zhF hF 15 224 ml0; ⟨e224, Z02 rfl (hE.g e9)⟩) ?_
               refine bdg 226 k rfl rfl rfl rfl (fun ax wx hE hR hF => have e225 := zhF hF 16 225 ml0; have e224 := zhF hF 15 224 ml1; ⟨e224, Z0d rfl e225⟩) ?_
               apply bdg 227 k rfl rfl rfl rfl; case h =>
                intro ax wx hE hR hF; have e226 := zhF hF 17 226 ml0; have e224 := zhF hF 15 224 ml2; refine ⟨e224, ?_⟩; simp [go_sem, ↓IntWalk.iteOmega, ev e226]
                with_reducible rfl
               refine bdg 228 k rfl rfl rfl rfl (fun ax wx hE hR hF => have e227 := zhF hF 18 227 ml0; have e224 := zhF hF 15 224 ml3; ⟨e224, Z0a (OwnT.ext O hR) 2 rfl rfl e227 rfl Tryz.underlying59 rfl⟩) ?_
               apply bdg 229 k rfl rfl rfl rfl; case h =>
                intro ax wx hE hR hF; have e224 := zhF hF 15 224 ml4; refine ⟨e224, ?_⟩; simp [go_sem, ↓IntWalk.iteOmega, ev (hE.g e11)]
                with_reducible rfl
               refine bdg 230 k rfl rfl rfl rfl (fun ax wx hE hR hF => have e229 := zhF hF 20 229 ml0; have e224 := zhF hF 15 224 ml5; ⟨e224, Z0a (OwnT.ext O hR) 1 rfl rfl e229 rfl Tryz.underlying40 rfl⟩) ?_
               refine bdg 231 k rfl rfl rfl rfl (fun ax wx hE hR hF => have e224 := zhF hF 15 224 ml6; ⟨e224, Z02 rfl (hE.g e22)⟩) ?_
               apply bdg 232 k rfl rfl rfl rfl; case h =>
                intro ax wx hE hR hF; have e230 := zhF hF 21 230 ml1; have e231 := zhF hF 22 231 ml0; have e224 := zhF hF 15 224 ml7; refine ⟨e224, ?_⟩; simp [go_sem, ↓IntWalk.iteOmega, ev e230, ev e231]
                with_reducible rfl
               apply bdg 233 k rfl rfl rfl rfl; case h =>
                intro ax wx hE hR hF; have e232 := zhF hF 23 232 ml0; have e224 := zhF hF 15 224 ml8; refine ⟨e224, ?_⟩; have d0 := hcl wx hR
                simp [go_sem, ↓IntWalk.iteOmega, ev e232, d0]
                with_reducible rfl
               apply bdg 234 k rfl rfl rfl rfl; case h =>
                intro ax wx hE hR hF; have e228 := zhF hF 19 228 ml5; have e233 := zhF hF 24 233 ml0; have e224 := zhF hF 15 224 ml9; refine ⟨e224, ?_⟩; simp [go_sem, ↓IntWalk.iteOmega, ev e228, ev e233]
                with_reducible rfl
               apply bdg 235 k rfl rfl rfl rfl; case h =>
                intro ax wx hE hR hF; have e234 := zhF hF 25 234 ml0; have e224 := zhF hF 15 224 ml10; refine ⟨e224, ?_⟩; have d1 := Z0u (OwnT.blk (OwnT.ext O hR) 3 rfl) hqP
                simp [go_sem, ↓IntWalk.iteOmega, ev e234, d1, hK]
                with_reducible rfl
               refine bd 236 k rfl rfl rfl (fun ax wx hE hR hF => have e224 := zhF hF 15 224 ml11; have e235 := zhF hF 26 235 ml0; Z0b rfl e224 e235) ?_
               apply Build.stop
               refine ⟨by kernel_rfl, .inl ⟨rfl, ?_⟩⟩
               intro a394 w395 hE R hF; have e236 : a394.eval (.tmp 236) = _ := hF 27 (det 236 _) ml0
               clear hF; replace O := OwnT.ext O R; clear R; replace e1 := hE.g e1; replace e6 := hE.g e6; replace e7 := hE.g e7; replace e9 := hE.g e9; replace e10 := hE.g e10; replace e11 := hE.g e11; replace e21 := hE.g e21; replace e22 := hE.g e22; replace k := k.env hE; clear hE e206; refine Z00 ?_; refine Z0h e236 rfl ?_
               obtain ⟨_, _, e9_, hcl2⟩ := Z2m (hL _ O.below) hc
               cases e9_
               have d0 := hcl2 _ (Below.refl _ _)
               refine wp_region_lit ?_
               have hE := Env.refl a394 [237, 238, 239, 240, 241, 242, 243, 244, 21]; refine sd 237 hE k (Z02 rfl e21) ?_; intro a396 hE e237 kp; replace e21 := kt kp e21; apply Z03 238 hE k rfl rfl rfl rfl; case h =>
                simp [go_sem, ↓IntWalk.iteOmega, ev (hE.g e11)]
                with_reducible rfl
               intro a397 hE e238 kp; replace e21 := kt kp e21; replace e237 := kt kp e237; refine sd 239 hE k (Z0a O 1 rfl rfl e238 rfl Tryz.underlying40 rfl) ?_; intro a398 hE e239 kp; replace e21 := kt kp e21; replace e237 := kt kp e237; refine zm 240 hE k e22 ?_; intro a399 hE e240 kp; replace e21 := kt kp e21; replace e237 := kt kp e237; replace e239 := kt kp e239; apply Z03 241 hE k rfl rfl rfl rfl; case h =>
                simp [go_sem, ↓IntWalk.iteOmega, ev e239, ev e240]
                with_reducible rfl
               intro a400 hE e241 kp; replace e21 := kt kp e21; replace e237 := kt kp e237; apply Z03 242 hE k rfl rfl rfl rfl; case h =>
                simp [go_sem, ↓IntWalk.iteOmega, ev e241, d0]
                with_reducible rfl
               intro a401 hE e242 kp; replace e21 := kt kp e21; replace e237 := kt kp e237; refine Z3z (m := 1) (c := 1) O (cs := #[.int .i64 ↑q]) (t := 3) 243 hE k rfl (by rfl) (by rfl) rfl (by simp [go_sem, ↓IntWalk.iteOmega, ev e242]) ?_
               clear O; intro g7 a402 w403 O hE e243 kp; replace e21 := kt kp e21; replace e237 := kt kp e237; obtain ⟨gr, cr2, w404, hrun, O⟩ := app_seq O elemI8 (by decide) rfl (by intro u hu; simp at hu; subst hu; rfl) (by unfold maxLen; omega) (by omega)
               apply Z2a 244 hE k rfl (by rfl) (by rfl) rfl
               case h => exact x_append rfl e237 e243 (hrun _)
               clear hrun; intro a405 hE e244 kp; replace e21 := kt kp e21; refine sd 21 hE k (Z01 rfl e244) ?_; intro a406 hE e21 kp; refine wpList_nil ?_; replace e1 := hE.g e1; replace e6 := hE.g e6; replace e7 := hE.g e7; replace e9 := hE.g e9; replace e10 := hE.g e10; replace e11 := hE.g e11; replace e22 := hE.g e22; replace k := k.env hE; clear hE e236; refine Z0f ?_; refine Z00 ?_; rw [← intsV_app] at O
               refine wp_region_lit ?_
               have hE := Env.refl a406 [207, 208, 22]; refine sd 207 hE k (Z02 rfl e22) ?_; intro a407 hE e207 kp; replace e22 := kt kp e22; refine sd 208 hE k (Z1i rfl e207 rfl (by omega)) ?_; intro a408 hE e208 kp; replace e22 := kt kp e22; replace e208 := e208.trans (Z10 (show (z : Int) + 1 = ((z + 1 : Nat) : Int) by omega))
               refine sd 22 hE k (Z01 rfl e208) ?_; intro a409 hE e22 kp; refine wpList_nil ?_; replace e1 := hE.g e1; replace e6 := hE.g e6; replace e7 := hE.g e7; replace e9 := hE.g e9; replace e10 := hE.g e10; replace e11 := hE.g e11; replace e21 := hE.g e21; replace k := k.env hE; clear hE; refine Z00 ?_; refine ⟨⟨k, e1, e6, e7, e9, e10, e11, z + 1, sm ++ [(q : Int)], some ⟨gr, 0, none⟩, cr2, ?_, e22, by omega, ?_, fun c hc => ?_, ?_⟩, ?_⟩
               · rw [List.length_append]; exact e21
               · rw [List.length_append]; simp only [List.length_cons, List.length_nil]; omega
               · rcases List.mem_append.1 hc with hc | hc; exact hsm c hc; obtain rfl := List.mem_singleton.1 hc; exact ⟨h1, h2, hK⟩
               · rw [List.length_append]; exact O
               · rw [e22, mz]; simp only [intOf]; omega
            · skip
              refine Z07 e73 rfl ?_
              refine wp_seq ?_; refine wp_region_lit ?_
              have hE := Env.refl a100 [101, 100]; refine sd 101 hE k (Z08 (Z19 rfl (hE.g e72) rfl) (decide_eq_false hk3)) ?_
              intro a410 hE e101 kp; refine sd 100 hE k (Z01 rfl e101) ?_; intro a411 hE e100 kp; refine wpList_nil ?_; replace e1 := hE.g e1; replace e6 := hE.g e6; replace e7 := hE.g e7; replace e9 := hE.g e9; replace e10 := hE.g e10; replace e11 := hE.g e11; replace e72 := hE.g e72; replace k := k.env hE; clear hE e73; refine Z00 ?_; refine Z07 e100 rfl ?_
              refine wp_seq ?_; refine wp_region_lit ?_
              have hE := Env.refl a411 [111, 110]; refine sd 111 hE k (Z08 (Z19 rfl (hE.g e72) rfl) (decide_eq_false hk4)) ?_
              intro a412 hE e111 kp; refine sd 110 hE k (Z01 rfl e111) ?_; intro a413 hE e110 kp; refine wpList_nil ?_; replace e1 := hE.g e1; replace e6 := hE.g e6; replace e7 := hE.g e7; replace e9 := hE.g e9; replace e10 := hE.g e10; replace e11 := hE.g e11; replace e72 := hE.g e72; replace k := k.env hE; clear hE e100; refine Z00 ?_; refine Z07 e110 rfl ?_
              refine wp_seq ?_; refine wp_region_lit ?_
              have hE := Env.refl a413 [147, 146]; refine sd 147 hE k (Z08 (Z19 rfl (hE.g e72) rfl) (decide_eq_false hk5)) ?_
              intro a414 hE e147 kp; refine sd 146 hE k (Z01 rfl e147) ?_; intro a415 hE e146 kp; refine wpList_nil ?_; replace e1 := hE.g e1; replace e6 := hE.g e6; replace e7 := hE.g e7; replace e9 := hE.g e9; replace e10 := hE.g e10; replace e11 := hE.g e11; replace e72 := hE.g e72; replace k := k.env hE; clear hE e110; refine Z00 ?_; refine Z07 e146 rfl ?_
              refine wp_seq ?_; refine wp_region_lit ?_
              have hE := Env.refl a415 [200, 199]; refine sd 200 hE k (Z08 (Z19 rfl (hE.g e72) rfl) (decide_eq_false hk6)) ?_
              intro a416 hE e200 kp; refine sd 199 hE k (Z01 rfl e200) ?_; intro a417 hE e199 kp; refine wpList_nil ?_; replace e1 := hE.g e1; replace e6 := hE.g e6; replace e7 := hE.g e7; replace e9 := hE.g e9; replace e10 := hE.g e10; replace e11 := hE.g e11; replace k := k.env hE; clear hE e72 e146; refine Z00 ?_; refine Z07 e199 rfl ?_
              refine wp_skip ?_; refine Z0f ?_; refine Z00 ?_; replace O : OwnT _ _ ([tBlk ub 62 #[.int .i64 (↑(pgs Nn)), .slice (some ⟨g1, 0, none⟩) ((pgs Nn)) ((pgs Nn)), .slice (some ⟨g2, 0, none⟩) ((pgs Nn)) ((pgs Nn)), .slice (some ⟨g3, 0, none⟩) ((pgs Nn)) ((pgs Nn)), .int .u64 h.g, .int .i64 h.r, .int .i64 h.a, .int .i64 h.b, .int .i64 h.c], tBlk g1 4 (boA (pgs Nn) K), tBlk g2 4 (boA (pgs Nn) (isF F)), tBlk g3 47 (ndA (pgs Nn) T), tBlk sb 102 (stB p h (((o : Nat) : Int)) kb fb), tMap kb 512 (keptV K), tMap fb 512 m, tPool vs N, tDisc p mb B Nn cap bm S noL, tMn mb M, tPool us QN]) w101 := OwnT.pick O [1, 2, 3, 4, 5, 6, 7, 8, 9, 10, 11] (by decide)
              exact ⟨k, e1, e6, e7, e9, e10, _, _, _, _, _, _, _, _, _, _, _, _, s7.next, O⟩
 · clear k e1 e6 e7 e9 e10 e11 e70 O; intro a418 w419 h_; obtain ⟨k, e1, e6, e7, e9, e10, h, o, K, F, m, vs, N, S, M, T, us, QN, s8, O⟩ := h_
   have hcn := (s8.ok.apart s8.ap).count hPb.1
   obtain ⟨fr, hfr⟩ : ∃ z, (freeL (pgs Nn) K F).length = z := ⟨_, rfl⟩
   obtain ⟨fs, hfs⟩ : ∃ z, (fL (pgs Nn) F).length = z := ⟨_, rfl⟩
   rw [hfr, hfs] at hcn

   refine wp_seq ?_; refine wp_region_lit ?_
   have hE := Env.refl a418 [252, 253, 251, 254, 255, 23, 24]; refine zm 252 hE k e9 ?_; intro a420 hE e252 kp; apply Z06 253 hE k rfl (by rfl) (by rfl) rfl
   case h =>
    simp [go_sem, ↓IntWalk.iteOmega, ev e252]
    with_reducible exact ⟨rfl, rfl⟩
   case hc => exact (ucount_any (R := [tBlk sb 102 (stB p h (((o : Nat) : Int)) kb fb), tMap kb 512 (keptV K), tMap fb 512 m, tPool vs N, tDisc p mb B Nn cap bm S noL, tMn mb M, tPool us QN]) _ O hPb (s8.ok.apart s8.ap)).mono (fun e w' h => by rw [hfr, hfs] at h; exact h)
   clear O; rintro e w422 ⟨rfl, O⟩
   refine ⟨_, rfl, ?_⟩
   intro a421 hE e253 kp; refine sd 251 hE k (Z02 rfl e253) ?_; intro a423 hE e251 kp; apply Z03 254 hE k rfl rfl rfl rfl; case h =>
    simp [go_sem, ↓IntWalk.iteOmega, ev e251]
    with_reducible rfl
   intro a424 hE e254 kp; replace e251 := kt kp e251; apply Z03 255 hE k rfl rfl rfl rfl; case h =>
    simp [go_sem, ↓IntWalk.iteOmega, ev e251]
    with_reducible rfl
   intro a425 hE e255 kp; replace e254 := kt kp e254; refine sd 23 hE k (Z01 rfl e254) ?_; intro a426 hE e23 kp; replace e255 := kt kp e255; refine sd 24 hE k (Z01 rfl e255) ?_; intro a427 hE e24 kp; replace e23 := kt kp e23; refine wpList_nil ?_; replace e1 := hE.g e1; replace e6 := hE.g e6; replace e7 := hE.g e7; replace e9 := hE.g e9; replace e10 := hE.g e10; replace k := k.env hE; clear hE; refine Z00 ?_; have hss := OwnT.stR O.tail.tail.tail.tail
   have hdd := OwnT.disc (OwnT.pull O 8 rfl)
   refine wp_seq ?_; refine Z0l (R := Ext) (w0 := w422) [[], [0], [], [2], [2, 3], [2, 3, 4], rg 6, rg 7, rg 8, rg 9, rg 8, rg 11, rg 12, rg 13, rg 14, rg 15, rg 14, rg 17, rg 18, rg 19, rg 20, rg 21, rg 20, rg 23, rg 24] [256, 257, 258, 259, 260, 261, 262, 263, 264, 265, 266, 267, 268, 269, 270, 271, 272, 273, 274, 275, 276, 277, 278, 279, 280] Ext.refl (fun _ _ _ => Ext.trans) (Ext.drew _) (by kernel_rfl) ?_
   refine bd 256 k rfl rfl rfl (fun ax wx hE hR hF => Z02 rfl (hE.g e7)) ?_
   apply Build.call 257 Ext.refl (by rfl) (by rw [k.size]; rfl) rfl
   case h =>
    intro ax wx hE hR hF; have e256 := zhF hF 0 256 ml0; simp [go_sem, ↓IntWalk.iteOmega, ev e256]
    with_reducible exact ⟨rfl, rfl⟩
   case hc => intro wx hR; exact Z52 wx (hss.ext hR)
   refine bd 258 k rfl rfl rfl (fun ax wx hE hR hF => Z02 rfl (hE.g e9)) ?_
   refine bd 259 k rfl rfl rfl (fun ax wx hE hR hF => have e258 := zhF hF 2 258 ml0; Z0d rfl e258) ?_
   apply bd 260 k rfl rfl rfl; case h =>
    intro ax wx hE hR hF; have e259 := zhF hF 3 259 ml0; simp [go_sem, ↓IntWalk.iteOmega, ev e259]
    with_reducible rfl
   refine bd 261 k rfl rfl rfl (fun ax wx hE hR hF => have e260 := zhF hF 4 260 ml0; Z1n (OwnT.ext O hR) 0 rfl rfl e260 [.int .u64 h.g, .int .i64 h.r, .int .i64 h.a, .int .i64 h.b, .int .i64 h.c] rfl Tryz.underlying39 rfl (by kernel_rfl)) ?_
   refine bd 262 k rfl rfl rfl (fun ax wx hE hR hF => have e257 := zhF hF 1 257 ml4; have e261 := zhF hF 5 261 ml0; x_neHd rfl e257 e261) ?_
   refine bd 263 k rfl rfl rfl (fun ax wx hE hR hF => have e262 := zhF hF 6 262 ml0; Z02 rfl e262) ?_
   refine bdg 264 k rfl rfl rfl rfl (fun ax wx hE hR hF => have e263 := zhF hF 7 263 ml0; ⟨e263, Z02 rfl (hE.g e7)⟩) ?_
   apply Build.callg 265 Ext.refl (by rfl) (by rw [k.size]; rfl) rfl rfl
   case h =>
    intro ax wx hE hR hF; have e264 := zhF hF 8 264 ml0; have e263 := zhF hF 7 263 ml1; refine ⟨e263, ?_⟩; simp [go_sem, ↓IntWalk.iteOmega, ev e264]
    with_reducible exact ⟨rfl, rfl⟩
   case hc => intro wx hR; exact (Z1p wx (hss.ext hR) (hdd.ext hR)).mono (fun e w' h => (⟨h.1, h.2 ▸ Ext.refl _⟩ : _ ∧ Ext wx w'))
   refine bdg 266 k rfl rfl rfl rfl (fun ax wx hE hR hF => have e263 := zhF hF 7 263 ml2; ⟨e263, Z02 rfl (hE.g e6)⟩) ?_
   refine bdg 267 k rfl rfl rfl rfl (fun ax wx hE hR hF => have e265 := zhF hF 9 265 ml1; have e266 := zhF hF 10 266 ml0; have e263 := zhF hF 7 263 ml3; ⟨e263, Z08 (Z0x rfl e265 e266) (decide_eq_false (fun h => h rfl))⟩) ?_
   refine bd 268 k rfl rfl rfl (fun ax wx hE hR hF => have e263 := zhF hF 7 263 ml4; have e267 := zhF hF 11 267 ml0; Z09 rfl e263 e267) ?_
   refine bd 269 k rfl rfl rfl (fun ax wx hE hR hF => have e268 := zhF hF 12 268 ml0; Z02 rfl e268) ?_
   refine bdg 270 k rfl rfl rfl rfl (fun ax wx hE hR hF => have e269 := zhF hF 13 269 ml0; ⟨e269, Z02 rfl (hE.g e7)⟩) ?_
   apply Build.callg 271 Ext.refl (by rfl) (by rw [k.size]; rfl) rfl rfl
   case h =>
    intro ax wx hE hR hF; have e270 := zhF hF 14 270 ml0; have e269 := zhF hF 13 269 ml1; refine ⟨e269, ?_⟩; simp [go_sem, ↓IntWalk.iteOmega, ev e270]
    with_reducible exact ⟨rfl, rfl⟩
   case hc => intro wx hR; exact (show Calls _ _ _ _ (fun e w' => e = .returned (.int .i64 ↑fr) ∧ Ext wx w') from (Z5x wx (hss.ext hR) (hdd.ext hR) s8.ok rfl).mono (fun e w' h => ⟨h.1.trans (congrArg (fun z => Ending.returned (Value.int .i64 z)) (by rw [hfs]; omega)), h.2⟩))
   refine bdg 272 k rfl rfl rfl rfl (fun ax wx hE hR hF => have e269 := zhF hF 13 269 ml2; ⟨e269, Z02 rfl (hE.g e23)⟩) ?_
   refine bdg 273 k rfl rfl rfl rfl (fun ax wx hE hR hF => have e271 := zhF hF 15 271 ml1; have e272 := zhF hF 16 272 ml0; have e269 := zhF hF 13 269 ml3; ⟨e269, Z08 (Z0x rfl e271 e272) (decide_eq_false (fun h => h rfl))⟩) ?_
   refine bd 274 k rfl rfl rfl (fun ax wx hE hR hF => have e269 := zhF hF 13 269 ml4; have e273 := zhF hF 17 273 ml0; Z09 rfl e269 e273) ?_
   refine bd 275 k rfl rfl rfl (fun ax wx hE hR hF => have e274 := zhF hF 18 274 ml0; Z02 rfl e274) ?_
   refine bdg 276 k rfl rfl rfl rfl (fun ax wx hE hR hF => have e275 := zhF hF 19 275 ml0; ⟨e275, Z02 rfl (hE.g e7)⟩) ?_
   apply Build.callg 277 Ext.refl (by rfl) (by rw [k.size]; rfl) rfl rfl
   case h =>
    intro ax wx hE hR hF; have e276 := zhF hF 20 276 ml0; have e275 := zhF hF 19 275 ml1; refine ⟨e275, ?_⟩; simp [go_sem, ↓IntWalk.iteOmega, ev e276]
    with_reducible exact ⟨rfl, rfl⟩
   case hc => intro wx hR; exact (sfresh_any wx (hss.ext hR) s8.ok).mono (fun e w' h => (⟨h.1.trans (by rw [hfs]), h.2 ▸ Ext.refl _⟩ : e = .returned (.int .i64 (fs : Nat)) ∧ Ext wx w'))
   refine bdg 278 k rfl rfl rfl rfl (fun ax wx hE hR hF => have e275 := zhF hF 19 275 ml2; ⟨e275, Z02 rfl (hE.g e24)⟩) ?_
   refine bdg 279 k rfl rfl rfl rfl (fun ax wx hE hR hF => have e277 := zhF hF 21 277 ml1; have e278 := zhF hF 22 278 ml0; have e275 := zhF hF 19 275 ml3; ⟨e275, Z08 (Z0x rfl e277 e278) (decide_eq_false (fun h => h rfl))⟩) ?_
   refine bd 280 k rfl rfl rfl (fun ax wx hE hR hF => have e275 := zhF hF 19 275 ml4; have e279 := zhF hF 23 279 ml0; Z09 rfl e275 e279) ?_
   apply Build.stop
   refine ⟨by kernel_rfl, .inl ⟨rfl, ?_⟩⟩
   intro a428 w429 hE R hF; have e280 : a428.eval (.tmp 280) = _ := hF 24 (det 280 _) ml0
   clear hF; replace O := OwnT.ext O R; clear R; replace e1 := hE.g e1; replace e6 := hE.g e6; replace e7 := hE.g e7; replace e9 := hE.g e9; replace e10 := hE.g e10; replace k := k.env hE; clear hE e23 e24; refine Z00 ?_; refine Z07 e280 rfl ?_
   refine wp_skip ?_; refine Z0f ?_; refine Z00 ?_; refine wp_region_lit ?_
   have hE := Env.refl a428 [61, 62, 10]; refine sd 61 hE k (Z02 rfl e10) ?_; intro a430 hE e61 kp; replace e10 := kt kp e10; refine sd 62 hE k (Z1i rfl e61 rfl (by omega)) ?_; intro a431 hE e62 kp; replace e10 := kt kp e10; replace e62 := e62.trans (Z10 (show (i : Int) + 1 = ((i + 1 : Nat) : Int) by omega))
   refine sd 10 hE k (Z01 rfl e62) ?_; intro a432 hE e10 kp; refine wpList_nil ?_; replace e1 := hE.g e1; replace e6 := hE.g e6; replace e7 := hE.g e7; replace e9 := hE.g e9; replace k := k.env hE; clear hE e280; refine Z00 ?_; refine ⟨⟨k, e1, e6, e7, e9, i + 1, h, o, K, F, m, vs, N, S, M, T, us, QN, e10, by omega, s8, O⟩, ?_⟩
   rw [e10, mi]; simp only [intOf]; omega
theorem storeExact_walk (w : World) (v0 v1 : Value) (h0 : Arg Tryz.prog w 3 v0) (h1 : Arg Tryz.prog w 22 v1) :
 Calls Tryz.prog 3 #[v0, v1] w fun e w' => e = .returned (.bool true) ∧ Below w.heap.size w w' := by
 obtain ⟨x, rfl, -⟩ := arg_int Tryz.underlying3 h0
 obtain ⟨A1, n1, c1, xs1, rfl, a1, a2, a3, a4, a5⟩ := arg_acts7 h1
 exact Z4x x xs1 w a3 (Nat.le_trans a1 a2) a4 a5
section
open Go.ChangeShapes Go.WideShapes Go.ChangeAt
theorem Arg.mk_ {P : Program} {w : World} {t : TypeId} {v : Value} {H : Type} {enc : TypeId × Value → H} {d : DataW H} {p : List MemPlace} {r : Reach} {base : Nat} (h : DataW.Trod enc P w 0 (fun _ => true) true t v d p) (hv : Value.okWide P w r base t v) : Arg P w t v := by
  obtain ⟨fuel, hf⟩ := h
  exact ⟨⟨H, enc, fuel, _, hf⟩, r, base, hv⟩
end
end Go.Proofs.YtakkhglbdljfiaaGreatDoor
