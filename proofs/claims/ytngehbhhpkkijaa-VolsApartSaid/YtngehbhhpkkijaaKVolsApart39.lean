/- volumes' law: VolsApart (printed by XVaB.gen.py). -/
import Derived.Test.YtngehbhhpkkijaaKVolsApart38
namespace Go.Proofs.Ytngehbhhpkkijaa
attribute [local simp] BigFrame.eval_const BigFrame.eval_global BigFrame.eval_func
set_option linter.unusedVariables false
set_option linter.unusedSimpArgs false
open Go.RowKit Go.Maps

set_option maxRecDepth 100000 in
set_option maxHeartbeats 4000000 in
theorem Z4c {A : Option Addr} {n cp : Nat} (xs : List VlD) (x : Int) (W0 : World) (hl : xs.length = n) (hrow : Row W0 A 5 vlC xs) : Calls Try.prog 11 #[.slice A n cp, .int .i64 x] W0 fun e w' => e = .returned (.bool true) ∧ Below W0.heap.size W0 w' := by
 have O := OwnT.start W0
 refine Z0a Try.func11 rfl 168 rfl (by rfl) ?_
 intro a1 k hargs
 have e0 : a1.eval (.tmp 0) = .slice A n cp := hargs 0 _ rfl
 have e1 : a1.eval (.tmp 1) = .int .i64 x := hargs 1 _ rfl
 clear hargs
 refine wp_seq ?_
 refine wp_region_lit ?_
 have hE := Env.refl a1 [4]
 refine sd 4 hE k (Z00 rfl rfl) ?_
 intro a2 hE e4 kp
 refine wpList_nil ?_
 replace e0 := hE.g e0; replace e1 := hE.g e1
 replace k := k.env hE
 clear hE e4
 refine Z01 (wp_seq ?_)
 refine wp_seq ?_
 refine wp_region_lit ?_
 have hE := Env.refl a2 [23, 24]
 apply Z06 23 hE k rfl (by rfl) (by rfl) rfl
 case h =>
  simp [go_sem, ↓IntWalk.iteOmega]
  with_reducible exact ⟨rfl, rfl⟩
 case hc => exact awake11 _
 rintro e w4 ⟨rfl, R⟩
 replace O := OwnT.ext O R
 refine ⟨_, rfl, ?_⟩
 intro a3 hE e23 kp
 refine sd 24 hE k (Z1m rfl e23) ?_
 intro a5 hE e24 kp
 refine wpList_nil ?_
 replace e0 := hE.g e0; replace e1 := hE.g e1
 replace k := k.env hE
 clear hE
 refine Z01 ?_
 refine Z05 e24 rfl ?_
 refine wp_skip ?_
 refine Z01 ?_
 by_cases h16 : 16 < n
 · skip
   refine wp_seq ?_
   refine wp_seq ?_
   refine wp_region_lit ?_
   have hE := Env.refl a5 [25, 26, 27]
   refine sm 25 hE k e0 ?_
   intro a6 hE e25 kp
   refine sd 26 hE k (Z0g Try.underlying96 rfl e25) ?_
   intro a7 hE e26 kp
   refine sd 27 hE k (Z07 (Z20 rfl e26 rfl) (decide_eq_true (by omega))) ?_
   intro a8 hE e27 kp
   refine wpList_nil ?_
   replace e0 := hE.g e0; replace e1 := hE.g e1
   replace k := k.env hE
   clear hE e24
   refine Z01 ?_
   refine Z0d e27 rfl ?_
   refine wp_seq ?_
   refine wp_region_lit ?_
   have hE := Env.refl a8 [4]
   refine sd 4 hE k (Z00 rfl rfl) ?_
   intro a9 hE e4 kp
   refine wpList_nil ?_
   replace k := k.env hE
   clear hE e0 e1 e27
   refine Z01 ?_
   refine wp_ret ?_
   refine Z0j ?_
   refine Z0x rfl k e4 ?_
   exact ⟨rfl, O.below⟩
 · skip
   refine wp_seq ?_
   refine wp_seq ?_
   refine wp_region_lit ?_
   have hE := Env.refl a5 [25, 26, 27]
   refine sm 25 hE k e0 ?_
   intro a10 hE e25 kp
   refine sd 26 hE k (Z0g Try.underlying96 rfl e25) ?_
   intro a11 hE e26 kp
   refine sd 27 hE k (Z07 (Z20 rfl e26 rfl) (decide_eq_false (by omega))) ?_
   intro a12 hE e27 kp
   refine wpList_nil ?_
   replace e0 := hE.g e0; replace e1 := hE.g e1
   replace k := k.env hE
   clear hE e24
   refine Z01 ?_
   refine Z05 e27 rfl ?_
   refine wp_skip ?_
   refine Z01 (wp_seq ?_)
   refine wp_region_lit ?_
   have hE := Env.refl a12 [28, 29, 5]
   apply Z02 28 hE k rfl rfl rfl rfl
   case h =>
    simp [go_sem, ↓IntWalk.iteOmega]
    with_reducible rfl
   intro a13 hE e28 kp
   refine Z0f O (cs := #[.slice none 0 0, .int .i64 511]) (t := 28) 29 hE k rfl (by rfl) (by rfl) rfl (by simp [go_sem, ↓IntWalk.iteOmega, ev e28]) ?_
   clear O
   intro sb a14 w15 O hE e29 kp
   refine sd 5 hE k (Z00 rfl e29) ?_
   intro a16 hE e5 kp
   refine wpList_nil ?_
   replace e0 := hE.g e0; replace e1 := hE.g e1
   replace k := k.env hE
   clear hE e27
   refine Z01 ?_
   replace O := sh_nil O
   refine wp_seq ?_
   refine wp_region_lit ?_
   have hE := Env.refl a16 [6]
   refine sd 6 hE k (Z00 rfl rfl) ?_
   intro a17 hE e6 kp
   refine wpList_nil ?_
   replace e0 := hE.g e0; replace e1 := hE.g e1; replace e5 := hE.g e5
   replace k := k.env hE
   clear hE
   refine Z01 (wp_seq ?_)
   refine wp_region_lit ?_
   have hE := Env.refl a17 [30, 7]
   refine sd 30 hE k (x_zeroV rfl) ?_
   intro a18 hE e30 kp
   apply Z25 7 hE k rfl (by rfl) (by rfl) rfl
   case h =>
    exact x_allocV rfl
   intro a19 hE e7 kp
   replace e30 := kt kp e30
   obtain ⟨tb, hub⟩ : ∃ b, w15.heap.size = b := ⟨_, rfl⟩
   replace O := OwnT.new O 102 (vtA fun _ => zD)
   rw [hub] at O e7
   clear hub
   generalize w15.alloc (.cells (vtA fun _ => zD) 102) = wz at O ⊢
   refine sq_zeroV rfl rfl _ _ _ rfl e7 e30 (OwnT.b0 O) (by rw [Z22]; kernel_rfl) (vtA_one _) ?_
   refine wpList_nil ?_
   replace e0 := hE.g e0; replace e1 := hE.g e1; replace e5 := hE.g e5; replace e6 := hE.g e6
   replace k := k.env hE
   clear hE
   refine Z01 ?_
   replace O : OwnT _ _ ((tBlk sb 28 #[.slice none (([]).length) 0, .int .i64 511]) :: (tRow 125 2 (.slice none ([]).length 0) ([]).length (leafV ([]) ([]))) :: (tPool ([]) ([])) :: (tBlk tb 102 (vtA fun _ => zD)) :: []) wz := OwnT.pickR (L := [_, _, _, _]) (R := []) O [1, 2, 3, 0] (by decide)
   refine wp_seq ?_
   refine wp_seq ?_
   refine wp_region_lit ?_
   have hE := Env.refl a19 [8]
   refine sd 8 hE k (Z00 rfl rfl) ?_
   intro a21 hE e8 kp
   refine wpList_nil ?_
   replace e0 := hE.g e0; replace e1 := hE.g e1; replace e5 := hE.g e5; replace e6 := hE.g e6; replace e7 := hE.g e7
   replace k := k.env hE
   clear hE
   refine Z01 ?_
   refine wp_block ?_
   refine wp_loop (fun a w => Fr 168 a ∧ a.eval (.tmp 0) = .slice A n cp ∧ a.eval (.tmp 1) = .int .i64 x ∧ a.eval (.tmp 5) = .pointer (some ⟨sb, 0, none⟩) ∧ a.eval (.tmp 7) = .pointer (some ⟨tb, 0, none⟩) ∧ ∃ (i rt : Nat) (P : List Pr) (t : Nat → VlD) (N : List Nd) (B : Option Addr) (cap : Nat) (vs : List Value), a.eval (.tmp 6) = .int .i64 ↑rt ∧ a.eval (.tmp 8) = .int .i64 ↑i ∧ i ≤ n ∧ N.length ≤ 5 * i ∧ Tre N rt (8 + i) P ∧ VT P t ∧ OwnT W0.heap.size W0 ((tBlk sb 28 #[.slice B N.length cap, .int .i64 511]) :: (tRow 125 2 (.slice B N.length cap) N.length (leafV vs N)) :: (tPool vs N) :: (tBlk tb 102 (vtA t)) :: []) w) (fun a w => n - (intOf (a.eval (.tmp 8))).toNat) ?_ ?_
   · exact ⟨k, e0, e1, e5, e7, 0, 0, [], (fun _ => zD), [], none, 0, [], e6, e8, Nat.zero_le _, Nat.zero_le _, (Tre.zero []).le (by omega), VT.zero, O⟩
   intro a22 w23 hI
   clear k e0 e1 e5 e7
   obtain ⟨k, e0, e1, e5, e7, h_⟩ := hI
   clear O e6 e8
   obtain ⟨i, rt, P, t, N, B, cap, vs, e6, e8, hi, hN, hT, hV, O⟩ := h_
   have mi := e8
   by_cases hlt : i < n
   · have hltI : (i : Int) < (n : Int) := by omega
     have h0I : (0 : Int) < (n : Int) := by omega
     obtain ⟨⟨i_, s, r, p, f⟩, hx⟩ : ∃ x, xs[i]? = some x := ⟨_, List.getElem?_eq_getElem (by omega)⟩
     obtain ⟨⟨i0, s0, r0, p0, f0⟩, hx0⟩ : ∃ x, xs[0]? = some x := ⟨_, List.getElem?_eq_getElem (by omega)⟩
     obtain ⟨b, o, rfl, d0, d1, d2, d3, d4⟩ := Z3u hrow O.below hx

     by_cases hg : GoodVol i_ s r f
     rotate_left
     · skip
       refine wp_seq ?_
       refine wp_seq ?_
       refine wp_region_lit ?_
       have hE := Env.refl a22 [31, 32, 33, 34]
       refine sm 31 hE k e8 ?_
       intro a24 hE e31 kp
       refine sm 32 hE k e0 ?_
       intro a25 hE e32 kp
       replace e31 := kt kp e31
       refine sd 33 hE k (Z0g Try.underlying96 rfl e32) ?_
       intro a26 hE e33 kp
       replace e31 := kt kp e31
       refine sd 34 hE k (Z07 (Z1n rfl e31 e33) (decide_eq_true (by omega))) ?_
       intro a27 hE e34 kp
       refine wpList_nil ?_
       replace e0 := hE.g e0; replace e1 := hE.g e1; replace e5 := hE.g e5; replace e6 := hE.g e6; replace e7 := hE.g e7; replace e8 := hE.g e8
       replace k := k.env hE
       clear hE
       refine Z01 ?_
       refine Z0d e34 rfl ?_
       refine wp_skip ?_
       refine Z01 (wp_seq ?_)
       refine wp_block ?_
       refine wp_seq ?_
       refine wp_seq ?_
       refine wp_region_lit ?_
       have hE := Env.refl a27 [37, 38, 39, 40, 41, 42]
       refine sm 37 hE k e0 ?_
       intro a28 hE e37 kp
       refine sm 38 hE k e8 ?_
       intro a29 hE e38 kp
       replace e37 := kt kp e37
       apply Z02 39 hE k rfl rfl rfl rfl
       case h =>
        simp [go_sem, ↓IntWalk.iteOmega, ev e37, ev e38]
        with_reducible rfl
       intro a30 hE e39 kp
       apply Z02 40 hE k rfl rfl rfl rfl
       case h =>
        simp [go_sem, ↓IntWalk.iteOmega, ev e39, d0, d1, d2, d3, d4]
        with_reducible rfl
       intro a31 hE e40 kp
       apply Z06 41 hE k rfl (by rfl) (by rfl) rfl
       case h =>
        simp [go_sem, ↓IntWalk.iteOmega, ev e40]
        with_reducible exact ⟨rfl, rfl⟩
       case hc => exact Z7b i_ s r f p _ hg
       rintro e w33 ⟨rfl, RE⟩
       replace O := OwnT.ext O RE
       refine ⟨_, rfl, ?_⟩
       intro a32 hE e41 kp
       refine sd 42 hE k (Z1m rfl e41) ?_
       intro a34 hE e42 kp
       refine wpList_nil ?_
       replace e0 := hE.g e0; replace e1 := hE.g e1; replace e5 := hE.g e5; replace e6 := hE.g e6; replace e7 := hE.g e7; replace e8 := hE.g e8
       replace k := k.env hE
       clear hE e34
       refine Z01 ?_
       refine Z0d e42 rfl ?_
       refine wp_exit ?_
       refine Z14 ?_
       refine Z1q ?_
       refine Z01 ?_
       refine wp_region_lit ?_
       have hE := Env.refl a34 [35, 36, 8]
       refine sd 35 hE k (Z03 rfl e8) ?_
       intro a35 hE e35 kp
       replace e8 := kt kp e8
       refine sd 36 hE k (Z12 rfl e35 rfl (by omega)) ?_
       intro a36 hE e36 kp
       replace e8 := kt kp e8
       refine sd 8 hE k (Z00 rfl e36) ?_
       intro a37 hE e8 kp
       refine wpList_nil ?_
       replace e0 := hE.g e0; replace e1 := hE.g e1; replace e5 := hE.g e5; replace e6 := hE.g e6; replace e7 := hE.g e7
       replace k := k.env hE
       clear hE e42
       refine Z01 ?_
       refine ⟨⟨k, e0, e1, e5, e7, i + 1, rt, P, t, N, B, cap, vs, e6, e8, by omega, by omega, hT.le (by omega), hV, O⟩, ?_⟩
       rw [e8, mi]; simp only [intOf]; omega
     obtain ⟨ki, rfl⟩ : ∃ k : Nat, i_ = k := ⟨i_.toNat, by have := hg.1; omega⟩
     have hki1 : 1 ≤ ki := by have := hg.1; omega
     have hki2 : ki ≤ 16 := by have := hg.2.1; omega
     have hki17 : ki < 17 := by omega
     have hkiI : (ki : Int) < 17 := by omega
     have hkey : vlKey (ki : Int) = 4294967296 + ki := by unfold vlKey; omega

     refine wp_seq ?_
     refine wp_seq ?_
     refine wp_region_lit ?_
     have hE := Env.refl a22 [31, 32, 33, 34]
     refine sm 31 hE k e8 ?_
     intro a38 hE e31 kp
     refine sm 32 hE k e0 ?_
     intro a39 hE e32 kp
     replace e31 := kt kp e31
     refine sd 33 hE k (Z0g Try.underlying96 rfl e32) ?_
     intro a40 hE e33 kp
     replace e31 := kt kp e31
     refine sd 34 hE k (Z07 (Z1n rfl e31 e33) (decide_eq_true (by omega))) ?_
     intro a41 hE e34 kp
     refine wpList_nil ?_
     replace e0 := hE.g e0; replace e1 := hE.g e1; replace e5 := hE.g e5; replace e6 := hE.g e6; replace e7 := hE.g e7; replace e8 := hE.g e8
     replace k := k.env hE
     clear hE
     refine Z01 ?_
     refine Z0d e34 rfl ?_
     refine wp_skip ?_
     refine Z01 (wp_seq ?_)
     refine wp_block ?_
     refine wp_seq ?_
     refine wp_seq ?_
     refine wp_region_lit ?_
     have hE := Env.refl a41 [37, 38, 39, 40, 41, 42]
     refine sm 37 hE k e0 ?_
     intro a42 hE e37 kp
     refine sm 38 hE k e8 ?_
     intro a43 hE e38 kp
     replace e37 := kt kp e37
     apply Z02 39 hE k rfl rfl rfl rfl
     case h =>
      simp [go_sem, ↓IntWalk.iteOmega, ev e37, ev e38]
      with_reducible rfl
     intro a44 hE e39 kp
     apply Z02 40 hE k rfl rfl rfl rfl
     case h =>
      simp [go_sem, ↓IntWalk.iteOmega, ev e39, d0, d1, d2, d3, d4]
      with_reducible rfl
     intro a45 hE e40 kp
     apply Z06 41 hE k rfl (by rfl) (by rfl) rfl
     case h =>
      simp [go_sem, ↓IntWalk.iteOmega, ev e40]
      with_reducible exact ⟨rfl, rfl⟩
     case hc => exact Z60 ki s r f p _ hg
     rintro e w47 ⟨rfl, RE⟩
     replace O := OwnT.ext O RE
     refine ⟨_, rfl, ?_⟩
     intro a46 hE e41 kp
     refine sd 42 hE k (Z1m rfl e41) ?_
     intro a48 hE e42 kp
     refine wpList_nil ?_
     replace e0 := hE.g e0; replace e1 := hE.g e1; replace e5 := hE.g e5; replace e6 := hE.g e6; replace e7 := hE.g e7; replace e8 := hE.g e8
     replace k := k.env hE
     clear hE e34
     refine Z01 ?_
     refine Z05 e42 rfl ?_
     refine wp_skip ?_
     refine Z01 ?_
     clear d0 d1 d2 d3 d4
     obtain ⟨_, _, e, d0, d1, d2, d3, d4⟩ := Z3u hrow O.below hx; injection e with e; injection e with e e'; subst e e'
     refine wp_seq ?_
     refine wp_region_lit ?_
     have hE := Env.refl a48 [44, 45, 46, 47, 48, 49, 50, 51, 43, 52, 53, 9, 10]
     refine sm 44 hE k e5 ?_
     intro a49 hE e44 kp
     apply Z02 45 hE k rfl rfl rfl rfl
     case h =>
      simp [go_sem, ↓IntWalk.iteOmega, ev e44]
      with_reducible rfl
     intro a50 hE e45 kp
     refine sm 46 hE k e6 ?_
     intro a51 hE e46 kp
     replace e45 := kt kp e45
     refine sm 47 hE k e0 ?_
     intro a52 hE e47 kp
     replace e45 := kt kp e45; replace e46 := kt kp e46
     refine sm 48 hE k e8 ?_
     intro a53 hE e48 kp
     replace e45 := kt kp e45; replace e46 := kt kp e46; replace e47 := kt kp e47
     apply Z02 49 hE k rfl rfl rfl rfl
     case h =>
      simp [go_sem, ↓IntWalk.iteOmega, ev e47, ev e48]
      with_reducible rfl
     intro a54 hE e49 kp
     replace e45 := kt kp e45; replace e46 := kt kp e46
     apply Z02 50 hE k rfl rfl rfl rfl
     case h =>
      simp [go_sem, ↓IntWalk.iteOmega, ev e49, d0, d1, d2, d3, d4]
      with_reducible rfl
     intro a55 hE e50 kp
     replace e45 := kt kp e45; replace e46 := kt kp e46
     apply Z06 51 hE k rfl (by rfl) (by rfl) rfl
     case h =>
      simp [go_sem, ↓IntWalk.iteOmega, ev e45, ev e46, ev e50]
      with_reducible exact ⟨rfl, rfl⟩
     case hc => exact vPut (R := _ :: []) ki s r f p _ O hg hT.norm (by split <;> omega) (by omega)
     clear O
     rintro e w57 ⟨N2, r2, er, B2, cap2, vs2, rfl, O, hPL⟩
     refine ⟨_, rfl, ?_⟩
     intro a56 hE e51 kp
     refine sd 43 hE k (Z03 rfl e51) ?_
     intro a58 hE e43 kp
     apply Z02 52 hE k rfl rfl rfl rfl
     case h =>
      simp [go_sem, ↓IntWalk.iteOmega, ev e43]
      with_reducible rfl
     intro a59 hE e52 kp
     replace e43 := kt kp e43
     apply Z02 53 hE k rfl rfl rfl rfl
     case h =>
      simp [go_sem, ↓IntWalk.iteOmega, ev e43]
      with_reducible rfl
     intro a60 hE e53 kp
     replace e52 := kt kp e52
     refine sd 9 hE k (Z00 rfl e52) ?_
     intro a61 hE e9 kp
     replace e53 := kt kp e53
     refine sd 10 hE k (Z00 rfl e53) ?_
     intro a62 hE e10 kp
     replace e9 := kt kp e9
     refine wpList_nil ?_
     replace e0 := hE.g e0; replace e1 := hE.g e1; replace e5 := hE.g e5; replace e7 := hE.g e7; replace e8 := hE.g e8
     replace k := k.env hE
     clear hE e6 e42
     refine Z01 ?_
     obtain ⟨⟨M, rfl, hM⟩, hPL⟩ := hPL
     obtain ⟨rfl, r', rfl, -, -, hT2⟩ := hPL.resolve_left (fun h => h.2.2 (by omega))
     rw [hkey] at hT2

     clear d0 d1 d2 d3 d4
     refine wp_seq ?_
     refine wp_seq ?_
     refine wp_region_lit ?_
     have hE := Env.refl a62 [54, 55]
     refine sm 54 hE k e10 ?_
     intro a63 hE e54 kp
     refine sd 55 hE k (Z07 (Z0y rfl e54 rfl) (decide_eq_false (by omega))) ?_
     intro a64 hE e55 kp
     refine wpList_nil ?_
     replace e0 := hE.g e0; replace e1 := hE.g e1; replace e5 := hE.g e5; replace e7 := hE.g e7; replace e8 := hE.g e8; replace e9 := hE.g e9
     replace k := k.env hE
     clear hE e10
     refine Z01 ?_
     refine Z05 e55 rfl ?_
     refine wp_skip ?_
     refine Z01 (wp_seq ?_)
     refine wp_region_lit ?_
     have hE := Env.refl a64 [56, 6]
     refine sm 56 hE k e9 ?_
     intro a65 hE e56 kp
     refine sd 6 hE k (Z00 rfl e56) ?_
     intro a66 hE e6 kp
     refine wpList_nil ?_
     replace e0 := hE.g e0; replace e1 := hE.g e1; replace e5 := hE.g e5; replace e7 := hE.g e7; replace e8 := hE.g e8
     replace k := k.env hE
     clear hE e9 e55
     refine Z01 (wp_seq ?_)
     refine Z0b (R := Ext) (w0 := w57) [[], [], [0, 1], [0, 1, 2], [0, 1, 2, 3], [], [], [5, 6], [5, 6, 7], [0, 1, 2, 3, 4, 5, 6, 7, 8], [0, 1, 2, 3, 4, 5, 6, 7, 8, 9]] [57, 58, 59, 60, 61, 62, 63, 64, 65, 66] Ext.refl (fun _ _ _ => Ext.trans) (Ext.drew _) (by kernel_rfl) ?_
     apply bd 57 k rfl rfl rfl
     case h =>
      intro ax wx hE hR hF
      exact Z03 rfl (hE.g e0)
     apply bd 58 k rfl rfl rfl
     case h =>
      intro ax wx hE hR hF
      exact Z03 rfl (hE.g e8)
     apply bd 59 k rfl rfl rfl
     case h =>
      intro ax wx hE hR hF
      have e57 := zhF hF 0 57 ml1
      have e58 := zhF hF 1 58 ml0
      simp [go_sem, ↓IntWalk.iteOmega, ev e57, ev e58]
      with_reducible rfl
     apply bd 60 k rfl rfl rfl
     case h =>
      intro ax wx hE hR hF
      have e59 := zhF hF 2 59 ml0
      simp [go_sem, ↓IntWalk.iteOmega, ev e59]
      with_reducible rfl
     apply bd 61 k rfl rfl rfl
     case h =>
      intro ax wx hE hR hF
      have e60 := zhF hF 3 60 ml0
      obtain ⟨_, _, e, d0, d1, d2, d3, d4⟩ := Z3u hrow (OwnT.ext O hR).below hx; injection e with e; injection e with e e'; subst e e'
      simp [go_sem, ↓IntWalk.iteOmega, ev e60, d0]
      with_reducible rfl
     apply bd 62 k rfl rfl rfl
     case h =>
      intro ax wx hE hR hF
      exact Z03 rfl (hE.g e0)
     apply bd 63 k rfl rfl rfl
     case h =>
      intro ax wx hE hR hF
      exact Z03 rfl (hE.g e8)
     apply bd 64 k rfl rfl rfl
     case h =>
      intro ax wx hE hR hF
      have e62 := zhF hF 5 62 ml1
      have e63 := zhF hF 6 63 ml0
      simp [go_sem, ↓IntWalk.iteOmega, ev e62, ev e63]
      with_reducible rfl
     apply bd 65 k rfl rfl rfl
     case h =>
      intro ax wx hE hR hF
      have e64 := zhF hF 7 64 ml0
      obtain ⟨_, _, e, d0, d1, d2, d3, d4⟩ := Z3u hrow (OwnT.ext O hR).below hx; injection e with e; injection e with e e'; subst e e'
      simp [go_sem, ↓IntWalk.iteOmega, ev e64, d0, d1, d2, d3, d4]
      with_reducible rfl
     apply bd 66 k rfl rfl rfl
     case h =>
      intro ax wx hE hR hF
      have e61 := zhF hF 4 61 ml4
      simp [go_sem, ↓IntWalk.iteOmega, ev (hE.g e7), ev e61]
      with_reducible rfl
     apply Build.stop
     refine ⟨by kernel_rfl, .inr ⟨by kernel_rfl, _, rfl, rfl, ?_⟩⟩
     intro a67 w68 hE R hF
     have e65 : a67.eval (.tmp 65) = _ := hF 8 (det 65 _) ml1
     have e66 : a67.eval (.tmp 66) = _ := hF 9 (det 66 _) ml0
     clear hF
     replace O := OwnT.ext O R
     clear R
     have hth : World.there w68 tb (ki * 5) 5 := Z67 (OwnT.blk O 3 rfl) hki17
     refine last_skip (w' := World.setCells w68 tb (ki * 5) (vlC ((ki : Int), s, r, p, f))) rfl (x_st5 (x0 := ((ki : Int), s, r, p, f)) rfl e66 e65 hth) ?_
     replace O := OwnT.push (L := [_, _, _, _]) 3 rfl (OwnT.setCs (off := ki * 5) (vlC ((ki : Int), s, r, p, f)) (OwnT.pull O 3 rfl))
     clear hth
     rw [Z7i t _ hki17] at O
     generalize World.setCells w68 tb (ki * 5) (vlC ((ki : Int), s, r, p, f)) = wv at O ⊢
     replace e0 := hE.g e0; replace e1 := hE.g e1; replace e5 := hE.g e5; replace e6 := hE.g e6; replace e7 := hE.g e7; replace e8 := hE.g e8
     replace k := k.env hE
     clear hE e65 e66
     refine Z01 ?_
     obtain ⟨_, _, e, d0, d1, d2, d3, d4⟩ := Z3u hrow O.below hx; injection e with e; injection e with e e'; subst e e'
     refine wp_seq ?_
     refine wp_region_lit ?_
     have hE := Env.refl a67 [68, 69, 70, 71, 72, 67, 73, 74, 11, 12]
     refine sm 68 hE k e0 ?_
     intro a69 hE e68 kp
     refine sm 69 hE k e8 ?_
     intro a70 hE e69 kp
     replace e68 := kt kp e68
     apply Z02 70 hE k rfl rfl rfl rfl
     case h =>
      simp [go_sem, ↓IntWalk.iteOmega, ev e68, ev e69]
      with_reducible rfl
     intro a71 hE e70 kp
     apply Z02 71 hE k rfl rfl rfl rfl
     case h =>
      simp [go_sem, ↓IntWalk.iteOmega, ev e70, d0, d1, d2, d3, d4]
      with_reducible rfl
     intro a72 hE e71 kp
     apply Z06 72 hE k rfl (by rfl) (by rfl) rfl
     case h =>
      simp [go_sem, ↓IntWalk.iteOmega, ev e71]
      with_reducible exact ⟨rfl, rfl⟩
     case hc => exact Z1v ki s r f p _ hg.1 hg.2.1 hg.2.2.1 hg.2.2.2.1 hg.2.2.2.2.1 hg.2.2.2.2.2.1 hg.2.2.2.2.2.2.1 hg.2.2.2.2.2.2.2
     rintro e w74 ⟨rfl, RE⟩
     replace O := OwnT.ext O RE
     refine ⟨_, rfl, ?_⟩
     intro a73 hE e72 kp
     refine sd 67 hE k (Z03 rfl e72) ?_
     intro a75 hE e67 kp
     apply Z02 73 hE k rfl rfl rfl rfl
     case h =>
      simp [go_sem, ↓IntWalk.iteOmega, ev e67]
      with_reducible rfl
     intro a76 hE e73 kp
     replace e67 := kt kp e67
     apply Z02 74 hE k rfl rfl rfl rfl
     case h =>
      simp [go_sem, ↓IntWalk.iteOmega, ev e67]
      with_reducible rfl
     intro a77 hE e74 kp
     replace e73 := kt kp e73
     refine Z0f O (cs := #[.int .u64 0, .int .u64 0]) (t := 38) 11 hE k rfl (by rfl) (by rfl) rfl (by simp [go_sem, ↓IntWalk.iteOmega]) ?_
     clear O
     intro pa a78 w79 O hE e11 kp
     replace e73 := kt kp e73; replace e74 := kt kp e74
     have q0 : w79.cell? ⟨pa, 0, none⟩ = some (.int .u64 0) := (OwnT.blk O 0 rfl).cell 0
     have z0 : w79.frozen? ⟨pa, 0, none⟩ = false := (OwnT.blk O 0 rfl).frozen 0
     have q1 : w79.cell? ⟨pa, 1, none⟩ = some (.int .u64 0) := (OwnT.blk O 0 rfl).cell 1
     have z1 : w79.frozen? ⟨pa, 1, none⟩ = false := (OwnT.blk O 0 rfl).frozen 1
     refine Z0e (w' := ((w79.setCell ⟨pa, 0, none⟩ (.int .u64 ((4294967296 + ↑ki)))).setCell ⟨pa, 1, none⟩ (.int .u64 ((volPair s r p f))))) hE rfl rfl (by simp [go_sem, ↓IntWalk.iteOmega, ev e11, ev e73, q0, z0, q1, z1]) ?_
     replace O := OwnT.push 0 rfl (((OwnT.pull O 0 rfl).set 0 (.int .u64 ((4294967296 + ↑ki)))).set 1 (.int .u64 ((volPair s r p f))))
     clear q0 z0 q1 z1
     generalize ((w79.setCell ⟨pa, 0, none⟩ (.int .u64 ((4294967296 + ↑ki)))).setCell ⟨pa, 1, none⟩ (.int .u64 ((volPair s r p f)))) = w80 at O ⊢
     replace O : OwnT _ _ ((tBlk pa 38 #[.int .u64 ((4294967296 + ↑ki)), .int .u64 ((volPair s r p f))]) :: (tBlk sb 28 #[.slice B2 (((N ++ M)).length) cap2, .int .i64 511]) :: (tRow 125 2 (.slice B2 ((N ++ M)).length cap2) ((N ++ M)).length (leafV vs2 ((N ++ M)))) :: (tPool vs2 ((N ++ M))) :: (tBlk tb 102 (vtA (fun i => if i = ki then ((ki : Int), s, r, p, f) else t i))) :: []) w80 := O
     refine sd 12 hE k (Z00 rfl e74) ?_
     intro a81 hE e12 kp
     replace e11 := kt kp e11
     refine wpList_nil ?_
     replace e0 := hE.g e0; replace e1 := hE.g e1; replace e5 := hE.g e5; replace e6 := hE.g e6; replace e7 := hE.g e7; replace e8 := hE.g e8
     replace k := k.env hE
     clear hE e12
     refine Z01 ?_
     clear d0 d1 d2 d3 d4
     obtain ⟨_, _, e, n0, n1, n2, n3, n4⟩ := vl_at0 hrow O.below hx0; injection e with e; injection e with e e'; subst e e'
     by_cases hg0 : GoodVol i0 s0 r0 f0
     · obtain ⟨c, hc⟩ : ∃ c, decide ((ki : Int) = i0 ∧ s = s0 ∧ r = r0 ∧ p = p0 ∧ f = f0) = c := ⟨_, rfl⟩
       have hc2 := (vol_inj p p0 hg hg0).trans hc
       refine wp_seq ?_
       refine wp_region_lit ?_
       have hE := Env.refl a81 [76, 77, 78, 79, 75, 80, 81, 13, 14]
       refine sm 76 hE k e0 ?_
       intro a82 hE e76 kp
       apply Z02 77 hE k rfl rfl rfl rfl
       case h =>
        simp [go_sem, ↓IntWalk.iteOmega, ev e76]
        with_reducible rfl
       intro a83 hE e77 kp
       apply Z02 78 hE k rfl rfl rfl rfl
       case h =>
        simp [go_sem, ↓IntWalk.iteOmega, ev e77, n0, n1, n2, n3, n4]
        with_reducible rfl
       intro a84 hE e78 kp
       apply Z06 79 hE k rfl (by rfl) (by rfl) rfl
       case h =>
        simp [go_sem, ↓IntWalk.iteOmega, ev e78]
        with_reducible exact ⟨rfl, rfl⟩
       case hc => exact Z1v i0 s0 r0 f0 p0 _ hg0.1 hg0.2.1 hg0.2.2.1 hg0.2.2.2.1 hg0.2.2.2.2.1 hg0.2.2.2.2.2.1 hg0.2.2.2.2.2.2.1 hg0.2.2.2.2.2.2.2
       rintro e w86 ⟨rfl, RE⟩
       replace O := OwnT.ext O RE
       refine ⟨_, rfl, ?_⟩
       intro a85 hE e79 kp
       refine sd 75 hE k (Z03 rfl e79) ?_
       intro a87 hE e75 kp
       apply Z02 80 hE k rfl rfl rfl rfl
       case h =>
        simp [go_sem, ↓IntWalk.iteOmega, ev e75]
        with_reducible rfl
       intro a88 hE e80 kp
       replace e75 := kt kp e75
       apply Z02 81 hE k rfl rfl rfl rfl
       case h =>
        simp [go_sem, ↓IntWalk.iteOmega, ev e75]
        with_reducible rfl
       intro a89 hE e81 kp
       replace e80 := kt kp e80
       refine Z0f O (cs := #[.int .u64 0, .int .u64 0]) (t := 38) 13 hE k rfl (by rfl) (by rfl) rfl (by simp [go_sem, ↓IntWalk.iteOmega]) ?_
       clear O
       intro pb a90 w91 O hE e13 kp
       replace e80 := kt kp e80; replace e81 := kt kp e81
       have q0 : w91.cell? ⟨pb, 0, none⟩ = some (.int .u64 0) := (OwnT.blk O 0 rfl).cell 0
       have z0 : w91.frozen? ⟨pb, 0, none⟩ = false := (OwnT.blk O 0 rfl).frozen 0
       have q1 : w91.cell? ⟨pb, 1, none⟩ = some (.int .u64 0) := (OwnT.blk O 0 rfl).cell 1
       have z1 : w91.frozen? ⟨pb, 1, none⟩ = false := (OwnT.blk O 0 rfl).frozen 1
       refine Z0e (w' := ((w91.setCell ⟨pb, 0, none⟩ (.int .u64 ((4294967296 + i0)))).setCell ⟨pb, 1, none⟩ (.int .u64 ((volPair s0 r0 p0 f0))))) hE rfl rfl (by simp [go_sem, ↓IntWalk.iteOmega, ev e13, ev e80, q0, z0, q1, z1]) ?_
       replace O := OwnT.push 0 rfl (((OwnT.pull O 0 rfl).set 0 (.int .u64 ((4294967296 + i0)))).set 1 (.int .u64 ((volPair s0 r0 p0 f0))))
       clear q0 z0 q1 z1
       generalize ((w91.setCell ⟨pb, 0, none⟩ (.int .u64 ((4294967296 + i0)))).setCell ⟨pb, 1, none⟩ (.int .u64 ((volPair s0 r0 p0 f0)))) = w92 at O ⊢
       replace O : OwnT _ _ ((tBlk pb 38 #[.int .u64 ((4294967296 + i0)), .int .u64 ((volPair s0 r0 p0 f0))]) :: (tBlk pa 38 #[.int .u64 ((4294967296 + ↑ki)), .int .u64 ((volPair s r p f))]) :: (tBlk sb 28 #[.slice B2 (((N ++ M)).length) cap2, .int .i64 511]) :: (tRow 125 2 (.slice B2 ((N ++ M)).length cap2) ((N ++ M)).length (leafV vs2 ((N ++ M)))) :: (tPool vs2 ((N ++ M))) :: (tBlk tb 102 (vtA (fun i => if i = ki then ((ki : Int), s, r, p, f) else t i))) :: []) w92 := O
       refine sd 14 hE k (Z00 rfl e81) ?_
       intro a93 hE e14 kp
       replace e13 := kt kp e13
       refine wpList_nil ?_
       replace e0 := hE.g e0; replace e1 := hE.g e1; replace e5 := hE.g e5; replace e6 := hE.g e6; replace e7 := hE.g e7; replace e8 := hE.g e8; replace e11 := hE.g e11
       replace k := k.env hE
       clear hE
       refine Z01 ?_
       clear n0 n1 n2 n3 n4
       refine wp_seq ?_
       refine Z0b (R := Ext) (w0 := w92) [[], [0], [0, 1], [0, 1, 2], [0, 1, 2], [0, 1, 2, 3, 4], [0, 1, 2], [0, 1, 2], [0, 1, 2, 6, 7], [0, 1, 2, 6, 7, 8], [0, 1, 2], [0, 1, 2, 10], [0, 1, 2, 10, 11], [0, 1, 2, 6, 7, 8, 9, 10, 11, 12], [0, 1, 2, 3, 4, 5, 6, 7, 8, 9, 10, 11, 12, 13], [0, 1, 2, 3, 4, 5, 6, 7, 8, 9, 10, 11, 12, 13, 14]] [82, 83, 84, 85, 86, 87, 88, 89, 90, 91, 92, 93, 94, 95, 96, 97] Ext.refl (fun _ _ _ => Ext.trans) (Ext.drew _) (by kernel_rfl) ?_
       apply bd 82 k rfl rfl rfl
       case h =>
        intro ax wx hE hR hF
        exact Z03 rfl (hE.g e14)
       apply bd 83 k rfl rfl rfl
       case h =>
        intro ax wx hE hR hF
        have e82 := zhF hF 0 82 ml0
        exact Z07 (Z0t rfl e82 rfl) (decide_eq_true (by omega))
       apply bd 84 k rfl rfl rfl
       case h =>
        intro ax wx hE hR hF
        have e83 := zhF hF 1 83 ml0
        exact Z03 rfl e83
       apply bdg 85 k rfl rfl rfl rfl
       case h =>
        intro ax wx hE hR hF
        have e84 := zhF hF 2 84 ml0
        refine ⟨e84, ?_⟩
        have q0 : wx.cell? ⟨pa, 0, none⟩ = some (.int .u64 ((4294967296 + ↑ki))) := (OwnT.blk (OwnT.ext O hR) 1 rfl).cell 0
        have q1 : wx.cell? ⟨pa, 1, none⟩ = some (.int .u64 ((volPair s r p f))) := (OwnT.blk (OwnT.ext O hR) 1 rfl).cell 1
        simp [go_sem, ↓IntWalk.iteOmega, ev (hE.g e11), q0, q1]
        with_reducible rfl
       apply bdg 86 k rfl rfl rfl rfl
       case h =>
        intro ax wx hE hR hF
        have e84 := zhF hF 2 84 ml1
        refine ⟨e84, ?_⟩
        have q0 : wx.cell? ⟨pb, 0, none⟩ = some (.int .u64 ((4294967296 + i0))) := (OwnT.blk (OwnT.ext O hR) 0 rfl).cell 0
        have q1 : wx.cell? ⟨pb, 1, none⟩ = some (.int .u64 ((volPair s0 r0 p0 f0))) := (OwnT.blk (OwnT.ext O hR) 0 rfl).cell 1
        simp [go_sem, ↓IntWalk.iteOmega, ev (hE.g e13), q0, q1]
        with_reducible rfl
       apply bdg 87 k rfl rfl rfl rfl
       case h =>
        intro ax wx hE hR hF
        have e85 := zhF hF 3 85 ml1
        have e86 := zhF hF 4 86 ml0
        have e84 := zhF hF 2 84 ml2
        refine ⟨e84, ?_⟩
        exact x_eqPrV rfl e85 e86 hc2
       apply bdg 88 k rfl rfl rfl rfl
       case h =>
        intro ax wx hE hR hF
        have e84 := zhF hF 2 84 ml3
        refine ⟨e84, ?_⟩
        exact Z03 rfl (hE.g e0)
       apply bdg 89 k rfl rfl rfl rfl
       case h =>
        intro ax wx hE hR hF
        have e84 := zhF hF 2 84 ml4
        refine ⟨e84, ?_⟩
        exact Z03 rfl (hE.g e8)
       apply bdg 90 k rfl rfl rfl rfl
       case h =>
        intro ax wx hE hR hF
        have e88 := zhF hF 6 88 ml1
        have e89 := zhF hF 7 89 ml0
        have e84 := zhF hF 2 84 ml5
        refine ⟨e84, ?_⟩
        simp [go_sem, ↓IntWalk.iteOmega, ev e88, ev e89]
        with_reducible rfl
       apply bdg 91 k rfl rfl rfl rfl
       case h =>
        intro ax wx hE hR hF
        have e90 := zhF hF 8 90 ml0
        have e84 := zhF hF 2 84 ml6
        refine ⟨e84, ?_⟩
        obtain ⟨_, _, e, d0, d1, d2, d3, d4⟩ := Z3u hrow (OwnT.ext O hR).below hx; injection e with e; injection e with e e'; subst e e'
        simp [go_sem, ↓IntWalk.iteOmega, ev e90, d0, d1, d2, d3, d4]
        with_reducible rfl
       apply bdg 92 k rfl rfl rfl rfl
       case h =>
        intro ax wx hE hR hF
        have e84 := zhF hF 2 84 ml7
        refine ⟨e84, ?_⟩
        exact Z03 rfl (hE.g e0)
       apply bdg 93 k rfl rfl rfl rfl
       case h =>
        intro ax wx hE hR hF
        have e92 := zhF hF 10 92 ml0
        have e84 := zhF hF 2 84 ml8
        refine ⟨e84, ?_⟩
        simp [go_sem, ↓IntWalk.iteOmega, ev e92]
        with_reducible rfl
       apply bdg 94 k rfl rfl rfl rfl
       case h =>
        intro ax wx hE hR hF
        have e93 := zhF hF 11 93 ml0
        have e84 := zhF hF 2 84 ml9
        refine ⟨e84, ?_⟩
        obtain ⟨_, _, e, n0, n1, n2, n3, n4⟩ := vl_at0 hrow (OwnT.ext O hR).below hx0; injection e with e; injection e with e e'; subst e e'
        simp [go_sem, ↓IntWalk.iteOmega, ev e93, n0, n1, n2, n3, n4]
        with_reducible rfl
       apply bdg 95 k rfl rfl rfl rfl
       case h =>
        intro ax wx hE hR hF
        have e91 := zhF hF 9 91 ml3
        have e94 := zhF hF 12 94 ml0
        have e84 := zhF hF 2 84 ml10
        refine ⟨e84, ?_⟩
        exact x_eqVlG rfl e91 e94 hc
       apply bdg 96 k rfl rfl rfl rfl
       case h =>
        intro ax wx hE hR hF
        have e87 := zhF hF 5 87 ml8
        have e95 := zhF hF 13 95 ml0
        have e84 := zhF hF 2 84 ml11
        refine ⟨e84, ?_⟩
        exact x_neB2 (c := false) rfl e87 e95 (by simp)
       apply bd 97 k rfl rfl rfl
       case h =>
        intro ax wx hE hR hF
        have e84 := zhF hF 2 84 ml12
        have e96 := zhF hF 14 96 ml0
        exact Z0o rfl e84 e96
       apply Build.stop
       refine ⟨by kernel_rfl, .inl ⟨rfl, ?_⟩⟩
       intro a94 w95 hE R hF
       have e97 : a94.eval (.tmp 97) = _ := hF 15 (det 97 _) ml0
       clear hF
       replace O := OwnT.ext O R
       clear R
       replace e0 := hE.g e0; replace e1 := hE.g e1; replace e5 := hE.g e5; replace e6 := hE.g e6; replace e7 := hE.g e7; replace e8 := hE.g e8
       replace k := k.env hE
       clear hE e11 e13 e14
       refine Z01 ?_
       refine Z05 e97 rfl ?_
       refine wp_skip ?_
       refine Z0z ?_
       refine Z01 ?_
       refine wp_region_lit ?_
       have hE := Env.refl a94 [35, 36, 8]
       refine sd 35 hE k (Z03 rfl e8) ?_
       intro a96 hE e35 kp
       replace e8 := kt kp e8
       refine sd 36 hE k (Z12 rfl e35 rfl (by omega)) ?_
       intro a97 hE e36 kp
       replace e8 := kt kp e8
       refine sd 8 hE k (Z00 rfl e36) ?_
       intro a98 hE e8 kp
       refine wpList_nil ?_
       replace e0 := hE.g e0; replace e1 := hE.g e1; replace e5 := hE.g e5; replace e6 := hE.g e6; replace e7 := hE.g e7
       replace k := k.env hE
       clear hE e97
       refine Z01 ?_
       refine ⟨⟨k, e0, e1, e5, e7, i + 1, r', _, _, N ++ M, B2, cap2, vs2, e6, e8, by omega, by rw [List.length_append]; omega, (hT2.next (by omega)).le (by omega), hV.put (x := ((ki : Int), s, r, p, f)) hki1 hki2 hg rfl, OwnT.pickR (L := [_, _, _, _, _, _]) (R := []) O [2, 3, 4, 5] (by decide)⟩, ?_⟩
       rw [e8, mi]; simp only [intOf]; omega
     · skip
       refine wp_seq ?_
       refine wp_region_lit ?_
       have hE := Env.refl a81 [76, 77, 78, 79, 75, 80, 81, 13, 14]
       refine sm 76 hE k e0 ?_
       intro a99 hE e76 kp
       apply Z02 77 hE k rfl rfl rfl rfl
       case h =>
        simp [go_sem, ↓IntWalk.iteOmega, ev e76]
        with_reducible rfl
       intro a100 hE e77 kp
       apply Z02 78 hE k rfl rfl rfl rfl
       case h =>
        simp [go_sem, ↓IntWalk.iteOmega, ev e77, n0, n1, n2, n3, n4]
        with_reducible rfl
       intro a101 hE e78 kp
       apply Z06 79 hE k rfl (by rfl) (by rfl) rfl
       case h =>
        simp [go_sem, ↓IntWalk.iteOmega, ev e78]
        with_reducible exact ⟨rfl, rfl⟩
       case hc => exact Z40 i0 s0 r0 f0 p0 _ hg0
       rintro e w103 ⟨rfl, RE⟩
       replace O := OwnT.ext O RE
       refine ⟨_, rfl, ?_⟩
       intro a102 hE e79 kp
       refine sd 75 hE k (Z03 rfl e79) ?_
       intro a104 hE e75 kp
       apply Z02 80 hE k rfl rfl rfl rfl
       case h =>
        simp [go_sem, ↓IntWalk.iteOmega, ev e75]
        with_reducible rfl
       intro a105 hE e80 kp
       replace e75 := kt kp e75
       apply Z02 81 hE k rfl rfl rfl rfl
       case h =>
        simp [go_sem, ↓IntWalk.iteOmega, ev e75]
        with_reducible rfl
       intro a106 hE e81 kp
       replace e80 := kt kp e80
       refine Z0f O (cs := #[.int .u64 0, .int .u64 0]) (t := 38) 13 hE k rfl (by rfl) (by rfl) rfl (by simp [go_sem, ↓IntWalk.iteOmega]) ?_
       clear O
       intro pb a107 w108 O hE e13 kp
       replace e80 := kt kp e80; replace e81 := kt kp e81
       have q0 : w108.cell? ⟨pb, 0, none⟩ = some (.int .u64 0) := (OwnT.blk O 0 rfl).cell 0
       have z0 : w108.frozen? ⟨pb, 0, none⟩ = false := (OwnT.blk O 0 rfl).frozen 0
       have q1 : w108.cell? ⟨pb, 1, none⟩ = some (.int .u64 0) := (OwnT.blk O 0 rfl).cell 1
       have z1 : w108.frozen? ⟨pb, 1, none⟩ = false := (OwnT.blk O 0 rfl).frozen 1
       refine Z0e (w' := ((w108.setCell ⟨pb, 0, none⟩ (.int .u64 0)).setCell ⟨pb, 1, none⟩ (.int .u64 0))) hE rfl rfl (by simp [go_sem, ↓IntWalk.iteOmega, ev e13, ev e80, q0, z0, q1, z1]) ?_
       replace O := OwnT.push 0 rfl (((OwnT.pull O 0 rfl).set 0 (.int .u64 0)).set 1 (.int .u64 0))
       clear q0 z0 q1 z1
       generalize ((w108.setCell ⟨pb, 0, none⟩ (.int .u64 0)).setCell ⟨pb, 1, none⟩ (.int .u64 0)) = w109 at O ⊢
       replace O : OwnT _ _ ((tBlk pb 38 #[.int .u64 0, .int .u64 0]) :: (tBlk pa 38 #[.int .u64 ((4294967296 + ↑ki)), .int .u64 ((volPair s r p f))]) :: (tBlk sb 28 #[.slice B2 (((N ++ M)).length) cap2, .int .i64 511]) :: (tRow 125 2 (.slice B2 ((N ++ M)).length cap2) ((N ++ M)).length (leafV vs2 ((N ++ M)))) :: (tPool vs2 ((N ++ M))) :: (tBlk tb 102 (vtA (fun i => if i = ki then ((ki : Int), s, r, p, f) else t i))) :: []) w109 := O
       refine sd 14 hE k (Z00 rfl e81) ?_
       intro a110 hE e14 kp
       replace e13 := kt kp e13
       refine wpList_nil ?_
       replace e0 := hE.g e0; replace e1 := hE.g e1; replace e5 := hE.g e5; replace e6 := hE.g e6; replace e7 := hE.g e7; replace e8 := hE.g e8; replace e11 := hE.g e11
       replace k := k.env hE
       clear hE
       refine Z01 (wp_seq ?_)
       refine Z0b (R := Ext) (w0 := w109) [[], [0], [0, 1], [0, 1, 2], [0, 1, 2], [0, 1, 2, 3, 4], [0, 1, 2], [0, 1, 2], [0, 1, 2, 6, 7], [0, 1, 2, 6, 7, 8], [0, 1, 2], [0, 1, 2, 10], [0, 1, 2, 10, 11], [0, 1, 2, 6, 7, 8, 9, 10, 11, 12], [0, 1, 2, 3, 4, 5, 6, 7, 8, 9, 10, 11, 12, 13], [0, 1, 2, 3, 4, 5, 6, 7, 8, 9, 10, 11, 12, 13, 14]] [82, 83, 84, 85, 86, 87, 88, 89, 90, 91, 92, 93, 94, 95, 96, 97] Ext.refl (fun _ _ _ => Ext.trans) (Ext.drew _) (by kernel_rfl) ?_
       apply bd 82 k rfl rfl rfl
       case h =>
        intro ax wx hE hR hF
        exact Z03 rfl (hE.g e14)
       apply bd 83 k rfl rfl rfl
       case h =>
        intro ax wx hE hR hF
        have e82 := zhF hF 0 82 ml0
        exact Z07 (Z0t rfl e82 rfl) (decide_eq_false (by omega))
       apply bd 84 k rfl rfl rfl
       case h =>
        intro ax wx hE hR hF
        have e83 := zhF hF 1 83 ml0
        exact Z03 rfl e83
       refine Build.skip 85 (by rfl) (by rw [k.size]; rfl) rfl rfl ?_ ?_
       · intro ax wx hE hR hF
         have e84 := zhF hF 2 84 ml0
         exact e84
       refine Build.skip 86 (by rfl) (by rw [k.size]; rfl) rfl rfl ?_ ?_
       · intro ax wx hE hR hF
         have e84 := zhF hF 2 84 ml1
         exact e84
       refine Build.skip 87 (by rfl) (by rw [k.size]; rfl) rfl rfl ?_ ?_
       · intro ax wx hE hR hF
         have e84 := zhF hF 2 84 ml2
         exact e84
       refine Build.skip 88 (by rfl) (by rw [k.size]; rfl) rfl rfl ?_ ?_
       · intro ax wx hE hR hF
         have e84 := zhF hF 2 84 ml3
         exact e84
       refine Build.skip 89 (by rfl) (by rw [k.size]; rfl) rfl rfl ?_ ?_
       · intro ax wx hE hR hF
         have e84 := zhF hF 2 84 ml4
         exact e84
       refine Build.skip 90 (by rfl) (by rw [k.size]; rfl) rfl rfl ?_ ?_
       · intro ax wx hE hR hF
         have e84 := zhF hF 2 84 ml5
         exact e84
       refine Build.skip 91 (by rfl) (by rw [k.size]; rfl) rfl rfl ?_ ?_
       · intro ax wx hE hR hF
         have e84 := zhF hF 2 84 ml6
         exact e84
       refine Build.skip 92 (by rfl) (by rw [k.size]; rfl) rfl rfl ?_ ?_
       · intro ax wx hE hR hF
         have e84 := zhF hF 2 84 ml7
         exact e84
       refine Build.skip 93 (by rfl) (by rw [k.size]; rfl) rfl rfl ?_ ?_
       · intro ax wx hE hR hF
         have e84 := zhF hF 2 84 ml8
         exact e84
       refine Build.skip 94 (by rfl) (by rw [k.size]; rfl) rfl rfl ?_ ?_
       · intro ax wx hE hR hF
         have e84 := zhF hF 2 84 ml9
         exact e84
       refine Build.skip 95 (by rfl) (by rw [k.size]; rfl) rfl rfl ?_ ?_
       · intro ax wx hE hR hF
         have e84 := zhF hF 2 84 ml10
         exact e84
       refine Build.skip 96 (by rfl) (by rw [k.size]; rfl) rfl rfl ?_ ?_
       · intro ax wx hE hR hF
         have e84 := zhF hF 2 84 ml11
         exact e84
       apply bd 97 k rfl rfl rfl
       case h =>
        intro ax wx hE hR hF
        have e84 := zhF hF 2 84 ml12
        have e96 := zhF hF 14 96 ml0
        exact Z08 rfl e84 rfl
       apply Build.stop
       refine ⟨by kernel_rfl, .inl ⟨rfl, ?_⟩⟩
       intro a111 w112 hE R hF
       have e97 : a111.eval (.tmp 97) = _ := hF 15 (det 97 _) ml0
       clear hF
       replace O := OwnT.ext O R
       clear R
       replace e0 := hE.g e0; replace e1 := hE.g e1; replace e5 := hE.g e5; replace e6 := hE.g e6; replace e7 := hE.g e7; replace e8 := hE.g e8
       replace k := k.env hE
       clear hE e11 e13 e14
       refine Z01 ?_
       refine Z05 e97 rfl ?_
       refine wp_skip ?_
       refine Z0z ?_
       refine Z01 ?_
       refine wp_region_lit ?_
       have hE := Env.refl a111 [35, 36, 8]
       refine sd 35 hE k (Z03 rfl e8) ?_
       intro a113 hE e35 kp
       replace e8 := kt kp e8
       refine sd 36 hE k (Z12 rfl e35 rfl (by omega)) ?_
       intro a114 hE e36 kp
       replace e8 := kt kp e8
       refine sd 8 hE k (Z00 rfl e36) ?_
       intro a115 hE e8 kp
       refine wpList_nil ?_
       replace e0 := hE.g e0; replace e1 := hE.g e1; replace e5 := hE.g e5; replace e6 := hE.g e6; replace e7 := hE.g e7
       replace k := k.env hE
       clear hE e97
       refine Z01 ?_
       refine ⟨⟨k, e0, e1, e5, e7, i + 1, r', _, _, N ++ M, B2, cap2, vs2, e6, e8, by omega, by rw [List.length_append]; omega, (hT2.next (by omega)).le (by omega), hV.put (x := ((ki : Int), s, r, p, f)) hki1 hki2 hg rfl, OwnT.pickR (L := [_, _, _, _, _, _]) (R := []) O [2, 3, 4, 5] (by decide)⟩, ?_⟩
       rw [e8, mi]; simp only [intOf]; omega
   · clear mi
     obtain ⟨gk, hgk⟩ : ∃ k, 1 + uN x % 16 = k := ⟨_, rfl⟩
     have hgk1 : 1 ≤ gk ∧ gk ≤ 16 := by omega
     have hgk17 : gk < 17 := by omega
     have hgkI : (gk : Int) < 17 := by omega
     have hvk : vkeyN (gk : Int) = 4294967296 + gk := vkeyN_of hgk1.2

     refine wp_seq ?_
     refine wp_seq ?_
     refine wp_region_lit ?_
     have hE := Env.refl a22 [31, 32, 33, 34]
     refine sm 31 hE k e8 ?_
     intro a116 hE e31 kp
     refine sm 32 hE k e0 ?_
     intro a117 hE e32 kp
     replace e31 := kt kp e31
     refine sd 33 hE k (Z0g Try.underlying96 rfl e32) ?_
     intro a118 hE e33 kp
     replace e31 := kt kp e31
     refine sd 34 hE k (Z07 (Z1n rfl e31 e33) (decide_eq_false (by omega))) ?_
     intro a119 hE e34 kp
     refine wpList_nil ?_
     replace e0 := hE.g e0; replace e1 := hE.g e1; replace e5 := hE.g e5; replace e6 := hE.g e6; replace e7 := hE.g e7; replace e8 := hE.g e8
     replace k := k.env hE
     clear hE
     refine Z01 ?_
     refine Z05 e34 rfl ?_
     refine wp_exit ?_
     refine Z14 ?_
     refine Z14 ?_
     refine Z1q ?_
     refine Z01 (wp_seq ?_)
     refine wp_region_lit ?_
     have hE := Env.refl a119 [98, 99, 100, 101, 102, 15]
     refine sm 98 hE k e1 ?_
     intro a120 hE e98 kp
     refine sd 99 hE k (Z2i rfl e98 (conv_uint x _)) ?_
     intro a121 hE e99 kp
     refine sd 100 hE k (x_remU (m := uN x) (j := 16) rfl e99 rfl rfl (by decide)) ?_
     intro a122 hE e100 kp
     refine sd 101 hE k (Z2i rfl e100 (conv_int _ _ (by omega))) ?_
     intro a123 hE e101 kp
     refine sd 102 hE k (Z12 rfl rfl e101 (by omega)) ?_
     intro a124 hE e102 kp
     replace e102 := e102.trans (Z0v (show 1 + ((uN x % 16 : Nat) : Int) = (gk : Int) by omega))
     refine sd 15 hE k (Z00 rfl e102) ?_
     intro a125 hE e15 kp
     refine wpList_nil ?_
     replace e5 := hE.g e5; replace e6 := hE.g e6; replace e7 := hE.g e7
     replace k := k.env hE
     clear hE e0 e1 e8 e34
     refine Z01 (wp_seq ?_)
     refine wp_region_lit ?_
     have hE := Env.refl a125 [104, 105, 106, 107, 108, 103, 109, 110, 111, 16, 17, 18]
     refine sm 104 hE k e5 ?_
     intro a126 hE e104 kp
     apply Z02 105 hE k rfl rfl rfl rfl
     case h =>
      simp [go_sem, ↓IntWalk.iteOmega, ev e104]
      with_reducible rfl
     intro a127 hE e105 kp
     refine sm 106 hE k e6 ?_
     intro a128 hE e106 kp
     replace e105 := kt kp e105
     refine sm 107 hE k e15 ?_
     intro a129 hE e107 kp
     replace e105 := kt kp e105; replace e106 := kt kp e106
     apply Z06 108 hE k rfl (by rfl) (by rfl) rfl
     case h =>
      simp [go_sem, ↓IntWalk.iteOmega, ev e105, ev e106, ev e107]
      with_reducible exact ⟨rfl, rfl⟩
     case hc => exact vDrop (R := _ :: []) (gk : Int) _ O hT (by omega)
     clear O
     rintro e w131 ⟨N2, r2, ok, er, B2, cap2, vs2, rfl, O, hDL⟩
     refine ⟨_, rfl, ?_⟩
     intro a130 hE e108 kp
     refine sd 103 hE k (Z03 rfl e108) ?_
     intro a132 hE e103 kp
     apply Z02 109 hE k rfl rfl rfl rfl
     case h =>
      simp [go_sem, ↓IntWalk.iteOmega, ev e103]
      with_reducible rfl
     intro a133 hE e109 kp
     replace e103 := kt kp e103
     apply Z02 110 hE k rfl rfl rfl rfl
     case h =>
      simp [go_sem, ↓IntWalk.iteOmega, ev e103]
      with_reducible rfl
     intro a134 hE e110 kp
     replace e103 := kt kp e103; replace e109 := kt kp e109
     apply Z02 111 hE k rfl rfl rfl rfl
     case h =>
      simp [go_sem, ↓IntWalk.iteOmega, ev e103]
      with_reducible rfl
     intro a135 hE e111 kp
     replace e109 := kt kp e109; replace e110 := kt kp e110
     refine sd 16 hE k (Z00 rfl e109) ?_
     intro a136 hE e16 kp
     replace e110 := kt kp e110; replace e111 := kt kp e111
     refine sd 17 hE k (Z00 rfl e110) ?_
     intro a137 hE e17 kp
     replace e111 := kt kp e111; replace e16 := kt kp e16
     refine sd 18 hE k (Z00 rfl e111) ?_
     intro a138 hE e18 kp
     replace e16 := kt kp e16; replace e17 := kt kp e17
     refine wpList_nil ?_
     replace e5 := hE.g e5; replace e7 := hE.g e7; replace e15 := hE.g e15
     replace k := k.env hE
     clear hE e6
     refine Z01 ?_
     rw [hvk] at hDL
     obtain ⟨⟨M, rfl, hM⟩, hDL⟩ := hDL
     obtain ⟨ti, ts, tr, tp, tf, htg⟩ : ∃ a b c d e, t gk = (a, b, c, d, e) := ⟨_, _, _, _, _, rfl⟩
     obtain ⟨pr, hpr⟩ : ∃ c, decide (ti = (gk : Int)) = c := ⟨_, rfl⟩
     have hX : er = 0 ∧ ok = pr ∧ ∃ r' : Nat, r2 = r' ∧ Tre (N ++ M) r' (8 + i) (delP (4294967296 + gk) P) := by
      by_cases hp : ti = (gk : Int)
      · have h1 := (hV.yes gk hgk1.1 hgk1.2 (by rw [htg]; exact hp)).2
        rcases hDL with ⟨_, _, _, _, h5⟩ | ⟨_, _, _, _, h2⟩ | ⟨h1, h2, h3, r', h4, h5⟩
        · rw [h1] at h5; cases h5
        · exact absurd ⟨by omega, by omega⟩ h2
        · exact ⟨h1, by rw [h2, ← hpr, decide_eq_true hp], r', h4, h5⟩
      · have h1 := hV.no gk hgk1.1 hgk1.2 (by rw [htg]; exact hp)
        rcases hDL with ⟨h2, h3, h4, h5, h6⟩ | ⟨_, _, _, h2, _⟩ | ⟨_, _, h2, _⟩
        · exact ⟨h2, by rw [h3, ← hpr, decide_eq_false hp], rt, h4, by rw [del_none h6]; exact (hT.mono M)⟩
        · rw [h1] at h2; cases h2
        · rw [h1] at h2; cases h2
     clear hDL
     obtain ⟨rfl, rfl, r', rfl, hT2⟩ := hX

     obtain ⟨n0, -, -, -, -⟩ := Z4o (OwnT.blk O 3 rfl) hgk17 htg
     refine wp_seq ?_
     refine wp_seq ?_
     refine wp_region_lit ?_
     have hE := Env.refl a138 [112, 113, 114, 115, 116, 117, 118, 119, 120, 121, 122, 123]
     refine sm 112 hE k e18 ?_
     intro a139 hE e112 kp
     refine sd 113 hE k (Z07 (Z0y rfl e112 rfl) (decide_eq_false (by omega))) ?_
     intro a140 hE e113 kp
     refine sd 114 hE k (Z03 rfl e113) ?_
     intro a141 hE e114 kp
     apply Z04 115 hE k rfl rfl rfl rfl rfl e114
     case h =>
      exact Z03 rfl (hE.g e17)
     intro a142 hE e115 kp
     replace e114 := kt kp e114
     apply Z04 116 hE k rfl rfl rfl rfl rfl e114
     case h =>
      exact Z03 rfl (hE.g e15)
     intro a143 hE e116 kp
     replace e114 := kt kp e114; replace e115 := kt kp e115
     apply Z04 117 hE k rfl rfl rfl rfl rfl e114
     case h =>
      simp [go_sem, ↓IntWalk.iteOmega, ev (hE.g e7), ev e116]
      with_reducible rfl
     intro a144 hE e117 kp
     replace e114 := kt kp e114; replace e115 := kt kp e115
     apply Z04 118 hE k rfl rfl rfl rfl rfl e114
     case h =>
      simp [go_sem, ↓IntWalk.iteOmega, ev e117]
      with_reducible rfl
     intro a145 hE e118 kp
     replace e114 := kt kp e114; replace e115 := kt kp e115
     apply Z04 119 hE k rfl rfl rfl rfl rfl e114
     case h =>
      simp [go_sem, ↓IntWalk.iteOmega, ev e118, n0]
      with_reducible rfl
     intro a146 hE e119 kp
     replace e114 := kt kp e114; replace e115 := kt kp e115
     apply Z04 120 hE k rfl rfl rfl rfl rfl e114
     case h =>
      exact Z03 rfl (hE.g e15)
     intro a147 hE e120 kp
     replace e114 := kt kp e114; replace e115 := kt kp e115; replace e119 := kt kp e119
     apply Z04 121 hE k rfl rfl rfl rfl rfl e114
     case h =>
      exact Z0t rfl e119 e120
     intro a148 hE e121 kp
     replace e114 := kt kp e114; replace e115 := kt kp e115
     apply Z04 122 hE k rfl rfl rfl rfl rfl e114
     case h =>
      exact x_neB2 (c := false) rfl e115 e121 (by rw [hpr]; simp)
     intro a149 hE e122 kp
     replace e114 := kt kp e114
     refine sd 123 hE k (Z08 rfl e114 e122) ?_
     intro a150 hE e123 kp
     refine wpList_nil ?_
     replace e5 := hE.g e5; replace e7 := hE.g e7; replace e15 := hE.g e15; replace e16 := hE.g e16
     replace k := k.env hE
     clear hE e17 e18
     refine Z01 ?_
     refine Z05 e123 rfl ?_
     refine wp_skip ?_
     refine Z01 ?_
     clear n0
     have hth : World.there w131 tb (gk * 5) 5 := Z67 (OwnT.blk O 3 rfl) hgk17
     refine wp_seq ?_
     refine wp_region_lit ?_
     have hE := Env.refl a150 [124, 125, 126]
     refine sm 124 hE k e15 ?_
     intro a151 hE e124 kp
     apply Z02 125 hE k rfl rfl rfl rfl
     case h =>
      simp [go_sem, ↓IntWalk.iteOmega]
      with_reducible rfl
     intro a152 hE e125 kp
     replace e124 := kt kp e124
     apply Z02 126 hE k rfl rfl rfl rfl
     case h =>
      simp [go_sem, ↓IntWalk.iteOmega, ev (hE.g e7), ev e124]
      with_reducible rfl
     intro a153 hE e126 kp
     replace e125 := kt kp e125
     refine Z0e (w' := (World.setCells w131 tb (gk * 5) (vlC zD))) hE rfl rfl ?_ ?_
     · exact x_st5 (x0 := zD) rfl e126 e125 hth
     replace O := OwnT.push (L := [_, _, _, _]) 3 rfl (OwnT.setCs (off := gk * 5) (vlC zD) (OwnT.pull O 3 rfl))
     clear hth
     rw [Z7i t _ hgk17] at O
     generalize (World.setCells w131 tb (gk * 5) (vlC zD)) = w154 at O ⊢
     refine wpList_nil ?_
     replace e5 := hE.g e5; replace e7 := hE.g e7; replace e16 := hE.g e16
     replace k := k.env hE
     clear hE e15 e123 e125 e126
     refine Z01 ?_
     have hV2 := hV.drop (k := gk)
     obtain ⟨t2, ht2⟩ : ∃ t2, (fun i => if i = gk then zD else t i) = t2 := ⟨_, rfl⟩
     obtain ⟨Q, hQ⟩ : ∃ Q, delP (4294967296 + gk) P = Q := ⟨_, rfl⟩
     rw [ht2] at hV2 O
     rw [hQ] at hV2 hT2
     have hall := hV2.all hT2.up
     have hQl := hT2.len
     have hml : (Q.map vlOf).length = Q.length := List.length_map _
     have hNl : (N ++ M).length ≤ 511 := by rw [List.length_append]; omega

     refine wp_seq ?_
     refine wp_region_lit ?_
     have hE := Env.refl a153 [128, 129, 130, 131, 127, 132, 133, 19, 20]
     refine sm 128 hE k e5 ?_
     intro a155 hE e128 kp
     apply Z02 129 hE k rfl rfl rfl rfl
     case h =>
      simp [go_sem, ↓IntWalk.iteOmega, ev e128]
      with_reducible rfl
     intro a156 hE e129 kp
     refine sm 130 hE k e16 ?_
     intro a157 hE e130 kp
     replace e129 := kt kp e129
     apply Z06 131 hE k rfl (by rfl) (by rfl) rfl
     case h =>
      simp [go_sem, ↓IntWalk.iteOmega, ev e129, ev e130]
      with_reducible exact ⟨rfl, rfl⟩
     case hc => exact vList (R := _ :: []) hV2.cut _ O hT2 (by omega) hNl
     rintro e w159 hL
     obtain ⟨Bl, cl, rfl, O⟩ := (hL.resolve_right (fun h => absurd (hall.symm.trans h.1) Bool.noConfusion)).2
     clear hL
     rw [hml] at O
     refine ⟨.tuple #[.slice Bl Q.length cl, .int .i64 0], by rw [hml], ?_⟩
     intro a158 hE e131 kp
     refine sd 127 hE k (Z03 rfl e131) ?_
     intro a160 hE e127 kp
     apply Z02 132 hE k rfl rfl rfl rfl
     case h =>
      simp [go_sem, ↓IntWalk.iteOmega, ev e127]
      with_reducible rfl
     intro a161 hE e132 kp
     replace e127 := kt kp e127
     apply Z02 133 hE k rfl rfl rfl rfl
     case h =>
      simp [go_sem, ↓IntWalk.iteOmega, ev e127]
      with_reducible rfl
     intro a162 hE e133 kp
     replace e132 := kt kp e132
     refine sd 19 hE k (Z00 rfl e132) ?_
     intro a163 hE e19 kp
     replace e133 := kt kp e133
     refine sd 20 hE k (Z00 rfl e133) ?_
     intro a164 hE e20 kp
     replace e19 := kt kp e19
     refine wpList_nil ?_
     replace e7 := hE.g e7
     replace k := k.env hE
     clear hE e5 e16
     refine Z01 (wp_seq ?_)
     refine wp_region_lit ?_
     have hE := Env.refl a164 [21]
     refine sd 21 hE k (Z00 rfl rfl) ?_
     intro a165 hE e21 kp
     refine wpList_nil ?_
     replace e7 := hE.g e7; replace e19 := hE.g e19; replace e20 := hE.g e20
     replace k := k.env hE
     clear hE
     refine Z01 (wp_seq ?_)
     refine wp_seq ?_
     refine wp_region_lit ?_
     have hE := Env.refl a165 [22]
     refine sd 22 hE k (Z00 rfl rfl) ?_
     intro a166 hE e22 kp
     refine wpList_nil ?_
     replace e7 := hE.g e7; replace e19 := hE.g e19; replace e20 := hE.g e20; replace e21 := hE.g e21
     replace k := k.env hE
     clear hE
     refine Z01 ?_
     refine wp_block ?_
     refine wp_loop (fun a w => Fr 168 a ∧ a.eval (.tmp 7) = .pointer (some ⟨tb, 0, none⟩) ∧ a.eval (.tmp 19) = .slice Bl Q.length cl ∧ a.eval (.tmp 20) = .int .i64 0 ∧ ∃ (j m : Nat), a.eval (.tmp 21) = .int .i64 ↑m ∧ a.eval (.tmp 22) = .int .i64 ↑j ∧ 1 ≤ j ∧ j ≤ 17 ∧ Seen Q (4294967296 + j) m ∧ OwnT W0.heap.size W0 ((tBlk sb 28 #[.slice B2 (((N ++ M)).length) cap2, .int .i64 511]) :: (tRow 125 2 (.slice B2 ((N ++ M)).length cap2) ((N ++ M)).length (leafV vs2 ((N ++ M)))) :: (tPool vs2 ((N ++ M))) :: (tVls (.slice Bl Q.length cl) (Q.map vlOf)) :: (tBlk tb 102 (vtA t2)) :: []) w) (fun a w => 17 - (intOf (a.eval (.tmp 22))).toNat) ?_ ?_
     · exact ⟨k, e7, e19, e20, 1, 0, e21, e22, by omega, by omega, hV2.start, O⟩
     intro a167 w168 hI
     clear k e7 e19 e20
     obtain ⟨k, e7, e19, e20, h_⟩ := hI
     clear O e21 e22
     obtain ⟨j, m, e21, e22, hj1, hj2, hS, O⟩ := h_
     have mj := e22
     by_cases hj16 : j ≤ 16
     · have hj17 : j < 17 := by omega
       have hjI : (j : Int) < 17 := by omega
       obtain ⟨ji, js, jr, jp, jf, htj⟩ : ∃ a b c d e, t2 j = (a, b, c, d, e) := ⟨_, _, _, _, _, rfl⟩
       obtain ⟨n0, -, -, -, -⟩ := Z4o (OwnT.blk O 4 rfl) hj17 htj
       by_cases hpj : ji = (j : Int)
       · obtain ⟨hm1, hm2, hS2⟩ := hV2.next hT2.up hS hj1 hj16 (by rw [htj]; exact hpj)
         rw [htj] at hm2
         obtain ⟨gl, rfl, -⟩ : ∃ gl, Bl = some ⟨gl, 0, none⟩ ∧ True := by obtain ⟨g, h, _⟩ := Z68 (OwnT.get O 3 rfl) hm2; exact ⟨g, h, trivial⟩
         have hmI : (m : Int) < (Q.length : Int) := by omega
         refine wp_seq ?_
         refine wp_seq ?_
         refine wp_region_lit ?_
         have hE := Env.refl a167 [134, 135]
         refine sm 134 hE k e22 ?_
         intro a169 hE e134 kp
         refine sd 135 hE k (Z07 (Z6n rfl e134 rfl) (decide_eq_true (by omega))) ?_
         intro a170 hE e135 kp
         refine wpList_nil ?_
         replace e7 := hE.g e7; replace e19 := hE.g e19; replace e20 := hE.g e20; replace e21 := hE.g e21; replace e22 := hE.g e22
         replace k := k.env hE
         clear hE
         refine Z01 ?_
         refine Z0d e135 rfl ?_
         refine wp_skip ?_
         refine Z01 (wp_seq ?_)
         refine wp_block ?_
         refine wp_seq ?_
         refine wp_seq ?_
         refine wp_region_lit ?_
         have hE := Env.refl a170 [138, 139, 140, 141, 142, 143]
         refine sm 138 hE k e22 ?_
         intro a171 hE e138 kp
         apply Z02 139 hE k rfl rfl rfl rfl
         case h =>
          simp [go_sem, ↓IntWalk.iteOmega, ev (hE.g e7), ev e138]
          with_reducible rfl
         intro a172 hE e139 kp
         apply Z02 140 hE k rfl rfl rfl rfl
         case h =>
          simp [go_sem, ↓IntWalk.iteOmega, ev e139]
          with_reducible rfl
         intro a173 hE e140 kp
         apply Z02 141 hE k rfl rfl rfl rfl
         case h =>
          simp [go_sem, ↓IntWalk.iteOmega, ev e140, n0]
          with_reducible rfl
         intro a174 hE e141 kp
         refine sm 142 hE k e22 ?_
         intro a175 hE e142 kp
         replace e141 := kt kp e141
         refine sd 143 hE k (Z07 (Z0y rfl e141 e142) (decide_eq_false (fun h => h hpj))) ?_
         intro a176 hE e143 kp
         refine wpList_nil ?_
         replace e7 := hE.g e7; replace e19 := hE.g e19; replace e20 := hE.g e20; replace e21 := hE.g e21; replace e22 := hE.g e22
         replace k := k.env hE
         clear hE e135
         refine Z01 ?_
         refine Z05 e143 rfl ?_
         refine wp_skip ?_
         refine Z01 ?_
         clear n0
         refine wp_seq ?_
         refine wp_seq ?_
         refine Z0b (R := Ext) (w0 := w168) [[], [], [1], [0, 1, 2], [0, 1, 2, 3], [0, 1, 2, 3, 4], [0, 1, 2, 3, 4], [0, 1, 2, 3, 4, 5, 6], [0, 1, 2, 3, 4, 5, 6, 7], [0, 1, 2, 3, 4], [0, 1, 2, 3, 4, 9], [0, 1, 2, 3, 4, 9, 10], [0, 1, 2, 3, 4, 5, 6, 7, 8, 9, 10, 11], [0, 1, 2, 3, 4, 5, 6, 7, 8, 9, 10, 11, 12]] [144, 145, 146, 147, 148, 149, 150, 151, 152, 153, 154, 155, 156, 157] Ext.refl (fun _ _ _ => Ext.trans) (Ext.drew _) (by kernel_rfl) ?_
         apply bd 144 k rfl rfl rfl
         case h =>
          intro ax wx hE hR hF
          exact Z03 rfl (hE.g e21)
         apply bd 145 k rfl rfl rfl
         case h =>
          intro ax wx hE hR hF
          exact Z03 rfl (hE.g e19)
         apply bd 146 k rfl rfl rfl
         case h =>
          intro ax wx hE hR hF
          have e145 := zhF hF 1 145 ml0
          exact Z0g Try.underlying96 rfl e145
         apply bd 147 k rfl rfl rfl
         case h =>
          intro ax wx hE hR hF
          have e144 := zhF hF 0 144 ml2
          have e146 := zhF hF 2 146 ml0
          exact Z07 (Z5o rfl e144 e146) (decide_eq_false (by omega))
         apply bd 148 k rfl rfl rfl
         case h =>
          intro ax wx hE hR hF
          have e147 := zhF hF 3 147 ml0
          exact Z03 rfl e147
         apply bdg 149 k rfl rfl rfl rfl
         case h =>
          intro ax wx hE hR hF
          have e148 := zhF hF 4 148 ml0
          refine ⟨e148, ?_⟩
          exact Z03 rfl (hE.g e19)
         apply bdg 150 k rfl rfl rfl rfl
         case h =>
          intro ax wx hE hR hF
          have e148 := zhF hF 4 148 ml1
          refine ⟨e148, ?_⟩
          exact Z03 rfl (hE.g e21)
         apply bdg 151 k rfl rfl rfl rfl
         case h =>
          intro ax wx hE hR hF
          have e149 := zhF hF 5 149 ml1
          have e150 := zhF hF 6 150 ml0
          have e148 := zhF hF 4 148 ml2
          refine ⟨e148, ?_⟩
          simp [go_sem, ↓IntWalk.iteOmega, ev e149, ev e150]
          with_reducible rfl
         apply bdg 152 k rfl rfl rfl rfl
         case h =>
          intro ax wx hE hR hF
          have e151 := zhF hF 7 151 ml0
          have e148 := zhF hF 4 148 ml3
          refine ⟨e148, ?_⟩
          obtain ⟨_, e, n0, n1, n2, n3, n4⟩ := Z68 (OwnT.get (OwnT.ext O hR) 3 rfl : (tVls (.slice (some ⟨gl, 0, none⟩) Q.length cl) (Q.map vlOf)).holds _) hm2; injection e with e; injection e with e; subst e
          simp [go_sem, ↓IntWalk.iteOmega, ev e151, n0, n1, n2, n3, n4]
          with_reducible rfl
         apply bdg 153 k rfl rfl rfl rfl
         case h =>
          intro ax wx hE hR hF
          have e148 := zhF hF 4 148 ml4
          refine ⟨e148, ?_⟩
          exact Z03 rfl (hE.g e22)
         apply bdg 154 k rfl rfl rfl rfl
         case h =>
          intro ax wx hE hR hF
          have e153 := zhF hF 9 153 ml0
          have e148 := zhF hF 4 148 ml5
          refine ⟨e148, ?_⟩
          simp [go_sem, ↓IntWalk.iteOmega, ev (hE.g e7), ev e153]
          with_reducible rfl
         apply bdg 155 k rfl rfl rfl rfl
         case h =>
          intro ax wx hE hR hF
          have e154 := zhF hF 10 154 ml0
          have e148 := zhF hF 4 148 ml6
          refine ⟨e148, ?_⟩
          obtain ⟨n0, n1, n2, n3, n4⟩ := Z4o (OwnT.blk (OwnT.ext O hR) 4 rfl) hj17 htj
          simp [go_sem, ↓IntWalk.iteOmega, ev e154, n0, n1, n2, n3, n4]
          with_reducible rfl
         apply bdg 156 k rfl rfl rfl rfl
         case h =>
          intro ax wx hE hR hF
          have e152 := zhF hF 8 152 ml3
          have e155 := zhF hF 11 155 ml0
          have e148 := zhF hF 4 148 ml7
          refine ⟨e148, ?_⟩
          exact x_neVl rfl e152 e155
         apply bd 157 k rfl rfl rfl
         case h =>
          intro ax wx hE hR hF
          have e148 := zhF hF 4 148 ml8
          have e156 := zhF hF 12 156 ml0
          exact Z08 rfl e148 e156
         apply Build.stop
         refine ⟨by kernel_rfl, .inl ⟨rfl, ?_⟩⟩
         intro a177 w178 hE R hF
         have e157 : a177.eval (.tmp 157) = _ := hF 13 (det 157 _) ml0
         clear hF
         replace O := OwnT.ext O R
         clear R
         replace e7 := hE.g e7; replace e19 := hE.g e19; replace e20 := hE.g e20; replace e21 := hE.g e21; replace e22 := hE.g e22
         replace k := k.env hE
         clear hE e143
         refine Z01 ?_
         refine Z05 e157 rfl ?_
         refine wp_skip ?_
         refine Z01 ?_
         refine wp_region_lit ?_
         have hE := Env.refl a177 [158, 159, 21]
         refine sd 158 hE k (Z03 rfl e21) ?_
         intro a179 hE e158 kp
         replace e21 := kt kp e21
         refine sd 159 hE k (Z12 rfl e158 rfl (by omega)) ?_
         intro a180 hE e159 kp
         replace e21 := kt kp e21
         refine sd 21 hE k (Z00 rfl e159) ?_
         intro a181 hE e21 kp
         refine wpList_nil ?_
         replace e7 := hE.g e7; replace e19 := hE.g e19; replace e20 := hE.g e20; replace e22 := hE.g e22
         replace k := k.env hE
         clear hE e157
         refine Z0z ?_
         refine Z01 ?_
         refine wp_region_lit ?_
         have hE := Env.refl a181 [136, 137, 22]
         refine sd 136 hE k (Z03 rfl e22) ?_
         intro a182 hE e136 kp
         replace e22 := kt kp e22
         refine sd 137 hE k (Z12 rfl e136 rfl (by omega)) ?_
         intro a183 hE e137 kp
         replace e22 := kt kp e22
         refine sd 22 hE k (Z00 rfl e137) ?_
         intro a184 hE e22 kp
         refine wpList_nil ?_
         replace e7 := hE.g e7; replace e19 := hE.g e19; replace e20 := hE.g e20; replace e21 := hE.g e21
         replace k := k.env hE
         clear hE
         refine Z01 ?_
         refine ⟨⟨k, e7, e19, e20, j + 1, m + 1, e21, e22, by omega, by omega, hS2, O⟩, ?_⟩
         rw [e22, mj]; simp only [intOf]; omega
       · skip
         refine wp_seq ?_
         refine wp_seq ?_
         refine wp_region_lit ?_
         have hE := Env.refl a167 [134, 135]
         refine sm 134 hE k e22 ?_
         intro a185 hE e134 kp
         refine sd 135 hE k (Z07 (Z6n rfl e134 rfl) (decide_eq_true (by omega))) ?_
         intro a186 hE e135 kp
         refine wpList_nil ?_
         replace e7 := hE.g e7; replace e19 := hE.g e19; replace e20 := hE.g e20; replace e21 := hE.g e21; replace e22 := hE.g e22
         replace k := k.env hE
         clear hE
         refine Z01 ?_
         refine Z0d e135 rfl ?_
         refine wp_skip ?_
         refine Z01 (wp_seq ?_)
         refine wp_block ?_
         refine wp_seq ?_
         refine wp_seq ?_
         refine wp_region_lit ?_
         have hE := Env.refl a186 [138, 139, 140, 141, 142, 143]
         refine sm 138 hE k e22 ?_
         intro a187 hE e138 kp
         apply Z02 139 hE k rfl rfl rfl rfl
         case h =>
          simp [go_sem, ↓IntWalk.iteOmega, ev (hE.g e7), ev e138]
          with_reducible rfl
         intro a188 hE e139 kp
         apply Z02 140 hE k rfl rfl rfl rfl
         case h =>
          simp [go_sem, ↓IntWalk.iteOmega, ev e139]
          with_reducible rfl
         intro a189 hE e140 kp
         apply Z02 141 hE k rfl rfl rfl rfl
         case h =>
          simp [go_sem, ↓IntWalk.iteOmega, ev e140, n0]
          with_reducible rfl
         intro a190 hE e141 kp
         refine sm 142 hE k e22 ?_
         intro a191 hE e142 kp
         replace e141 := kt kp e141
         refine sd 143 hE k (Z07 (Z0y rfl e141 e142) (decide_eq_true hpj)) ?_
         intro a192 hE e143 kp
         refine wpList_nil ?_
         replace e7 := hE.g e7; replace e19 := hE.g e19; replace e20 := hE.g e20; replace e21 := hE.g e21; replace e22 := hE.g e22
         replace k := k.env hE
         clear hE e135
         refine Z01 ?_
         refine Z0d e143 rfl ?_
         refine wp_exit ?_
         refine Z14 ?_
         refine Z1q ?_
         refine Z01 ?_
         refine wp_region_lit ?_
         have hE := Env.refl a192 [136, 137, 22]
         refine sd 136 hE k (Z03 rfl e22) ?_
         intro a193 hE e136 kp
         replace e22 := kt kp e22
         refine sd 137 hE k (Z12 rfl e136 rfl (by omega)) ?_
         intro a194 hE e137 kp
         replace e22 := kt kp e22
         refine sd 22 hE k (Z00 rfl e137) ?_
         intro a195 hE e22 kp
         refine wpList_nil ?_
         replace e7 := hE.g e7; replace e19 := hE.g e19; replace e20 := hE.g e20; replace e21 := hE.g e21
         replace k := k.env hE
         clear hE e143
         refine Z01 ?_
         refine ⟨⟨k, e7, e19, e20, j + 1, m, e21, e22, by omega, by omega, hV2.skip hS hj1 hj16 (by rw [htj]; exact hpj), O⟩, ?_⟩
         rw [e22, mj]; simp only [intOf]; omega
     · obtain rfl : j = 17 := by omega
       clear mj
       have hdone := hV2.done hS
       refine wp_seq ?_
       refine wp_seq ?_
       refine wp_region_lit ?_
       have hE := Env.refl a167 [134, 135]
       refine sm 134 hE k e22 ?_
       intro a196 hE e134 kp
       refine sd 135 hE k (Z07 (Z6n rfl e134 rfl) (decide_eq_false (by omega))) ?_
       intro a197 hE e135 kp
       refine wpList_nil ?_
       replace e7 := hE.g e7; replace e19 := hE.g e19; replace e20 := hE.g e20; replace e21 := hE.g e21; replace e22 := hE.g e22
       replace k := k.env hE
       clear hE
       refine Z01 ?_
       refine Z05 e135 rfl ?_
       refine wp_exit ?_
       refine Z14 ?_
       refine Z14 ?_
       refine Z1q ?_
       refine Z01 (wp_seq ?_)
       refine wp_region_lit ?_
       have hE := Env.refl a197 [160, 161, 162, 163, 164, 165, 166, 167, 4]
       refine sm 160 hE k e20 ?_
       intro a198 hE e160 kp
       refine sd 161 hE k (Z0t rfl e160 rfl) ?_
       intro a199 hE e161 kp
       refine sd 162 hE k (Z03 rfl e161) ?_
       intro a200 hE e162 kp
       apply Z04 163 hE k rfl rfl rfl rfl rfl e162
       case h =>
        exact Z03 rfl (hE.g e21)
       intro a201 hE e163 kp
       replace e162 := kt kp e162
       apply Z04 164 hE k rfl rfl rfl rfl rfl e162
       case h =>
        exact Z03 rfl (hE.g e19)
       intro a202 hE e164 kp
       replace e162 := kt kp e162; replace e163 := kt kp e163
       apply Z04 165 hE k rfl rfl rfl rfl rfl e162
       case h =>
        exact Z0g Try.underlying96 rfl e164
       intro a203 hE e165 kp
       replace e162 := kt kp e162; replace e163 := kt kp e163
       apply Z04 166 hE k rfl rfl rfl rfl rfl e162
       case h =>
        exact Z07 (Z0t rfl e163 e165) (decide_eq_true (by omega))
       intro a204 hE e166 kp
       replace e162 := kt kp e162
       refine sd 167 hE k (Z0o rfl e162 e166) ?_
       intro a205 hE e167 kp
       refine sd 4 hE k (Z00 rfl e167) ?_
       intro a206 hE e4 kp
       refine wpList_nil ?_
       replace k := k.env hE
       clear hE e7 e19 e20 e21 e22 e135
       refine Z01 ?_
       refine wp_ret ?_
       refine Z0x rfl k e4 ?_
       exact ⟨rfl, O.below⟩
theorem volsApart_walk (w : World) (v0 v1 : Value) (h0 : Arg Try.prog w 96 v0) (h1 : Arg Try.prog w 3 v1) :
 Calls Try.prog 11 #[v0, v1] w fun e w' => e = .returned (.bool true) ∧ Below w.heap.size w w' := by
 obtain ⟨A, n1, c1, xs, rfl, _, _, a3, -, a5⟩ := arg_vls h0
 obtain ⟨x, rfl, _⟩ := arg_int Try.underlying3 h1
 exact Z4c xs x w a3 a5
section
open Go.ChangeShapes Go.WideShapes Go.ChangeAt
theorem Arg.mk_ {P : Program} {w : World} {t : TypeId} {v : Value} {H : Type} {enc : TypeId × Value → H} {d : DataW H} {p : List MemPlace} {r : Reach} {base : Nat} (h : DataW.Trod enc P w 0 (fun _ => true) true t v d p) (hv : Value.okWide P w r base t v) : Arg P w t v := by
  obtain ⟨fuel, hf⟩ := h
  exact ⟨⟨H, enc, fuel, _, hf⟩, r, base, hv⟩
end
end Go.Proofs.Ytngehbhhpkkijaa
