/- trees' reference: Good, of sound nodes; ints (printed by XTrLk.gen.py). -/
import Derived.Test.YtngehbhhpkkijaaKTreeMap31
import Derived.Test.YtngehbhhpkkijaaKTreeMap21
namespace Go.Proofs.Ytngehbhhpkkijaa
attribute [local simp] BigFrame.eval_const BigFrame.eval_global BigFrame.eval_func
set_option linter.unusedVariables false
set_option linter.unusedSimpArgs false
open Go.RowKit Go.Maps

set_option maxRecDepth 100000 in
set_option maxHeartbeats 4000000 in
theorem rgood_y {gv o cap l : Nat} {xs : List Pr} (W0 : World) (hrow : Row W0 (some ⟨gv, o, none⟩) 2 pairC xs) (hne : 0 < xs.length) (h15 : xs.length ≤ 15) (hu : Up xs) (h7 : l ≤ 7) (hl : 0 < l) (hv : ∀ y ∈ xs, 1 ≤ y.2 ∧ y.2 ≤ 511) : Calls Try.prog 87 #[.agg #[.int .i64 l, .slice (some ⟨gv, o, none⟩) xs.length cap]] W0 fun e w' => e = .returned (.bool true) ∧ Ext W0 w' := by
 have O := OwnT.start W0
 refine Z0e Try.func87 rfl 77 rfl (by rfl) ?_
 intro a1 k hargs
 have e0 : a1.eval (.tmp 0) = .agg #[.int .i64 ↑l, .slice (some ⟨gv, o, none⟩) xs.length cap] := hargs 0 _ rfl
 clear hargs
 refine wp_seq ?_
 refine wp_region_lit ?_
 have hE := Env.refl a1 [1, 2]
 refine Z0m O (cs := #[.int .i64 ↑l, .slice (some ⟨gv, o, none⟩) xs.length cap]) (t := 125) 1 hE k rfl (by rfl) (by rfl) rfl (by simp [go_sem, ↓IntWalk.iteOmega, ev (hE.g e0)]) ?_
 clear O
 intro lb a2 w3 O hE e1 kp
 refine sd 2 hE k (Z00 rfl rfl) ?_
 intro a4 hE e2 kp
 replace e1 := kt kp e1
 refine wpList_nil ?_
 replace k := k.env hE
 clear hE e0 e2
 refine Z01 (wp_seq ?_)
 refine wp_seq ?_
 refine wp_region_lit ?_
 have hE := Env.refl a4 [4, 5, 6, 7, 8, 9, 10, 11, 12, 13, 14, 15, 16, 17, 18, 19, 20, 21, 22, 23, 24, 25, 26, 27, 28]
 apply Z03 4 hE k rfl rfl rfl rfl
 case h =>
  simp [go_sem, ↓IntWalk.iteOmega, ev (hE.g e1)]
  with_reducible rfl
 intro a5 hE e4 kp
 apply Z03 5 hE k rfl rfl rfl rfl
 case h =>
  have q0 : w3.cell? ⟨lb, 0, none⟩ = some (.int .i64 ↑l) := (OwnT.blk O 0 rfl).cell 0
  simp [go_sem, ↓IntWalk.iteOmega, ev e4, q0]
  with_reducible rfl
 intro a6 hE e5 kp
 refine sd 6 hE k (Z06 (Z0r rfl e5 rfl) (decide_eq_false (by omega))) ?_
 intro a7 hE e6 kp
 refine sd 7 hE k (Z04 rfl e6) ?_
 intro a8 hE e7 kp
 apply Z02 8 hE k rfl rfl rfl rfl rfl e7
 case h =>
  simp [go_sem, ↓IntWalk.iteOmega, ev (hE.g e1)]
  with_reducible rfl
 intro a9 hE e8 kp
 replace e7 := kt kp e7
 apply Z02 9 hE k rfl rfl rfl rfl rfl e7
 case h =>
  have q0 : w3.cell? ⟨lb, 0, none⟩ = some (.int .i64 ↑l) := (OwnT.blk O 0 rfl).cell 0
  simp [go_sem, ↓IntWalk.iteOmega, ev e8, q0]
  with_reducible rfl
 intro a10 hE e9 kp
 replace e7 := kt kp e7
 apply Z02 10 hE k rfl rfl rfl rfl rfl e7
 case h =>
  exact Z06 (Z17 rfl e9 rfl) (decide_eq_false (by omega))
 intro a11 hE e10 kp
 replace e7 := kt kp e7
 refine sd 11 hE k (Z05 rfl e7 e10) ?_
 intro a12 hE e11 kp
 refine sd 12 hE k (Z04 rfl e11) ?_
 intro a13 hE e12 kp
 apply Z02 13 hE k rfl rfl rfl rfl rfl e12
 case h =>
  simp [go_sem, ↓IntWalk.iteOmega, ev (hE.g e1)]
  with_reducible rfl
 intro a14 hE e13 kp
 replace e12 := kt kp e12
 apply Z02 14 hE k rfl rfl rfl rfl rfl e12
 case h =>
  have q0 : w3.cell? ⟨lb, 1, none⟩ = some (.slice (some ⟨gv, o, none⟩) xs.length cap) := (OwnT.blk O 0 rfl).cell 1
  simp [go_sem, ↓IntWalk.iteOmega, ev e13, q0]
  with_reducible rfl
 intro a15 hE e14 kp
 replace e12 := kt kp e12
 apply Z02 15 hE k rfl rfl rfl rfl rfl e12
 case h =>
  exact Z0d Try.underlying29 rfl e14
 intro a16 hE e15 kp
 replace e12 := kt kp e12
 apply Z02 16 hE k rfl rfl rfl rfl rfl e12
 case h =>
  exact Z06 (Z17 rfl e15 rfl) (decide_eq_false (by omega))
 intro a17 hE e16 kp
 replace e12 := kt kp e12
 refine sd 17 hE k (Z05 rfl e12 e16) ?_
 intro a18 hE e17 kp
 refine sd 18 hE k (Z04 rfl e17) ?_
 intro a19 hE e18 kp
 apply Z02 19 hE k rfl rfl rfl rfl rfl e18
 case h =>
  simp [go_sem, ↓IntWalk.iteOmega, ev (hE.g e1)]
  with_reducible rfl
 intro a20 hE e19 kp
 replace e18 := kt kp e18
 apply Z02 20 hE k rfl rfl rfl rfl rfl e18
 case h =>
  have q0 : w3.cell? ⟨lb, 0, none⟩ = some (.int .i64 ↑l) := (OwnT.blk O 0 rfl).cell 0
  simp [go_sem, ↓IntWalk.iteOmega, ev e19, q0]
  with_reducible rfl
 intro a21 hE e20 kp
 replace e18 := kt kp e18
 apply Z02 21 hE k rfl rfl rfl rfl rfl e18
 case h =>
  exact Z06 (Z17 rfl e20 rfl) (decide_eq_true (by omega))
 intro a22 hE e21 kp
 replace e18 := kt kp e18
 apply Z02 22 hE k rfl rfl rfl rfl rfl e18
 case h =>
  exact Z04 rfl e21
 intro a23 hE e22 kp
 replace e18 := kt kp e18
 apply Z02 23 hE k rfl rfl rfl rfl rfl e22
 case h =>
  simp [go_sem, ↓IntWalk.iteOmega, ev (hE.g e1)]
  with_reducible rfl
 intro a24 hE e23 kp
 replace e18 := kt kp e18; replace e22 := kt kp e22
 apply Z02 24 hE k rfl rfl rfl rfl rfl e22
 case h =>
  have q0 : w3.cell? ⟨lb, 1, none⟩ = some (.slice (some ⟨gv, o, none⟩) xs.length cap) := (OwnT.blk O 0 rfl).cell 1
  simp [go_sem, ↓IntWalk.iteOmega, ev e23, q0]
  with_reducible rfl
 intro a25 hE e24 kp
 replace e18 := kt kp e18; replace e22 := kt kp e22
 apply Z02 25 hE k rfl rfl rfl rfl rfl e22
 case h =>
  exact Z0d Try.underlying29 rfl e24
 intro a26 hE e25 kp
 replace e18 := kt kp e18; replace e22 := kt kp e22
 apply Z02 26 hE k rfl rfl rfl rfl rfl e22
 case h =>
  exact Z06 (Z0k rfl e25 rfl) (decide_eq_false (by omega))
 intro a27 hE e26 kp
 replace e18 := kt kp e18; replace e22 := kt kp e22
 apply Z02 27 hE k rfl rfl rfl rfl rfl e18
 case h =>
  exact Z0a rfl e22 e26
 intro a28 hE e27 kp
 replace e18 := kt kp e18
 refine sd 28 hE k (Z05 rfl e18 e27) ?_
 intro a29 hE e28 kp
 refine wpList_nil ?_
 replace e1 := hE.g e1
 replace k := k.env hE
 clear hE
 refine Z01 ?_
 refine Z08 e28 rfl ?_
 refine wp_skip ?_
 refine Z01 (wp_seq ?_)
 refine wp_seq ?_
 refine wp_region_lit ?_
 have hE := Env.refl a29 [3]
 refine sd 3 hE k (Z00 rfl rfl) ?_
 intro a30 hE e3 kp
 refine wpList_nil ?_
 replace e1 := hE.g e1
 replace k := k.env hE
 clear hE e28
 refine Z01 ?_
 refine wp_block ?_
 refine wp_loop (fun a w => Fr 77 a ∧ a.eval (.tmp 1) = .pointer (some ⟨lb, 0, none⟩) ∧ ∃ (i : Nat), a.eval (.tmp 3) = .int .i64 ↑i ∧ i ≤ xs.length ∧ OwnT W0.heap.size W0 ([tBlk lb 125 #[.int .i64 ↑l, .slice (some ⟨gv, o, none⟩) xs.length cap]]) w) (fun a w => xs.length - (intOf (a.eval (.tmp 3))).toNat) ?_ ?_
 · exact ⟨k, e1, 0, e3, Nat.zero_le _, O⟩
 intro a31 w32 hI
 clear k e1
 obtain ⟨k, e1, h_⟩ := hI
 clear O e3
 obtain ⟨i, e3, hi, O⟩ := h_
 have mi := e3
 by_cases hlt : i < xs.length
 · have hltI : (i : Int) < (xs.length : Int) := by omega
   obtain ⟨y, hy⟩ : ∃ y, xs[i]? = some y := ⟨_, List.getElem?_eq_getElem hlt⟩

   obtain ⟨hv1, hv5⟩ := hv y (List.mem_of_getElem? hy)
   refine wp_seq ?_
   refine wp_seq ?_
   refine wp_region_lit ?_
   have hE := Env.refl a31 [29, 30, 31, 32, 33]
   refine sm 29 hE k e3 ?_
   intro a33 hE e29 kp
   apply Z03 30 hE k rfl rfl rfl rfl
   case h =>
    simp [go_sem, ↓IntWalk.iteOmega, ev (hE.g e1)]
    with_reducible rfl
   intro a34 hE e30 kp
   replace e29 := kt kp e29
   apply Z03 31 hE k rfl rfl rfl rfl
   case h =>
    have q0 : w32.cell? ⟨lb, 1, none⟩ = some (.slice (some ⟨gv, o, none⟩) xs.length cap) := (OwnT.blk O 0 rfl).cell 1
    simp [go_sem, ↓IntWalk.iteOmega, ev e30, q0]
    with_reducible rfl
   intro a35 hE e31 kp
   replace e29 := kt kp e29
   refine sd 32 hE k (Z0d Try.underlying29 rfl e31) ?_
   intro a36 hE e32 kp
   replace e29 := kt kp e29
   refine sd 33 hE k (Z06 (Z0r rfl e29 e32) (decide_eq_true (by omega))) ?_
   intro a37 hE e33 kp
   refine wpList_nil ?_
   replace e1 := hE.g e1; replace e3 := hE.g e3
   replace k := k.env hE
   clear hE
   refine Z01 ?_
   refine Z0b e33 rfl ?_
   refine wp_skip ?_
   refine Z01 (wp_seq ?_)
   refine wp_block ?_
   by_cases h0 : i = 0
   · skip
     refine wp_seq ?_
     refine Z0c (R := Ext) (w0 := w32) [[], [0], [0, 1], [0, 1, 2], [0, 1, 2, 3], [0, 1, 2], [0, 1, 2, 5], [0, 1, 2, 3, 4, 5, 6], [0, 1, 2, 3, 4, 5, 6, 7], [0, 1, 2, 3, 4, 5, 6, 7, 8], [0, 1, 2], [0, 1, 2, 10], [0, 1, 2], [0, 1, 2, 10, 11, 12], [0, 1, 2, 10, 11, 12, 13], [0, 1, 2, 10, 11, 12, 13, 14], [0, 1, 2, 3, 4, 5, 6, 7, 8, 9, 10, 11, 12, 13, 14, 15], [0, 1, 2, 3, 4, 5, 6, 7, 8, 9, 10, 11, 12, 13, 14, 15, 16], [0, 1, 2, 3, 4, 5, 6, 7, 8, 9, 10, 11, 12, 13, 14, 15, 16, 17], [0, 1, 2, 3, 4, 5, 6, 7, 8, 9, 10, 11, 12, 13, 14, 15, 16, 17, 18], [0, 1, 2, 3, 4, 5, 6, 7, 8, 9, 10, 11, 12, 13, 14, 15, 16, 17, 18, 19], [0, 1, 2, 3, 4, 5, 6, 7, 8, 9, 10, 11, 12, 13, 14, 15, 16, 17, 18, 19, 20], [0, 1, 2, 3, 4, 5, 6, 7, 8, 9, 10, 11, 12, 13, 14, 15, 16, 17, 18, 19, 20, 21], [0, 1, 2, 3, 4, 5, 6, 7, 8, 9, 10, 11, 12, 13, 14, 15, 16, 17, 18, 19, 20, 21, 22], [0, 1, 2, 3, 4, 5, 6, 7, 8, 9, 10, 11, 12, 13, 14, 15, 16, 17, 18, 19, 20, 21, 22, 23], [0, 1, 2, 3, 4, 5, 6, 7, 8, 9, 10, 11, 12, 13, 14, 15, 16, 17, 18, 19, 20, 21, 22], [0, 1, 2, 3, 4, 5, 6, 7, 8, 9, 10, 11, 12, 13, 14, 15, 16, 17, 18, 19, 20, 21, 22, 23, 24, 25], [0, 1, 2, 3, 4, 5, 6, 7, 8, 9, 10, 11, 12, 13, 14, 15, 16, 17, 18, 19, 20, 21, 22, 23, 24, 25, 26], [0, 1, 2, 3, 4, 5, 6, 7, 8, 9, 10, 11, 12, 13, 14, 15, 16, 17, 18, 19, 20, 21, 22, 23, 24, 25, 26, 27], [0, 1, 2, 3, 4, 5, 6, 7, 8, 9, 10, 11, 12, 13, 14, 15, 16, 17, 18, 19, 20, 21, 22, 23, 24, 25, 26, 27, 28], [0, 1, 2, 3, 4, 5, 6, 7, 8, 9, 10, 11, 12, 13, 14, 15, 16, 17, 18, 19, 20, 21, 22, 23, 24, 25, 26, 27, 28, 29], [0, 1, 2, 3, 4, 5, 6, 7, 8, 9, 10, 11, 12, 13, 14, 15, 16, 17, 18, 19, 20, 21, 22, 23, 24, 25, 26, 27, 28, 29, 30], [0, 1, 2, 3, 4, 5, 6, 7, 8, 9, 10, 11, 12, 13, 14, 15, 16, 17, 18, 19, 20, 21, 22, 23, 24, 25, 26, 27, 28, 29, 30, 31], [0, 1, 2, 3, 4, 5, 6, 7, 8, 9, 10, 11, 12, 13, 14, 15, 16, 17, 18, 19, 20, 21, 22, 23, 24, 25, 26, 27, 28, 29, 30], [0, 1, 2, 3, 4, 5, 6, 7, 8, 9, 10, 11, 12, 13, 14, 15, 16, 17, 18, 19, 20, 21, 22, 23, 24, 25, 26, 27, 28, 29, 30, 31, 32, 33], [0, 1, 2, 3, 4, 5, 6, 7, 8, 9, 10, 11, 12, 13, 14, 15, 16, 17, 18, 19, 20, 21, 22, 23, 24, 25, 26, 27, 28, 29, 30, 31, 32, 33, 34], [0, 1, 2, 3, 4, 5, 6, 7, 8, 9, 10, 11, 12, 13, 14, 15, 16, 17, 18, 19, 20, 21, 22, 23, 24, 25, 26, 27, 28, 29, 30, 31, 32, 33, 34, 35], [0, 1, 2, 3, 4, 5, 6, 7, 8, 9, 10, 11, 12, 13, 14, 15, 16, 17, 18, 19, 20, 21, 22, 23, 24, 25, 26, 27, 28, 29, 30, 31, 32, 33, 34, 35, 36], [0, 1, 2, 3, 4, 5, 6, 7, 8, 9, 10, 11, 12, 13, 14, 15, 16, 17, 18, 19, 20, 21, 22, 23, 24, 25, 26, 27, 28, 29, 30, 31, 32, 33, 34, 35, 36, 37], [0, 1, 2, 3, 4, 5, 6, 7, 8, 9, 10, 11, 12, 13, 14, 15, 16, 17, 18, 19, 20, 21, 22, 23, 24, 25, 26, 27, 28, 29, 30, 31, 32, 33, 34, 35, 36, 37, 38], [0, 1, 2, 3, 4, 5, 6, 7, 8, 9, 10, 11, 12, 13, 14, 15, 16, 17, 18, 19, 20, 21, 22, 23, 24, 25, 26, 27, 28, 29, 30, 31, 32, 33, 34, 35, 36, 37, 38, 39]] [36, 37, 38, 39, 40, 41, 42, 43, 44, 45, 46, 47, 48, 49, 50, 51, 52, 53, 54, 55, 56, 57, 58, 59, 60, 61, 62, 63, 64, 65, 66, 67, 68, 69, 70, 71, 72, 73, 74, 75, 76] Ext.refl (fun _ _ _ => Ext.trans) (Ext.drew _) (by kernel_rfl) ?_
     apply bd 36 k rfl rfl rfl
     case h =>
      intro ax wx hE hR hF
      exact Z04 rfl (hE.g e3)
     apply bd 37 k rfl rfl rfl
     case h =>
      intro ax wx hE hR hF
      have e36 := zhF hF 0 36 ml0
      exact Z06 (Z17 rfl e36 rfl) (decide_eq_false (by omega))
     apply bd 38 k rfl rfl rfl
     case h =>
      intro ax wx hE hR hF
      have e37 := zhF hF 1 37 ml0
      exact Z04 rfl e37
     refine Build.skip 39 (by rfl) (by rw [k.size]; rfl) rfl rfl ?_ ?_
     · intro ax wx hE hR hF
       have e38 := zhF hF 2 38 ml0
       exact e38
     refine Build.skip 40 (by rfl) (by rw [k.size]; rfl) rfl rfl ?_ ?_
     · intro ax wx hE hR hF
       have e38 := zhF hF 2 38 ml1
       exact e38
     refine Build.skip 41 (by rfl) (by rw [k.size]; rfl) rfl rfl ?_ ?_
     · intro ax wx hE hR hF
       have e38 := zhF hF 2 38 ml2
       exact e38
     refine Build.skip 42 (by rfl) (by rw [k.size]; rfl) rfl rfl ?_ ?_
     · intro ax wx hE hR hF
       have e38 := zhF hF 2 38 ml3
       exact e38
     refine Build.skip 43 (by rfl) (by rw [k.size]; rfl) rfl rfl ?_ ?_
     · intro ax wx hE hR hF
       have e38 := zhF hF 2 38 ml4
       exact e38
     refine Build.skip 44 (by rfl) (by rw [k.size]; rfl) rfl rfl ?_ ?_
     · intro ax wx hE hR hF
       have e38 := zhF hF 2 38 ml5
       exact e38
     refine Build.skip 45 (by rfl) (by rw [k.size]; rfl) rfl rfl ?_ ?_
     · intro ax wx hE hR hF
       have e38 := zhF hF 2 38 ml6
       exact e38
     refine Build.skip 46 (by rfl) (by rw [k.size]; rfl) rfl rfl ?_ ?_
     · intro ax wx hE hR hF
       have e38 := zhF hF 2 38 ml7
       exact e38
     refine Build.skip 47 (by rfl) (by rw [k.size]; rfl) rfl rfl ?_ ?_
     · intro ax wx hE hR hF
       have e38 := zhF hF 2 38 ml8
       exact e38
     refine Build.skip 48 (by rfl) (by rw [k.size]; rfl) rfl rfl ?_ ?_
     · intro ax wx hE hR hF
       have e38 := zhF hF 2 38 ml9
       exact e38
     refine Build.skip 49 (by rfl) (by rw [k.size]; rfl) rfl rfl ?_ ?_
     · intro ax wx hE hR hF
       have e38 := zhF hF 2 38 ml10
       exact e38
     refine Build.skip 50 (by rfl) (by rw [k.size]; rfl) rfl rfl ?_ ?_
     · intro ax wx hE hR hF
       have e38 := zhF hF 2 38 ml11
       exact e38
     refine Build.skip 51 (by rfl) (by rw [k.size]; rfl) rfl rfl ?_ ?_
     · intro ax wx hE hR hF
       have e38 := zhF hF 2 38 ml12
       exact e38
     refine Build.skip 52 (by rfl) (by rw [k.size]; rfl) rfl rfl ?_ ?_
     · intro ax wx hE hR hF
       have e38 := zhF hF 2 38 ml13
       exact e38
     apply bd 53 k rfl rfl rfl
     case h =>
      intro ax wx hE hR hF
      have e38 := zhF hF 2 38 ml14
      have e52 := zhF hF 16 52 ml0
      exact Z05 rfl e38 rfl
     apply bd 54 k rfl rfl rfl
     case h =>
      intro ax wx hE hR hF
      have e53 := zhF hF 17 53 ml0
      exact Z04 rfl e53
     apply bdg 55 k rfl rfl rfl rfl
     case h =>
      intro ax wx hE hR hF
      have e54 := zhF hF 18 54 ml0
      refine ⟨e54, ?_⟩
      simp [go_sem, ↓IntWalk.iteOmega, ev (hE.g e1)]
      with_reducible rfl
     apply bdg 56 k rfl rfl rfl rfl
     case h =>
      intro ax wx hE hR hF
      have e55 := zhF hF 19 55 ml0
      have e54 := zhF hF 18 54 ml1
      refine ⟨e54, ?_⟩
      have q0 : wx.cell? ⟨lb, 0, none⟩ = some (.int .i64 ↑l) := (OwnT.blk (OwnT.ext O hR) 0 rfl).cell 0
      simp [go_sem, ↓IntWalk.iteOmega, ev e55, q0]
      with_reducible rfl
     apply bdg 57 k rfl rfl rfl rfl
     case h =>
      intro ax wx hE hR hF
      have e56 := zhF hF 20 56 ml0
      have e54 := zhF hF 18 54 ml2
      refine ⟨e54, ?_⟩
      exact Z06 (Z17 rfl e56 rfl) (decide_eq_true (by omega))
     apply bdg 58 k rfl rfl rfl rfl
     case h =>
      intro ax wx hE hR hF
      have e57 := zhF hF 21 57 ml0
      have e54 := zhF hF 18 54 ml3
      refine ⟨e54, ?_⟩
      exact Z04 rfl e57
     apply bdg 59 k rfl rfl rfl rfl
     case h =>
      intro ax wx hE hR hF
      have e58 := zhF hF 22 58 ml0
      refine ⟨e58, ?_⟩
      simp [go_sem, ↓IntWalk.iteOmega, ev (hE.g e1)]
      with_reducible rfl
     apply bdg 60 k rfl rfl rfl rfl
     case h =>
      intro ax wx hE hR hF
      have e59 := zhF hF 23 59 ml0
      have e58 := zhF hF 22 58 ml1
      refine ⟨e58, ?_⟩
      have q0 : wx.cell? ⟨lb, 1, none⟩ = some (.slice (some ⟨gv, o, none⟩) xs.length cap) := (OwnT.blk (OwnT.ext O hR) 0 rfl).cell 1
      simp [go_sem, ↓IntWalk.iteOmega, ev e59, q0]
      with_reducible rfl
     apply bdg 61 k rfl rfl rfl rfl
     case h =>
      intro ax wx hE hR hF
      have e58 := zhF hF 22 58 ml2
      refine ⟨e58, ?_⟩
      exact Z04 rfl (hE.g e3)
     apply bdg 62 k rfl rfl rfl rfl
     case h =>
      intro ax wx hE hR hF
      have e60 := zhF hF 24 60 ml1
      have e61 := zhF hF 25 61 ml0
      have e58 := zhF hF 22 58 ml3
      refine ⟨e58, ?_⟩
      simp [go_sem, ↓IntWalk.iteOmega, ev e60, ev e61]
      with_reducible rfl
     apply bdg 63 k rfl rfl rfl rfl
     case h =>
      intro ax wx hE hR hF
      have e62 := zhF hF 26 62 ml0
      have e58 := zhF hF 22 58 ml4
      refine ⟨e58, ?_⟩
      simp [go_sem, ↓IntWalk.iteOmega, ev e62]
      with_reducible rfl
     apply bdg 64 k rfl rfl rfl rfl
     case h =>
      intro ax wx hE hR hF
      have e63 := zhF hF 27 63 ml0
      have e58 := zhF hF 22 58 ml5
      refine ⟨e58, ?_⟩
      obtain ⟨_, _, e, d0, d1⟩ := Z1q hrow (OwnT.ext O hR).below hy; injection e with e; injection e with e e'; subst e e'
      simp [go_sem, ↓IntWalk.iteOmega, ev e63, d1]
      with_reducible rfl
     apply bdg 65 k rfl rfl rfl rfl
     case h =>
      intro ax wx hE hR hF
      have e64 := zhF hF 28 64 ml0
      have e58 := zhF hF 22 58 ml6
      refine ⟨e58, ?_⟩
      exact Z06 (Z0r rfl e64 rfl) (decide_eq_false (by omega))
     apply bdg 66 k rfl rfl rfl rfl
     case h =>
      intro ax wx hE hR hF
      have e65 := zhF hF 29 65 ml0
      have e58 := zhF hF 22 58 ml7
      refine ⟨e58, ?_⟩
      exact Z04 rfl e65
     apply bdg 67 k rfl rfl rfl rfl
     case h =>
      intro ax wx hE hR hF
      have e66 := zhF hF 30 66 ml0
      refine ⟨e66, ?_⟩
      simp [go_sem, ↓IntWalk.iteOmega, ev (hE.g e1)]
      with_reducible rfl
     apply bdg 68 k rfl rfl rfl rfl
     case h =>
      intro ax wx hE hR hF
      have e67 := zhF hF 31 67 ml0
      have e66 := zhF hF 30 66 ml1
      refine ⟨e66, ?_⟩
      have q0 : wx.cell? ⟨lb, 1, none⟩ = some (.slice (some ⟨gv, o, none⟩) xs.length cap) := (OwnT.blk (OwnT.ext O hR) 0 rfl).cell 1
      simp [go_sem, ↓IntWalk.iteOmega, ev e67, q0]
      with_reducible rfl
     apply bdg 69 k rfl rfl rfl rfl
     case h =>
      intro ax wx hE hR hF
      have e66 := zhF hF 30 66 ml2
      refine ⟨e66, ?_⟩
      exact Z04 rfl (hE.g e3)
     apply bdg 70 k rfl rfl rfl rfl
     case h =>
      intro ax wx hE hR hF
      have e68 := zhF hF 32 68 ml1
      have e69 := zhF hF 33 69 ml0
      have e66 := zhF hF 30 66 ml3
      refine ⟨e66, ?_⟩
      simp [go_sem, ↓IntWalk.iteOmega, ev e68, ev e69]
      with_reducible rfl
     apply bdg 71 k rfl rfl rfl rfl
     case h =>
      intro ax wx hE hR hF
      have e70 := zhF hF 34 70 ml0
      have e66 := zhF hF 30 66 ml4
      refine ⟨e66, ?_⟩
      simp [go_sem, ↓IntWalk.iteOmega, ev e70]
      with_reducible rfl
     apply bdg 72 k rfl rfl rfl rfl
     case h =>
      intro ax wx hE hR hF
      have e71 := zhF hF 35 71 ml0
      have e66 := zhF hF 30 66 ml5
      refine ⟨e66, ?_⟩
      obtain ⟨_, _, e, d0, d1⟩ := Z1q hrow (OwnT.ext O hR).below hy; injection e with e; injection e with e e'; subst e e'
      simp [go_sem, ↓IntWalk.iteOmega, ev e71, d1]
      with_reducible rfl
     apply bdg 73 k rfl rfl rfl rfl
     case h =>
      intro ax wx hE hR hF
      have e72 := zhF hF 36 72 ml0
      have e66 := zhF hF 30 66 ml6
      refine ⟨e66, ?_⟩
      exact Z06 (Z17 rfl e72 rfl) (decide_eq_false (by omega))
     apply bdg 74 k rfl rfl rfl rfl
     case h =>
      intro ax wx hE hR hF
      have e66 := zhF hF 30 66 ml7
      have e73 := zhF hF 37 73 ml0
      have e58 := zhF hF 22 58 ml15
      refine ⟨e58, ?_⟩
      exact Z05 rfl e66 e73
     apply bdg 75 k rfl rfl rfl rfl
     case h =>
      intro ax wx hE hR hF
      have e58 := zhF hF 22 58 ml16
      have e74 := zhF hF 38 74 ml0
      have e54 := zhF hF 18 54 ml20
      refine ⟨e54, ?_⟩
      exact Z0a rfl e58 e74
     apply bd 76 k rfl rfl rfl
     case h =>
      intro ax wx hE hR hF
      have e54 := zhF hF 18 54 ml21
      have e75 := zhF hF 39 75 ml0
      exact Z05 rfl e54 e75
     apply Build.stop
     refine ⟨by kernel_rfl, .inl ⟨rfl, ?_⟩⟩
     intro a38 w39 hE R hF
     have e76 : a38.eval (.tmp 76) = _ := hF 40 (det 76 _) ml0
     clear hF
     replace O := OwnT.ext O R
     clear R
     replace e1 := hE.g e1; replace e3 := hE.g e3
     replace k := k.env hE
     clear hE e33
     refine Z01 ?_
     refine Z08 e76 rfl ?_
     refine wp_skip ?_
     refine Z0f ?_
     refine Z01 ?_
     refine wp_region_lit ?_
     have hE := Env.refl a38 [34, 35, 3]
     refine sd 34 hE k (Z04 rfl e3) ?_
     intro a40 hE e34 kp
     replace e3 := kt kp e3
     refine sd 35 hE k (Z0v rfl e34 rfl (by omega)) ?_
     intro a41 hE e35 kp
     replace e3 := kt kp e3
     refine sd 3 hE k (Z00 rfl e35) ?_
     intro a42 hE e3 kp
     refine wpList_nil ?_
     replace e1 := hE.g e1
     replace k := k.env hE
     clear hE e76
     refine Z01 ?_
     refine ⟨⟨k, e1, i + 1, e3, by omega, O⟩, ?_⟩
     rw [e3, mi]; simp only [intOf]; omega
   · obtain ⟨p, hp⟩ : ∃ p, p + 1 = i := ⟨i - 1, by omega⟩
     obtain ⟨z, hz⟩ : ∃ z, xs[p]? = some z := ⟨_, List.getElem?_eq_getElem (by omega)⟩
     have hlt2 : z.1 < y.1 := by
      obtain ⟨a1, rfl⟩ := List.getElem?_eq_some_iff.1 hz
      obtain ⟨a2, rfl⟩ := List.getElem?_eq_some_iff.1 hy
      exact List.pairwise_iff_getElem.1 hu p i a1 a2 (by omega)
     have hpI : (p : Int) < (xs.length : Int) := by omega

     refine wp_seq ?_
     refine Z0c (R := Ext) (w0 := w32) [[], [0], [0, 1], [0, 1, 2], [0, 1, 2, 3], [0, 1, 2], [0, 1, 2, 5], [0, 1, 2, 3, 4, 5, 6], [0, 1, 2, 3, 4, 5, 6, 7], [0, 1, 2, 3, 4, 5, 6, 7, 8], [0, 1, 2], [0, 1, 2, 10], [0, 1, 2], [0, 1, 2, 10, 11, 12], [0, 1, 2, 10, 11, 12, 13], [0, 1, 2, 10, 11, 12, 13, 14], [0, 1, 2, 3, 4, 5, 6, 7, 8, 9, 10, 11, 12, 13, 14, 15], [0, 1, 2, 3, 4, 5, 6, 7, 8, 9, 10, 11, 12, 13, 14, 15, 16], [0, 1, 2, 3, 4, 5, 6, 7, 8, 9, 10, 11, 12, 13, 14, 15, 16, 17], [0, 1, 2, 3, 4, 5, 6, 7, 8, 9, 10, 11, 12, 13, 14, 15, 16, 17, 18], [0, 1, 2, 3, 4, 5, 6, 7, 8, 9, 10, 11, 12, 13, 14, 15, 16, 17, 18, 19], [0, 1, 2, 3, 4, 5, 6, 7, 8, 9, 10, 11, 12, 13, 14, 15, 16, 17, 18, 19, 20], [0, 1, 2, 3, 4, 5, 6, 7, 8, 9, 10, 11, 12, 13, 14, 15, 16, 17, 18, 19, 20, 21], [0, 1, 2, 3, 4, 5, 6, 7, 8, 9, 10, 11, 12, 13, 14, 15, 16, 17, 18, 19, 20, 21, 22], [0, 1, 2, 3, 4, 5, 6, 7, 8, 9, 10, 11, 12, 13, 14, 15, 16, 17, 18, 19, 20, 21, 22, 23], [0, 1, 2, 3, 4, 5, 6, 7, 8, 9, 10, 11, 12, 13, 14, 15, 16, 17, 18, 19, 20, 21, 22], [0, 1, 2, 3, 4, 5, 6, 7, 8, 9, 10, 11, 12, 13, 14, 15, 16, 17, 18, 19, 20, 21, 22, 23, 24, 25], [0, 1, 2, 3, 4, 5, 6, 7, 8, 9, 10, 11, 12, 13, 14, 15, 16, 17, 18, 19, 20, 21, 22, 23, 24, 25, 26], [0, 1, 2, 3, 4, 5, 6, 7, 8, 9, 10, 11, 12, 13, 14, 15, 16, 17, 18, 19, 20, 21, 22, 23, 24, 25, 26, 27], [0, 1, 2, 3, 4, 5, 6, 7, 8, 9, 10, 11, 12, 13, 14, 15, 16, 17, 18, 19, 20, 21, 22, 23, 24, 25, 26, 27, 28], [0, 1, 2, 3, 4, 5, 6, 7, 8, 9, 10, 11, 12, 13, 14, 15, 16, 17, 18, 19, 20, 21, 22, 23, 24, 25, 26, 27, 28, 29], [0, 1, 2, 3, 4, 5, 6, 7, 8, 9, 10, 11, 12, 13, 14, 15, 16, 17, 18, 19, 20, 21, 22, 23, 24, 25, 26, 27, 28, 29, 30], [0, 1, 2, 3, 4, 5, 6, 7, 8, 9, 10, 11, 12, 13, 14, 15, 16, 17, 18, 19, 20, 21, 22, 23, 24, 25, 26, 27, 28, 29, 30, 31], [0, 1, 2, 3, 4, 5, 6, 7, 8, 9, 10, 11, 12, 13, 14, 15, 16, 17, 18, 19, 20, 21, 22, 23, 24, 25, 26, 27, 28, 29, 30], [0, 1, 2, 3, 4, 5, 6, 7, 8, 9, 10, 11, 12, 13, 14, 15, 16, 17, 18, 19, 20, 21, 22, 23, 24, 25, 26, 27, 28, 29, 30, 31, 32, 33], [0, 1, 2, 3, 4, 5, 6, 7, 8, 9, 10, 11, 12, 13, 14, 15, 16, 17, 18, 19, 20, 21, 22, 23, 24, 25, 26, 27, 28, 29, 30, 31, 32, 33, 34], [0, 1, 2, 3, 4, 5, 6, 7, 8, 9, 10, 11, 12, 13, 14, 15, 16, 17, 18, 19, 20, 21, 22, 23, 24, 25, 26, 27, 28, 29, 30, 31, 32, 33, 34, 35], [0, 1, 2, 3, 4, 5, 6, 7, 8, 9, 10, 11, 12, 13, 14, 15, 16, 17, 18, 19, 20, 21, 22, 23, 24, 25, 26, 27, 28, 29, 30, 31, 32, 33, 34, 35, 36], [0, 1, 2, 3, 4, 5, 6, 7, 8, 9, 10, 11, 12, 13, 14, 15, 16, 17, 18, 19, 20, 21, 22, 23, 24, 25, 26, 27, 28, 29, 30, 31, 32, 33, 34, 35, 36, 37], [0, 1, 2, 3, 4, 5, 6, 7, 8, 9, 10, 11, 12, 13, 14, 15, 16, 17, 18, 19, 20, 21, 22, 23, 24, 25, 26, 27, 28, 29, 30, 31, 32, 33, 34, 35, 36, 37, 38], [0, 1, 2, 3, 4, 5, 6, 7, 8, 9, 10, 11, 12, 13, 14, 15, 16, 17, 18, 19, 20, 21, 22, 23, 24, 25, 26, 27, 28, 29, 30, 31, 32, 33, 34, 35, 36, 37, 38, 39]] [36, 37, 38, 39, 40, 41, 42, 43, 44, 45, 46, 47, 48, 49, 50, 51, 52, 53, 54, 55, 56, 57, 58, 59, 60, 61, 62, 63, 64, 65, 66, 67, 68, 69, 70, 71, 72, 73, 74, 75, 76] Ext.refl (fun _ _ _ => Ext.trans) (Ext.drew _) (by kernel_rfl) ?_
     apply bd 36 k rfl rfl rfl
     case h =>
      intro ax wx hE hR hF
      exact Z04 rfl (hE.g e3)
     apply bd 37 k rfl rfl rfl
     case h =>
      intro ax wx hE hR hF
      have e36 := zhF hF 0 36 ml0
      exact Z06 (Z17 rfl e36 rfl) (decide_eq_true (by omega))
     apply bd 38 k rfl rfl rfl
     case h =>
      intro ax wx hE hR hF
      have e37 := zhF hF 1 37 ml0
      exact Z04 rfl e37
     apply bdg 39 k rfl rfl rfl rfl
     case h =>
      intro ax wx hE hR hF
      have e38 := zhF hF 2 38 ml0
      refine ⟨e38, ?_⟩
      simp [go_sem, ↓IntWalk.iteOmega, ev (hE.g e1)]
      with_reducible rfl
     apply bdg 40 k rfl rfl rfl rfl
     case h =>
      intro ax wx hE hR hF
      have e39 := zhF hF 3 39 ml0
      have e38 := zhF hF 2 38 ml1
      refine ⟨e38, ?_⟩
      have q0 : wx.cell? ⟨lb, 1, none⟩ = some (.slice (some ⟨gv, o, none⟩) xs.length cap) := (OwnT.blk (OwnT.ext O hR) 0 rfl).cell 1
      simp [go_sem, ↓IntWalk.iteOmega, ev e39, q0]
      with_reducible rfl
     apply bdg 41 k rfl rfl rfl rfl
     case h =>
      intro ax wx hE hR hF
      have e38 := zhF hF 2 38 ml2
      refine ⟨e38, ?_⟩
      exact Z04 rfl (hE.g e3)
     apply bdg 42 k rfl rfl rfl rfl
     case h =>
      intro ax wx hE hR hF
      have e41 := zhF hF 5 41 ml0
      have e38 := zhF hF 2 38 ml3
      refine ⟨e38, ?_⟩
      exact Z1b (v := .int .i64 (p : Int)) (Z2l rfl e41 rfl (by omega)) (Z0u (by omega))
     apply bdg 43 k rfl rfl rfl rfl
     case h =>
      intro ax wx hE hR hF
      have e40 := zhF hF 4 40 ml2
      have e42 := zhF hF 6 42 ml0
      have e38 := zhF hF 2 38 ml4
      refine ⟨e38, ?_⟩
      simp [go_sem, ↓IntWalk.iteOmega, ev e40, ev e42]
      with_reducible rfl
     apply bdg 44 k rfl rfl rfl rfl
     case h =>
      intro ax wx hE hR hF
      have e43 := zhF hF 7 43 ml0
      have e38 := zhF hF 2 38 ml5
      refine ⟨e38, ?_⟩
      simp [go_sem, ↓IntWalk.iteOmega, ev e43]
      with_reducible rfl
     apply bdg 45 k rfl rfl rfl rfl
     case h =>
      intro ax wx hE hR hF
      have e44 := zhF hF 8 44 ml0
      have e38 := zhF hF 2 38 ml6
      refine ⟨e38, ?_⟩
      obtain ⟨_, _, e, d0, d1⟩ := Z1q hrow (OwnT.ext O hR).below hz; injection e with e; injection e with e e'; subst e e'
      simp [go_sem, ↓IntWalk.iteOmega, ev e44, d0]
      with_reducible rfl
     apply bdg 46 k rfl rfl rfl rfl
     case h =>
      intro ax wx hE hR hF
      have e38 := zhF hF 2 38 ml7
      refine ⟨e38, ?_⟩
      simp [go_sem, ↓IntWalk.iteOmega, ev (hE.g e1)]
      with_reducible rfl
     apply bdg 47 k rfl rfl rfl rfl
     case h =>
      intro ax wx hE hR hF
      have e46 := zhF hF 10 46 ml0
      have e38 := zhF hF 2 38 ml8
      refine ⟨e38, ?_⟩
      have q0 : wx.cell? ⟨lb, 1, none⟩ = some (.slice (some ⟨gv, o, none⟩) xs.length cap) := (OwnT.blk (OwnT.ext O hR) 0 rfl).cell 1
      simp [go_sem, ↓IntWalk.iteOmega, ev e46, q0]
      with_reducible rfl
     apply bdg 48 k rfl rfl rfl rfl
     case h =>
      intro ax wx hE hR hF
      have e38 := zhF hF 2 38 ml9
      refine ⟨e38, ?_⟩
      exact Z04 rfl (hE.g e3)
     apply bdg 49 k rfl rfl rfl rfl
     case h =>
      intro ax wx hE hR hF
      have e47 := zhF hF 11 47 ml1
      have e48 := zhF hF 12 48 ml0
      have e38 := zhF hF 2 38 ml10
      refine ⟨e38, ?_⟩
      simp [go_sem, ↓IntWalk.iteOmega, ev e47, ev e48]
      with_reducible rfl
     apply bdg 50 k rfl rfl rfl rfl
     case h =>
      intro ax wx hE hR hF
      have e49 := zhF hF 13 49 ml0
      have e38 := zhF hF 2 38 ml11
      refine ⟨e38, ?_⟩
      simp [go_sem, ↓IntWalk.iteOmega, ev e49]
      with_reducible rfl
     apply bdg 51 k rfl rfl rfl rfl
     case h =>
      intro ax wx hE hR hF
      have e50 := zhF hF 14 50 ml0
      have e38 := zhF hF 2 38 ml12
      refine ⟨e38, ?_⟩
      obtain ⟨_, _, e, d0, d1⟩ := Z1q hrow (OwnT.ext O hR).below hy; injection e with e; injection e with e e'; subst e e'
      simp [go_sem, ↓IntWalk.iteOmega, ev e50, d0]
      with_reducible rfl
     apply bdg 52 k rfl rfl rfl rfl
     case h =>
      intro ax wx hE hR hF
      have e45 := zhF hF 9 45 ml6
      have e51 := zhF hF 15 51 ml0
      have e38 := zhF hF 2 38 ml13
      refine ⟨e38, ?_⟩
      exact Z06 (Z29 rfl e45 e51) (decide_eq_false (by omega))
     apply bd 53 k rfl rfl rfl
     case h =>
      intro ax wx hE hR hF
      have e38 := zhF hF 2 38 ml14
      have e52 := zhF hF 16 52 ml0
      exact Z0a rfl e38 e52
     apply bd 54 k rfl rfl rfl
     case h =>
      intro ax wx hE hR hF
      have e53 := zhF hF 17 53 ml0
      exact Z04 rfl e53
     apply bdg 55 k rfl rfl rfl rfl
     case h =>
      intro ax wx hE hR hF
      have e54 := zhF hF 18 54 ml0
      refine ⟨e54, ?_⟩
      simp [go_sem, ↓IntWalk.iteOmega, ev (hE.g e1)]
      with_reducible rfl
     apply bdg 56 k rfl rfl rfl rfl
     case h =>
      intro ax wx hE hR hF
      have e55 := zhF hF 19 55 ml0
      have e54 := zhF hF 18 54 ml1
      refine ⟨e54, ?_⟩
      have q0 : wx.cell? ⟨lb, 0, none⟩ = some (.int .i64 ↑l) := (OwnT.blk (OwnT.ext O hR) 0 rfl).cell 0
      simp [go_sem, ↓IntWalk.iteOmega, ev e55, q0]
      with_reducible rfl
     apply bdg 57 k rfl rfl rfl rfl
     case h =>
      intro ax wx hE hR hF
      have e56 := zhF hF 20 56 ml0
      have e54 := zhF hF 18 54 ml2
      refine ⟨e54, ?_⟩
      exact Z06 (Z17 rfl e56 rfl) (decide_eq_true (by omega))
     apply bdg 58 k rfl rfl rfl rfl
     case h =>
      intro ax wx hE hR hF
      have e57 := zhF hF 21 57 ml0
      have e54 := zhF hF 18 54 ml3
      refine ⟨e54, ?_⟩
      exact Z04 rfl e57
     apply bdg 59 k rfl rfl rfl rfl
     case h =>
      intro ax wx hE hR hF
      have e58 := zhF hF 22 58 ml0
      refine ⟨e58, ?_⟩
      simp [go_sem, ↓IntWalk.iteOmega, ev (hE.g e1)]
      with_reducible rfl
     apply bdg 60 k rfl rfl rfl rfl
     case h =>
      intro ax wx hE hR hF
      have e59 := zhF hF 23 59 ml0
      have e58 := zhF hF 22 58 ml1
      refine ⟨e58, ?_⟩
      have q0 : wx.cell? ⟨lb, 1, none⟩ = some (.slice (some ⟨gv, o, none⟩) xs.length cap) := (OwnT.blk (OwnT.ext O hR) 0 rfl).cell 1
      simp [go_sem, ↓IntWalk.iteOmega, ev e59, q0]
      with_reducible rfl
     apply bdg 61 k rfl rfl rfl rfl
     case h =>
      intro ax wx hE hR hF
      have e58 := zhF hF 22 58 ml2
      refine ⟨e58, ?_⟩
      exact Z04 rfl (hE.g e3)
     apply bdg 62 k rfl rfl rfl rfl
     case h =>
      intro ax wx hE hR hF
      have e60 := zhF hF 24 60 ml1
      have e61 := zhF hF 25 61 ml0
      have e58 := zhF hF 22 58 ml3
      refine ⟨e58, ?_⟩
      simp [go_sem, ↓IntWalk.iteOmega, ev e60, ev e61]
      with_reducible rfl
     apply bdg 63 k rfl rfl rfl rfl
     case h =>
      intro ax wx hE hR hF
      have e62 := zhF hF 26 62 ml0
      have e58 := zhF hF 22 58 ml4
      refine ⟨e58, ?_⟩
      simp [go_sem, ↓IntWalk.iteOmega, ev e62]
      with_reducible rfl
     apply bdg 64 k rfl rfl rfl rfl
     case h =>
      intro ax wx hE hR hF
      have e63 := zhF hF 27 63 ml0
      have e58 := zhF hF 22 58 ml5
      refine ⟨e58, ?_⟩
      obtain ⟨_, _, e, d0, d1⟩ := Z1q hrow (OwnT.ext O hR).below hy; injection e with e; injection e with e e'; subst e e'
      simp [go_sem, ↓IntWalk.iteOmega, ev e63, d1]
      with_reducible rfl
     apply bdg 65 k rfl rfl rfl rfl
     case h =>
      intro ax wx hE hR hF
      have e64 := zhF hF 28 64 ml0
      have e58 := zhF hF 22 58 ml6
      refine ⟨e58, ?_⟩
      exact Z06 (Z0r rfl e64 rfl) (decide_eq_false (by omega))
     apply bdg 66 k rfl rfl rfl rfl
     case h =>
      intro ax wx hE hR hF
      have e65 := zhF hF 29 65 ml0
      have e58 := zhF hF 22 58 ml7
      refine ⟨e58, ?_⟩
      exact Z04 rfl e65
     apply bdg 67 k rfl rfl rfl rfl
     case h =>
      intro ax wx hE hR hF
      have e66 := zhF hF 30 66 ml0
      refine ⟨e66, ?_⟩
      simp [go_sem, ↓IntWalk.iteOmega, ev (hE.g e1)]
      with_reducible rfl
     apply bdg 68 k rfl rfl rfl rfl
     case h =>
      intro ax wx hE hR hF
      have e67 := zhF hF 31 67 ml0
      have e66 := zhF hF 30 66 ml1
      refine ⟨e66, ?_⟩
      have q0 : wx.cell? ⟨lb, 1, none⟩ = some (.slice (some ⟨gv, o, none⟩) xs.length cap) := (OwnT.blk (OwnT.ext O hR) 0 rfl).cell 1
      simp [go_sem, ↓IntWalk.iteOmega, ev e67, q0]
      with_reducible rfl
     apply bdg 69 k rfl rfl rfl rfl
     case h =>
      intro ax wx hE hR hF
      have e66 := zhF hF 30 66 ml2
      refine ⟨e66, ?_⟩
      exact Z04 rfl (hE.g e3)
     apply bdg 70 k rfl rfl rfl rfl
     case h =>
      intro ax wx hE hR hF
      have e68 := zhF hF 32 68 ml1
      have e69 := zhF hF 33 69 ml0
      have e66 := zhF hF 30 66 ml3
      refine ⟨e66, ?_⟩
      simp [go_sem, ↓IntWalk.iteOmega, ev e68, ev e69]
      with_reducible rfl
     apply bdg 71 k rfl rfl rfl rfl
     case h =>
      intro ax wx hE hR hF
      have e70 := zhF hF 34 70 ml0
      have e66 := zhF hF 30 66 ml4
      refine ⟨e66, ?_⟩
      simp [go_sem, ↓IntWalk.iteOmega, ev e70]
      with_reducible rfl
     apply bdg 72 k rfl rfl rfl rfl
     case h =>
      intro ax wx hE hR hF
      have e71 := zhF hF 35 71 ml0
      have e66 := zhF hF 30 66 ml5
      refine ⟨e66, ?_⟩
      obtain ⟨_, _, e, d0, d1⟩ := Z1q hrow (OwnT.ext O hR).below hy; injection e with e; injection e with e e'; subst e e'
      simp [go_sem, ↓IntWalk.iteOmega, ev e71, d1]
      with_reducible rfl
     apply bdg 73 k rfl rfl rfl rfl
     case h =>
      intro ax wx hE hR hF
      have e72 := zhF hF 36 72 ml0
      have e66 := zhF hF 30 66 ml6
      refine ⟨e66, ?_⟩
      exact Z06 (Z17 rfl e72 rfl) (decide_eq_false (by omega))
     apply bdg 74 k rfl rfl rfl rfl
     case h =>
      intro ax wx hE hR hF
      have e66 := zhF hF 30 66 ml7
      have e73 := zhF hF 37 73 ml0
      have e58 := zhF hF 22 58 ml15
      refine ⟨e58, ?_⟩
      exact Z05 rfl e66 e73
     apply bdg 75 k rfl rfl rfl rfl
     case h =>
      intro ax wx hE hR hF
      have e58 := zhF hF 22 58 ml16
      have e74 := zhF hF 38 74 ml0
      have e54 := zhF hF 18 54 ml20
      refine ⟨e54, ?_⟩
      exact Z0a rfl e58 e74
     apply bd 76 k rfl rfl rfl
     case h =>
      intro ax wx hE hR hF
      have e54 := zhF hF 18 54 ml21
      have e75 := zhF hF 39 75 ml0
      exact Z05 rfl e54 e75
     apply Build.stop
     refine ⟨by kernel_rfl, .inl ⟨rfl, ?_⟩⟩
     intro a43 w44 hE R hF
     have e76 : a43.eval (.tmp 76) = _ := hF 40 (det 76 _) ml0
     clear hF
     replace O := OwnT.ext O R
     clear R
     replace e1 := hE.g e1; replace e3 := hE.g e3
     replace k := k.env hE
     clear hE e33
     refine Z01 ?_
     refine Z08 e76 rfl ?_
     refine wp_skip ?_
     refine Z0f ?_
     refine Z01 ?_
     refine wp_region_lit ?_
     have hE := Env.refl a43 [34, 35, 3]
     refine sd 34 hE k (Z04 rfl e3) ?_
     intro a45 hE e34 kp
     replace e3 := kt kp e3
     refine sd 35 hE k (Z0v rfl e34 rfl (by omega)) ?_
     intro a46 hE e35 kp
     replace e3 := kt kp e3
     refine sd 3 hE k (Z00 rfl e35) ?_
     intro a47 hE e3 kp
     refine wpList_nil ?_
     replace e1 := hE.g e1
     replace k := k.env hE
     clear hE e76
     refine Z01 ?_
     refine ⟨⟨k, e1, i + 1, e3, by omega, O⟩, ?_⟩
     rw [e3, mi]; simp only [intOf]; omega
 · skip
   refine wp_seq ?_
   refine wp_seq ?_
   refine wp_region_lit ?_
   have hE := Env.refl a31 [29, 30, 31, 32, 33]
   refine sm 29 hE k e3 ?_
   intro a48 hE e29 kp
   apply Z03 30 hE k rfl rfl rfl rfl
   case h =>
    simp [go_sem, ↓IntWalk.iteOmega, ev (hE.g e1)]
    with_reducible rfl
   intro a49 hE e30 kp
   replace e29 := kt kp e29
   apply Z03 31 hE k rfl rfl rfl rfl
   case h =>
    have q0 : w32.cell? ⟨lb, 1, none⟩ = some (.slice (some ⟨gv, o, none⟩) xs.length cap) := (OwnT.blk O 0 rfl).cell 1
    simp [go_sem, ↓IntWalk.iteOmega, ev e30, q0]
    with_reducible rfl
   intro a50 hE e31 kp
   replace e29 := kt kp e29
   refine sd 32 hE k (Z0d Try.underlying29 rfl e31) ?_
   intro a51 hE e32 kp
   replace e29 := kt kp e29
   refine sd 33 hE k (Z06 (Z0r rfl e29 e32) (decide_eq_false (by omega))) ?_
   intro a52 hE e33 kp
   refine wpList_nil ?_
   replace e1 := hE.g e1; replace e3 := hE.g e3
   replace k := k.env hE
   clear hE
   refine Z01 ?_
   refine Z08 e33 rfl ?_
   refine wp_exit ?_
   refine Z0q ?_
   refine Z0q ?_
   refine Z13 ?_
   refine Z01 (wp_seq ?_)
   refine wp_region_lit ?_
   have hE := Env.refl a52 [2]
   refine sd 2 hE k (Z00 rfl rfl) ?_
   intro a53 hE e2 kp
   refine wpList_nil ?_
   replace k := k.env hE
   clear hE e1 e3 e33
   refine Z01 ?_
   refine wp_ret ?_
   refine Z0w rfl k e2 ?_
   exact ⟨rfl, O.below⟩
set_option maxRecDepth 100000 in
set_option maxHeartbeats 4000000 in
theorem rgood_z {gv o cap : Nat} {xs : List Pr} (W0 : World) (hrow : Row W0 (some ⟨gv, o, none⟩) 2 pairC xs) (hne : 0 < xs.length) (h15 : xs.length ≤ 15) (hu : Up xs) : Calls Try.prog 87 #[.agg #[.int .i64 0, .slice (some ⟨gv, o, none⟩) xs.length cap]] W0 fun e w' => e = .returned (.bool true) ∧ Ext W0 w' := by
 have O := OwnT.start W0
 refine Z0e Try.func87 rfl 77 rfl (by rfl) ?_
 intro a1 k hargs
 have e0 : a1.eval (.tmp 0) = .agg #[.int .i64 0, .slice (some ⟨gv, o, none⟩) xs.length cap] := hargs 0 _ rfl
 clear hargs
 refine wp_seq ?_
 refine wp_region_lit ?_
 have hE := Env.refl a1 [1, 2]
 refine Z0m O (cs := #[.int .i64 0, .slice (some ⟨gv, o, none⟩) xs.length cap]) (t := 125) 1 hE k rfl (by rfl) (by rfl) rfl (by simp [go_sem, ↓IntWalk.iteOmega, ev (hE.g e0)]) ?_
 clear O
 intro lb a2 w3 O hE e1 kp
 refine sd 2 hE k (Z00 rfl rfl) ?_
 intro a4 hE e2 kp
 replace e1 := kt kp e1
 refine wpList_nil ?_
 replace k := k.env hE
 clear hE e0 e2
 refine Z01 (wp_seq ?_)
 refine wp_seq ?_
 refine wp_region_lit ?_
 have hE := Env.refl a4 [4, 5, 6, 7, 8, 9, 10, 11, 12, 13, 14, 15, 16, 17, 18, 19, 20, 21, 22, 23, 24, 25, 26, 27, 28]
 apply Z03 4 hE k rfl rfl rfl rfl
 case h =>
  simp [go_sem, ↓IntWalk.iteOmega, ev (hE.g e1)]
  with_reducible rfl
 intro a5 hE e4 kp
 apply Z03 5 hE k rfl rfl rfl rfl
 case h =>
  have q0 : w3.cell? ⟨lb, 0, none⟩ = some (.int .i64 0) := (OwnT.blk O 0 rfl).cell 0
  simp [go_sem, ↓IntWalk.iteOmega, ev e4, q0]
  with_reducible rfl
 intro a6 hE e5 kp
 refine sd 6 hE k (Z0r rfl e5 rfl) ?_
 intro a7 hE e6 kp
 refine sd 7 hE k (Z04 rfl e6) ?_
 intro a8 hE e7 kp
 apply Z02 8 hE k rfl rfl rfl rfl rfl e7
 case h =>
  simp [go_sem, ↓IntWalk.iteOmega, ev (hE.g e1)]
  with_reducible rfl
 intro a9 hE e8 kp
 replace e7 := kt kp e7
 apply Z02 9 hE k rfl rfl rfl rfl rfl e7
 case h =>
  have q0 : w3.cell? ⟨lb, 0, none⟩ = some (.int .i64 0) := (OwnT.blk O 0 rfl).cell 0
  simp [go_sem, ↓IntWalk.iteOmega, ev e8, q0]
  with_reducible rfl
 intro a10 hE e9 kp
 replace e7 := kt kp e7
 apply Z02 10 hE k rfl rfl rfl rfl rfl e7
 case h =>
  exact Z17 rfl e9 rfl
 intro a11 hE e10 kp
 replace e7 := kt kp e7
 refine sd 11 hE k (Z05 rfl e7 e10) ?_
 intro a12 hE e11 kp
 refine sd 12 hE k (Z04 rfl e11) ?_
 intro a13 hE e12 kp
 apply Z02 13 hE k rfl rfl rfl rfl rfl e12
 case h =>
  simp [go_sem, ↓IntWalk.iteOmega, ev (hE.g e1)]
  with_reducible rfl
 intro a14 hE e13 kp
 replace e12 := kt kp e12
 apply Z02 14 hE k rfl rfl rfl rfl rfl e12
 case h =>
  have q0 : w3.cell? ⟨lb, 1, none⟩ = some (.slice (some ⟨gv, o, none⟩) xs.length cap) := (OwnT.blk O 0 rfl).cell 1
  simp [go_sem, ↓IntWalk.iteOmega, ev e13, q0]
  with_reducible rfl
 intro a15 hE e14 kp
 replace e12 := kt kp e12
 apply Z02 15 hE k rfl rfl rfl rfl rfl e12
 case h =>
  exact Z0d Try.underlying29 rfl e14
 intro a16 hE e15 kp
 replace e12 := kt kp e12
 apply Z02 16 hE k rfl rfl rfl rfl rfl e12
 case h =>
  exact Z06 (Z17 rfl e15 rfl) (decide_eq_false (by omega))
 intro a17 hE e16 kp
 replace e12 := kt kp e12
 refine sd 17 hE k (Z05 rfl e12 e16) ?_
 intro a18 hE e17 kp
 refine sd 18 hE k (Z04 rfl e17) ?_
 intro a19 hE e18 kp
 apply Z02 19 hE k rfl rfl rfl rfl rfl e18
 case h =>
  simp [go_sem, ↓IntWalk.iteOmega, ev (hE.g e1)]
  with_reducible rfl
 intro a20 hE e19 kp
 replace e18 := kt kp e18
 apply Z02 20 hE k rfl rfl rfl rfl rfl e18
 case h =>
  have q0 : w3.cell? ⟨lb, 0, none⟩ = some (.int .i64 0) := (OwnT.blk O 0 rfl).cell 0
  simp [go_sem, ↓IntWalk.iteOmega, ev e19, q0]
  with_reducible rfl
 intro a21 hE e20 kp
 replace e18 := kt kp e18
 apply Z02 21 hE k rfl rfl rfl rfl rfl e18
 case h =>
  exact Z17 rfl e20 rfl
 intro a22 hE e21 kp
 replace e18 := kt kp e18
 apply Z02 22 hE k rfl rfl rfl rfl rfl e18
 case h =>
  exact Z04 rfl e21
 intro a23 hE e22 kp
 replace e18 := kt kp e18
 refine Z07 23 hE k rfl (by rfl) (by rfl) rfl rfl (.inl e22) ?_
 intro a24 hE e23 kp
 replace e18 := kt kp e18; replace e22 := kt kp e22
 refine Z07 24 hE k rfl (by rfl) (by rfl) rfl rfl (.inl e22) ?_
 intro a25 hE e24 kp
 replace e18 := kt kp e18; replace e22 := kt kp e22
 refine Z07 25 hE k rfl (by rfl) (by rfl) rfl rfl (.inl e22) ?_
 intro a26 hE e25 kp
 replace e18 := kt kp e18; replace e22 := kt kp e22
 refine Z07 26 hE k rfl (by rfl) (by rfl) rfl rfl (.inl e22) ?_
 intro a27 hE e26 kp
 replace e18 := kt kp e18; replace e22 := kt kp e22
 apply Z02 27 hE k rfl rfl rfl rfl rfl e18
 case h =>
  exact Z05 rfl e22 rfl
 intro a28 hE e27 kp
 replace e18 := kt kp e18
 refine sd 28 hE k (Z05 rfl e18 e27) ?_
 intro a29 hE e28 kp
 refine wpList_nil ?_
 replace e1 := hE.g e1
 replace k := k.env hE
 clear hE
 refine Z01 ?_
 refine Z08 e28 rfl ?_
 refine wp_skip ?_
 refine Z01 (wp_seq ?_)
 refine wp_seq ?_
 refine wp_region_lit ?_
 have hE := Env.refl a29 [3]
 refine sd 3 hE k (Z00 rfl rfl) ?_
 intro a30 hE e3 kp
 refine wpList_nil ?_
 replace e1 := hE.g e1
 replace k := k.env hE
 clear hE e28
 refine Z01 ?_
 refine wp_block ?_
 refine wp_loop (fun a w => Fr 77 a ∧ a.eval (.tmp 1) = .pointer (some ⟨lb, 0, none⟩) ∧ ∃ (i : Nat), a.eval (.tmp 3) = .int .i64 ↑i ∧ i ≤ xs.length ∧ OwnT W0.heap.size W0 ([tBlk lb 125 #[.int .i64 0, .slice (some ⟨gv, o, none⟩) xs.length cap]]) w) (fun a w => xs.length - (intOf (a.eval (.tmp 3))).toNat) ?_ ?_
 · exact ⟨k, e1, 0, e3, Nat.zero_le _, O⟩
 intro a31 w32 hI
 clear k e1
 obtain ⟨k, e1, h_⟩ := hI
 clear O e3
 obtain ⟨i, e3, hi, O⟩ := h_
 have mi := e3
 by_cases hlt : i < xs.length
 · have hltI : (i : Int) < (xs.length : Int) := by omega
   obtain ⟨y, hy⟩ : ∃ y, xs[i]? = some y := ⟨_, List.getElem?_eq_getElem hlt⟩

   refine wp_seq ?_
   refine wp_seq ?_
   refine wp_region_lit ?_
   have hE := Env.refl a31 [29, 30, 31, 32, 33]
   refine sm 29 hE k e3 ?_
   intro a33 hE e29 kp
   apply Z03 30 hE k rfl rfl rfl rfl
   case h =>
    simp [go_sem, ↓IntWalk.iteOmega, ev (hE.g e1)]
    with_reducible rfl
   intro a34 hE e30 kp
   replace e29 := kt kp e29
   apply Z03 31 hE k rfl rfl rfl rfl
   case h =>
    have q0 : w32.cell? ⟨lb, 1, none⟩ = some (.slice (some ⟨gv, o, none⟩) xs.length cap) := (OwnT.blk O 0 rfl).cell 1
    simp [go_sem, ↓IntWalk.iteOmega, ev e30, q0]
    with_reducible rfl
   intro a35 hE e31 kp
   replace e29 := kt kp e29
   refine sd 32 hE k (Z0d Try.underlying29 rfl e31) ?_
   intro a36 hE e32 kp
   replace e29 := kt kp e29
   refine sd 33 hE k (Z06 (Z0r rfl e29 e32) (decide_eq_true (by omega))) ?_
   intro a37 hE e33 kp
   refine wpList_nil ?_
   replace e1 := hE.g e1; replace e3 := hE.g e3
   replace k := k.env hE
   clear hE
   refine Z01 ?_
   refine Z0b e33 rfl ?_
   refine wp_skip ?_
   refine Z01 (wp_seq ?_)
   refine wp_block ?_
   by_cases h0 : i = 0
   · skip
     refine wp_seq ?_
     refine Z0c (R := Ext) (w0 := w32) [[], [0], [0, 1], [0, 1, 2], [0, 1, 2, 3], [0, 1, 2], [0, 1, 2, 5], [0, 1, 2, 3, 4, 5, 6], [0, 1, 2, 3, 4, 5, 6, 7], [0, 1, 2, 3, 4, 5, 6, 7, 8], [0, 1, 2], [0, 1, 2, 10], [0, 1, 2], [0, 1, 2, 10, 11, 12], [0, 1, 2, 10, 11, 12, 13], [0, 1, 2, 10, 11, 12, 13, 14], [0, 1, 2, 3, 4, 5, 6, 7, 8, 9, 10, 11, 12, 13, 14, 15], [0, 1, 2, 3, 4, 5, 6, 7, 8, 9, 10, 11, 12, 13, 14, 15, 16], [0, 1, 2, 3, 4, 5, 6, 7, 8, 9, 10, 11, 12, 13, 14, 15, 16, 17], [0, 1, 2, 3, 4, 5, 6, 7, 8, 9, 10, 11, 12, 13, 14, 15, 16, 17, 18], [0, 1, 2, 3, 4, 5, 6, 7, 8, 9, 10, 11, 12, 13, 14, 15, 16, 17, 18, 19], [0, 1, 2, 3, 4, 5, 6, 7, 8, 9, 10, 11, 12, 13, 14, 15, 16, 17, 18, 19, 20], [0, 1, 2, 3, 4, 5, 6, 7, 8, 9, 10, 11, 12, 13, 14, 15, 16, 17, 18, 19, 20, 21], [0, 1, 2, 3, 4, 5, 6, 7, 8, 9, 10, 11, 12, 13, 14, 15, 16, 17, 18, 19, 20, 21, 22], [0, 1, 2, 3, 4, 5, 6, 7, 8, 9, 10, 11, 12, 13, 14, 15, 16, 17, 18, 19, 20, 21, 22, 23], [0, 1, 2, 3, 4, 5, 6, 7, 8, 9, 10, 11, 12, 13, 14, 15, 16, 17, 18, 19, 20, 21, 22], [0, 1, 2, 3, 4, 5, 6, 7, 8, 9, 10, 11, 12, 13, 14, 15, 16, 17, 18, 19, 20, 21, 22, 23, 24, 25], [0, 1, 2, 3, 4, 5, 6, 7, 8, 9, 10, 11, 12, 13, 14, 15, 16, 17, 18, 19, 20, 21, 22, 23, 24, 25, 26], [0, 1, 2, 3, 4, 5, 6, 7, 8, 9, 10, 11, 12, 13, 14, 15, 16, 17, 18, 19, 20, 21, 22, 23, 24, 25, 26, 27], [0, 1, 2, 3, 4, 5, 6, 7, 8, 9, 10, 11, 12, 13, 14, 15, 16, 17, 18, 19, 20, 21, 22, 23, 24, 25, 26, 27, 28], [0, 1, 2, 3, 4, 5, 6, 7, 8, 9, 10, 11, 12, 13, 14, 15, 16, 17, 18, 19, 20, 21, 22, 23, 24, 25, 26, 27, 28, 29], [0, 1, 2, 3, 4, 5, 6, 7, 8, 9, 10, 11, 12, 13, 14, 15, 16, 17, 18, 19, 20, 21, 22, 23, 24, 25, 26, 27, 28, 29, 30], [0, 1, 2, 3, 4, 5, 6, 7, 8, 9, 10, 11, 12, 13, 14, 15, 16, 17, 18, 19, 20, 21, 22, 23, 24, 25, 26, 27, 28, 29, 30, 31], [0, 1, 2, 3, 4, 5, 6, 7, 8, 9, 10, 11, 12, 13, 14, 15, 16, 17, 18, 19, 20, 21, 22, 23, 24, 25, 26, 27, 28, 29, 30], [0, 1, 2, 3, 4, 5, 6, 7, 8, 9, 10, 11, 12, 13, 14, 15, 16, 17, 18, 19, 20, 21, 22, 23, 24, 25, 26, 27, 28, 29, 30, 31, 32, 33], [0, 1, 2, 3, 4, 5, 6, 7, 8, 9, 10, 11, 12, 13, 14, 15, 16, 17, 18, 19, 20, 21, 22, 23, 24, 25, 26, 27, 28, 29, 30, 31, 32, 33, 34], [0, 1, 2, 3, 4, 5, 6, 7, 8, 9, 10, 11, 12, 13, 14, 15, 16, 17, 18, 19, 20, 21, 22, 23, 24, 25, 26, 27, 28, 29, 30, 31, 32, 33, 34, 35], [0, 1, 2, 3, 4, 5, 6, 7, 8, 9, 10, 11, 12, 13, 14, 15, 16, 17, 18, 19, 20, 21, 22, 23, 24, 25, 26, 27, 28, 29, 30, 31, 32, 33, 34, 35, 36], [0, 1, 2, 3, 4, 5, 6, 7, 8, 9, 10, 11, 12, 13, 14, 15, 16, 17, 18, 19, 20, 21, 22, 23, 24, 25, 26, 27, 28, 29, 30, 31, 32, 33, 34, 35, 36, 37], [0, 1, 2, 3, 4, 5, 6, 7, 8, 9, 10, 11, 12, 13, 14, 15, 16, 17, 18, 19, 20, 21, 22, 23, 24, 25, 26, 27, 28, 29, 30, 31, 32, 33, 34, 35, 36, 37, 38], [0, 1, 2, 3, 4, 5, 6, 7, 8, 9, 10, 11, 12, 13, 14, 15, 16, 17, 18, 19, 20, 21, 22, 23, 24, 25, 26, 27, 28, 29, 30, 31, 32, 33, 34, 35, 36, 37, 38, 39]] [36, 37, 38, 39, 40, 41, 42, 43, 44, 45, 46, 47, 48, 49, 50, 51, 52, 53, 54, 55, 56, 57, 58, 59, 60, 61, 62, 63, 64, 65, 66, 67, 68, 69, 70, 71, 72, 73, 74, 75, 76] Ext.refl (fun _ _ _ => Ext.trans) (Ext.drew _) (by kernel_rfl) ?_
     apply bd 36 k rfl rfl rfl
     case h =>
      intro ax wx hE hR hF
      exact Z04 rfl (hE.g e3)
     apply bd 37 k rfl rfl rfl
     case h =>
      intro ax wx hE hR hF
      have e36 := zhF hF 0 36 ml0
      exact Z06 (Z17 rfl e36 rfl) (decide_eq_false (by omega))
     apply bd 38 k rfl rfl rfl
     case h =>
      intro ax wx hE hR hF
      have e37 := zhF hF 1 37 ml0
      exact Z04 rfl e37
     refine Build.skip 39 (by rfl) (by rw [k.size]; rfl) rfl rfl ?_ ?_
     · intro ax wx hE hR hF
       have e38 := zhF hF 2 38 ml0
       exact e38
     refine Build.skip 40 (by rfl) (by rw [k.size]; rfl) rfl rfl ?_ ?_
     · intro ax wx hE hR hF
       have e38 := zhF hF 2 38 ml1
       exact e38
     refine Build.skip 41 (by rfl) (by rw [k.size]; rfl) rfl rfl ?_ ?_
     · intro ax wx hE hR hF
       have e38 := zhF hF 2 38 ml2
       exact e38
     refine Build.skip 42 (by rfl) (by rw [k.size]; rfl) rfl rfl ?_ ?_
     · intro ax wx hE hR hF
       have e38 := zhF hF 2 38 ml3
       exact e38
     refine Build.skip 43 (by rfl) (by rw [k.size]; rfl) rfl rfl ?_ ?_
     · intro ax wx hE hR hF
       have e38 := zhF hF 2 38 ml4
       exact e38
     refine Build.skip 44 (by rfl) (by rw [k.size]; rfl) rfl rfl ?_ ?_
     · intro ax wx hE hR hF
       have e38 := zhF hF 2 38 ml5
       exact e38
     refine Build.skip 45 (by rfl) (by rw [k.size]; rfl) rfl rfl ?_ ?_
     · intro ax wx hE hR hF
       have e38 := zhF hF 2 38 ml6
       exact e38
     refine Build.skip 46 (by rfl) (by rw [k.size]; rfl) rfl rfl ?_ ?_
     · intro ax wx hE hR hF
       have e38 := zhF hF 2 38 ml7
       exact e38
     refine Build.skip 47 (by rfl) (by rw [k.size]; rfl) rfl rfl ?_ ?_
     · intro ax wx hE hR hF
       have e38 := zhF hF 2 38 ml8
       exact e38
     refine Build.skip 48 (by rfl) (by rw [k.size]; rfl) rfl rfl ?_ ?_
     · intro ax wx hE hR hF
       have e38 := zhF hF 2 38 ml9
       exact e38
     refine Build.skip 49 (by rfl) (by rw [k.size]; rfl) rfl rfl ?_ ?_
     · intro ax wx hE hR hF
       have e38 := zhF hF 2 38 ml10
       exact e38
     refine Build.skip 50 (by rfl) (by rw [k.size]; rfl) rfl rfl ?_ ?_
     · intro ax wx hE hR hF
       have e38 := zhF hF 2 38 ml11
       exact e38
     refine Build.skip 51 (by rfl) (by rw [k.size]; rfl) rfl rfl ?_ ?_
     · intro ax wx hE hR hF
       have e38 := zhF hF 2 38 ml12
       exact e38
     refine Build.skip 52 (by rfl) (by rw [k.size]; rfl) rfl rfl ?_ ?_
     · intro ax wx hE hR hF
       have e38 := zhF hF 2 38 ml13
       exact e38
     apply bd 53 k rfl rfl rfl
     case h =>
      intro ax wx hE hR hF
      have e38 := zhF hF 2 38 ml14
      have e52 := zhF hF 16 52 ml0
      exact Z05 rfl e38 rfl
     apply bd 54 k rfl rfl rfl
     case h =>
      intro ax wx hE hR hF
      have e53 := zhF hF 17 53 ml0
      exact Z04 rfl e53
     apply bdg 55 k rfl rfl rfl rfl
     case h =>
      intro ax wx hE hR hF
      have e54 := zhF hF 18 54 ml0
      refine ⟨e54, ?_⟩
      simp [go_sem, ↓IntWalk.iteOmega, ev (hE.g e1)]
      with_reducible rfl
     apply bdg 56 k rfl rfl rfl rfl
     case h =>
      intro ax wx hE hR hF
      have e55 := zhF hF 19 55 ml0
      have e54 := zhF hF 18 54 ml1
      refine ⟨e54, ?_⟩
      have q0 : wx.cell? ⟨lb, 0, none⟩ = some (.int .i64 0) := (OwnT.blk (OwnT.ext O hR) 0 rfl).cell 0
      simp [go_sem, ↓IntWalk.iteOmega, ev e55, q0]
      with_reducible rfl
     apply bdg 57 k rfl rfl rfl rfl
     case h =>
      intro ax wx hE hR hF
      have e56 := zhF hF 20 56 ml0
      have e54 := zhF hF 18 54 ml2
      refine ⟨e54, ?_⟩
      exact Z17 rfl e56 rfl
     apply bdg 58 k rfl rfl rfl rfl
     case h =>
      intro ax wx hE hR hF
      have e57 := zhF hF 21 57 ml0
      have e54 := zhF hF 18 54 ml3
      refine ⟨e54, ?_⟩
      exact Z04 rfl e57
     refine Build.skip 59 (by rfl) (by rw [k.size]; rfl) rfl rfl ?_ ?_
     · intro ax wx hE hR hF
       have e58 := zhF hF 22 58 ml0
       exact e58
     refine Build.skip 60 (by rfl) (by rw [k.size]; rfl) rfl rfl ?_ ?_
     · intro ax wx hE hR hF
       have e58 := zhF hF 22 58 ml1
       exact e58
     refine Build.skip 61 (by rfl) (by rw [k.size]; rfl) rfl rfl ?_ ?_
     · intro ax wx hE hR hF
       have e58 := zhF hF 22 58 ml2
       exact e58
     refine Build.skip 62 (by rfl) (by rw [k.size]; rfl) rfl rfl ?_ ?_
     · intro ax wx hE hR hF
       have e58 := zhF hF 22 58 ml3
       exact e58
     refine Build.skip 63 (by rfl) (by rw [k.size]; rfl) rfl rfl ?_ ?_
     · intro ax wx hE hR hF
       have e58 := zhF hF 22 58 ml4
       exact e58
     refine Build.skip 64 (by rfl) (by rw [k.size]; rfl) rfl rfl ?_ ?_
     · intro ax wx hE hR hF
       have e58 := zhF hF 22 58 ml5
       exact e58
     refine Build.skip 65 (by rfl) (by rw [k.size]; rfl) rfl rfl ?_ ?_
     · intro ax wx hE hR hF
       have e58 := zhF hF 22 58 ml6
       exact e58
     refine Build.skip 66 (by rfl) (by rw [k.size]; rfl) rfl rfl ?_ ?_
     · intro ax wx hE hR hF
       have e58 := zhF hF 22 58 ml7
       exact e58
     refine Build.skipu 67 (by rfl) (by rw [k.size]; rfl) rfl rfl ?_ ?_
     · intro ax wx hE hR hF
       have e66 := zhF hF 30 66 ml0
       exact e66
     refine Build.skipu 68 (by rfl) (by rw [k.size]; rfl) rfl rfl ?_ ?_
     · intro ax wx hE hR hF
       have e66 := zhF hF 30 66 ml1
       exact e66
     refine Build.skipu 69 (by rfl) (by rw [k.size]; rfl) rfl rfl ?_ ?_
     · intro ax wx hE hR hF
       have e66 := zhF hF 30 66 ml2
       exact e66
     refine Build.skipu 70 (by rfl) (by rw [k.size]; rfl) rfl rfl ?_ ?_
     · intro ax wx hE hR hF
       have e66 := zhF hF 30 66 ml3
       exact e66
     refine Build.skipu 71 (by rfl) (by rw [k.size]; rfl) rfl rfl ?_ ?_
     · intro ax wx hE hR hF
       have e66 := zhF hF 30 66 ml4
       exact e66
     refine Build.skipu 72 (by rfl) (by rw [k.size]; rfl) rfl rfl ?_ ?_
     · intro ax wx hE hR hF
       have e66 := zhF hF 30 66 ml5
       exact e66
     refine Build.skipu 73 (by rfl) (by rw [k.size]; rfl) rfl rfl ?_ ?_
     · intro ax wx hE hR hF
       have e66 := zhF hF 30 66 ml6
       exact e66
     refine Build.skip 74 (by rfl) (by rw [k.size]; rfl) rfl rfl ?_ ?_
     · intro ax wx hE hR hF
       have e58 := zhF hF 22 58 ml15
       exact e58
     apply bdg 75 k rfl rfl rfl rfl
     case h =>
      intro ax wx hE hR hF
      have e58 := zhF hF 22 58 ml16
      have e74 := zhF hF 38 74 ml0
      have e54 := zhF hF 18 54 ml20
      refine ⟨e54, ?_⟩
      exact Z05 rfl e58 rfl
     apply bd 76 k rfl rfl rfl
     case h =>
      intro ax wx hE hR hF
      have e54 := zhF hF 18 54 ml21
      have e75 := zhF hF 39 75 ml0
      exact Z05 rfl e54 e75
     apply Build.stop
     refine ⟨by kernel_rfl, .inl ⟨rfl, ?_⟩⟩
     intro a38 w39 hE R hF
     have e76 : a38.eval (.tmp 76) = _ := hF 40 (det 76 _) ml0
     clear hF
     replace O := OwnT.ext O R
     clear R
     replace e1 := hE.g e1; replace e3 := hE.g e3
     replace k := k.env hE
     clear hE e33
     refine Z01 ?_
     refine Z08 e76 rfl ?_
     refine wp_skip ?_
     refine Z0f ?_
     refine Z01 ?_
     refine wp_region_lit ?_
     have hE := Env.refl a38 [34, 35, 3]
     refine sd 34 hE k (Z04 rfl e3) ?_
     intro a40 hE e34 kp
     replace e3 := kt kp e3
     refine sd 35 hE k (Z0v rfl e34 rfl (by omega)) ?_
     intro a41 hE e35 kp
     replace e3 := kt kp e3
     refine sd 3 hE k (Z00 rfl e35) ?_
     intro a42 hE e3 kp
     refine wpList_nil ?_
     replace e1 := hE.g e1
     replace k := k.env hE
     clear hE e76
     refine Z01 ?_
     refine ⟨⟨k, e1, i + 1, e3, by omega, O⟩, ?_⟩
     rw [e3, mi]; simp only [intOf]; omega
   · obtain ⟨p, hp⟩ : ∃ p, p + 1 = i := ⟨i - 1, by omega⟩
     obtain ⟨z, hz⟩ : ∃ z, xs[p]? = some z := ⟨_, List.getElem?_eq_getElem (by omega)⟩
     have hlt2 : z.1 < y.1 := by
      obtain ⟨a1, rfl⟩ := List.getElem?_eq_some_iff.1 hz
      obtain ⟨a2, rfl⟩ := List.getElem?_eq_some_iff.1 hy
      exact List.pairwise_iff_getElem.1 hu p i a1 a2 (by omega)
     have hpI : (p : Int) < (xs.length : Int) := by omega

     refine wp_seq ?_
     refine Z0c (R := Ext) (w0 := w32) [[], [0], [0, 1], [0, 1, 2], [0, 1, 2, 3], [0, 1, 2], [0, 1, 2, 5], [0, 1, 2, 3, 4, 5, 6], [0, 1, 2, 3, 4, 5, 6, 7], [0, 1, 2, 3, 4, 5, 6, 7, 8], [0, 1, 2], [0, 1, 2, 10], [0, 1, 2], [0, 1, 2, 10, 11, 12], [0, 1, 2, 10, 11, 12, 13], [0, 1, 2, 10, 11, 12, 13, 14], [0, 1, 2, 3, 4, 5, 6, 7, 8, 9, 10, 11, 12, 13, 14, 15], [0, 1, 2, 3, 4, 5, 6, 7, 8, 9, 10, 11, 12, 13, 14, 15, 16], [0, 1, 2, 3, 4, 5, 6, 7, 8, 9, 10, 11, 12, 13, 14, 15, 16, 17], [0, 1, 2, 3, 4, 5, 6, 7, 8, 9, 10, 11, 12, 13, 14, 15, 16, 17, 18], [0, 1, 2, 3, 4, 5, 6, 7, 8, 9, 10, 11, 12, 13, 14, 15, 16, 17, 18, 19], [0, 1, 2, 3, 4, 5, 6, 7, 8, 9, 10, 11, 12, 13, 14, 15, 16, 17, 18, 19, 20], [0, 1, 2, 3, 4, 5, 6, 7, 8, 9, 10, 11, 12, 13, 14, 15, 16, 17, 18, 19, 20, 21], [0, 1, 2, 3, 4, 5, 6, 7, 8, 9, 10, 11, 12, 13, 14, 15, 16, 17, 18, 19, 20, 21, 22], [0, 1, 2, 3, 4, 5, 6, 7, 8, 9, 10, 11, 12, 13, 14, 15, 16, 17, 18, 19, 20, 21, 22, 23], [0, 1, 2, 3, 4, 5, 6, 7, 8, 9, 10, 11, 12, 13, 14, 15, 16, 17, 18, 19, 20, 21, 22], [0, 1, 2, 3, 4, 5, 6, 7, 8, 9, 10, 11, 12, 13, 14, 15, 16, 17, 18, 19, 20, 21, 22, 23, 24, 25], [0, 1, 2, 3, 4, 5, 6, 7, 8, 9, 10, 11, 12, 13, 14, 15, 16, 17, 18, 19, 20, 21, 22, 23, 24, 25, 26], [0, 1, 2, 3, 4, 5, 6, 7, 8, 9, 10, 11, 12, 13, 14, 15, 16, 17, 18, 19, 20, 21, 22, 23, 24, 25, 26, 27], [0, 1, 2, 3, 4, 5, 6, 7, 8, 9, 10, 11, 12, 13, 14, 15, 16, 17, 18, 19, 20, 21, 22, 23, 24, 25, 26, 27, 28], [0, 1, 2, 3, 4, 5, 6, 7, 8, 9, 10, 11, 12, 13, 14, 15, 16, 17, 18, 19, 20, 21, 22, 23, 24, 25, 26, 27, 28, 29], [0, 1, 2, 3, 4, 5, 6, 7, 8, 9, 10, 11, 12, 13, 14, 15, 16, 17, 18, 19, 20, 21, 22, 23, 24, 25, 26, 27, 28, 29, 30], [0, 1, 2, 3, 4, 5, 6, 7, 8, 9, 10, 11, 12, 13, 14, 15, 16, 17, 18, 19, 20, 21, 22, 23, 24, 25, 26, 27, 28, 29, 30, 31], [0, 1, 2, 3, 4, 5, 6, 7, 8, 9, 10, 11, 12, 13, 14, 15, 16, 17, 18, 19, 20, 21, 22, 23, 24, 25, 26, 27, 28, 29, 30], [0, 1, 2, 3, 4, 5, 6, 7, 8, 9, 10, 11, 12, 13, 14, 15, 16, 17, 18, 19, 20, 21, 22, 23, 24, 25, 26, 27, 28, 29, 30, 31, 32, 33], [0, 1, 2, 3, 4, 5, 6, 7, 8, 9, 10, 11, 12, 13, 14, 15, 16, 17, 18, 19, 20, 21, 22, 23, 24, 25, 26, 27, 28, 29, 30, 31, 32, 33, 34], [0, 1, 2, 3, 4, 5, 6, 7, 8, 9, 10, 11, 12, 13, 14, 15, 16, 17, 18, 19, 20, 21, 22, 23, 24, 25, 26, 27, 28, 29, 30, 31, 32, 33, 34, 35], [0, 1, 2, 3, 4, 5, 6, 7, 8, 9, 10, 11, 12, 13, 14, 15, 16, 17, 18, 19, 20, 21, 22, 23, 24, 25, 26, 27, 28, 29, 30, 31, 32, 33, 34, 35, 36], [0, 1, 2, 3, 4, 5, 6, 7, 8, 9, 10, 11, 12, 13, 14, 15, 16, 17, 18, 19, 20, 21, 22, 23, 24, 25, 26, 27, 28, 29, 30, 31, 32, 33, 34, 35, 36, 37], [0, 1, 2, 3, 4, 5, 6, 7, 8, 9, 10, 11, 12, 13, 14, 15, 16, 17, 18, 19, 20, 21, 22, 23, 24, 25, 26, 27, 28, 29, 30, 31, 32, 33, 34, 35, 36, 37, 38], [0, 1, 2, 3, 4, 5, 6, 7, 8, 9, 10, 11, 12, 13, 14, 15, 16, 17, 18, 19, 20, 21, 22, 23, 24, 25, 26, 27, 28, 29, 30, 31, 32, 33, 34, 35, 36, 37, 38, 39]] [36, 37, 38, 39, 40, 41, 42, 43, 44, 45, 46, 47, 48, 49, 50, 51, 52, 53, 54, 55, 56, 57, 58, 59, 60, 61, 62, 63, 64, 65, 66, 67, 68, 69, 70, 71, 72, 73, 74, 75, 76] Ext.refl (fun _ _ _ => Ext.trans) (Ext.drew _) (by kernel_rfl) ?_
     apply bd 36 k rfl rfl rfl
     case h =>
      intro ax wx hE hR hF
      exact Z04 rfl (hE.g e3)
     apply bd 37 k rfl rfl rfl
     case h =>
      intro ax wx hE hR hF
      have e36 := zhF hF 0 36 ml0
      exact Z06 (Z17 rfl e36 rfl) (decide_eq_true (by omega))
     apply bd 38 k rfl rfl rfl
     case h =>
      intro ax wx hE hR hF
      have e37 := zhF hF 1 37 ml0
      exact Z04 rfl e37
     apply bdg 39 k rfl rfl rfl rfl
     case h =>
      intro ax wx hE hR hF
      have e38 := zhF hF 2 38 ml0
      refine ⟨e38, ?_⟩
      simp [go_sem, ↓IntWalk.iteOmega, ev (hE.g e1)]
      with_reducible rfl
     apply bdg 40 k rfl rfl rfl rfl
     case h =>
      intro ax wx hE hR hF
      have e39 := zhF hF 3 39 ml0
      have e38 := zhF hF 2 38 ml1
      refine ⟨e38, ?_⟩
      have q0 : wx.cell? ⟨lb, 1, none⟩ = some (.slice (some ⟨gv, o, none⟩) xs.length cap) := (OwnT.blk (OwnT.ext O hR) 0 rfl).cell 1
      simp [go_sem, ↓IntWalk.iteOmega, ev e39, q0]
      with_reducible rfl
     apply bdg 41 k rfl rfl rfl rfl
     case h =>
      intro ax wx hE hR hF
      have e38 := zhF hF 2 38 ml2
      refine ⟨e38, ?_⟩
      exact Z04 rfl (hE.g e3)
     apply bdg 42 k rfl rfl rfl rfl
     case h =>
      intro ax wx hE hR hF
      have e41 := zhF hF 5 41 ml0
      have e38 := zhF hF 2 38 ml3
      refine ⟨e38, ?_⟩
      exact Z1b (v := .int .i64 (p : Int)) (Z2l rfl e41 rfl (by omega)) (Z0u (by omega))
     apply bdg 43 k rfl rfl rfl rfl
     case h =>
      intro ax wx hE hR hF
      have e40 := zhF hF 4 40 ml2
      have e42 := zhF hF 6 42 ml0
      have e38 := zhF hF 2 38 ml4
      refine ⟨e38, ?_⟩
      simp [go_sem, ↓IntWalk.iteOmega, ev e40, ev e42]
      with_reducible rfl
     apply bdg 44 k rfl rfl rfl rfl
     case h =>
      intro ax wx hE hR hF
      have e43 := zhF hF 7 43 ml0
      have e38 := zhF hF 2 38 ml5
      refine ⟨e38, ?_⟩
      simp [go_sem, ↓IntWalk.iteOmega, ev e43]
      with_reducible rfl
     apply bdg 45 k rfl rfl rfl rfl
     case h =>
      intro ax wx hE hR hF
      have e44 := zhF hF 8 44 ml0
      have e38 := zhF hF 2 38 ml6
      refine ⟨e38, ?_⟩
      obtain ⟨_, _, e, d0, d1⟩ := Z1q hrow (OwnT.ext O hR).below hz; injection e with e; injection e with e e'; subst e e'
      simp [go_sem, ↓IntWalk.iteOmega, ev e44, d0]
      with_reducible rfl
     apply bdg 46 k rfl rfl rfl rfl
     case h =>
      intro ax wx hE hR hF
      have e38 := zhF hF 2 38 ml7
      refine ⟨e38, ?_⟩
      simp [go_sem, ↓IntWalk.iteOmega, ev (hE.g e1)]
      with_reducible rfl
     apply bdg 47 k rfl rfl rfl rfl
     case h =>
      intro ax wx hE hR hF
      have e46 := zhF hF 10 46 ml0
      have e38 := zhF hF 2 38 ml8
      refine ⟨e38, ?_⟩
      have q0 : wx.cell? ⟨lb, 1, none⟩ = some (.slice (some ⟨gv, o, none⟩) xs.length cap) := (OwnT.blk (OwnT.ext O hR) 0 rfl).cell 1
      simp [go_sem, ↓IntWalk.iteOmega, ev e46, q0]
      with_reducible rfl
     apply bdg 48 k rfl rfl rfl rfl
     case h =>
      intro ax wx hE hR hF
      have e38 := zhF hF 2 38 ml9
      refine ⟨e38, ?_⟩
      exact Z04 rfl (hE.g e3)
     apply bdg 49 k rfl rfl rfl rfl
     case h =>
      intro ax wx hE hR hF
      have e47 := zhF hF 11 47 ml1
      have e48 := zhF hF 12 48 ml0
      have e38 := zhF hF 2 38 ml10
      refine ⟨e38, ?_⟩
      simp [go_sem, ↓IntWalk.iteOmega, ev e47, ev e48]
      with_reducible rfl
     apply bdg 50 k rfl rfl rfl rfl
     case h =>
      intro ax wx hE hR hF
      have e49 := zhF hF 13 49 ml0
      have e38 := zhF hF 2 38 ml11
      refine ⟨e38, ?_⟩
      simp [go_sem, ↓IntWalk.iteOmega, ev e49]
      with_reducible rfl
     apply bdg 51 k rfl rfl rfl rfl
     case h =>
      intro ax wx hE hR hF
      have e50 := zhF hF 14 50 ml0
      have e38 := zhF hF 2 38 ml12
      refine ⟨e38, ?_⟩
      obtain ⟨_, _, e, d0, d1⟩ := Z1q hrow (OwnT.ext O hR).below hy; injection e with e; injection e with e e'; subst e e'
      simp [go_sem, ↓IntWalk.iteOmega, ev e50, d0]
      with_reducible rfl
     apply bdg 52 k rfl rfl rfl rfl
     case h =>
      intro ax wx hE hR hF
      have e45 := zhF hF 9 45 ml6
      have e51 := zhF hF 15 51 ml0
      have e38 := zhF hF 2 38 ml13
      refine ⟨e38, ?_⟩
      exact Z06 (Z29 rfl e45 e51) (decide_eq_false (by omega))
     apply bd 53 k rfl rfl rfl
     case h =>
      intro ax wx hE hR hF
      have e38 := zhF hF 2 38 ml14
      have e52 := zhF hF 16 52 ml0
      exact Z0a rfl e38 e52
     apply bd 54 k rfl rfl rfl
     case h =>
      intro ax wx hE hR hF
      have e53 := zhF hF 17 53 ml0
      exact Z04 rfl e53
     apply bdg 55 k rfl rfl rfl rfl
     case h =>
      intro ax wx hE hR hF
      have e54 := zhF hF 18 54 ml0
      refine ⟨e54, ?_⟩
      simp [go_sem, ↓IntWalk.iteOmega, ev (hE.g e1)]
      with_reducible rfl
     apply bdg 56 k rfl rfl rfl rfl
     case h =>
      intro ax wx hE hR hF
      have e55 := zhF hF 19 55 ml0
      have e54 := zhF hF 18 54 ml1
      refine ⟨e54, ?_⟩
      have q0 : wx.cell? ⟨lb, 0, none⟩ = some (.int .i64 0) := (OwnT.blk (OwnT.ext O hR) 0 rfl).cell 0
      simp [go_sem, ↓IntWalk.iteOmega, ev e55, q0]
      with_reducible rfl
     apply bdg 57 k rfl rfl rfl rfl
     case h =>
      intro ax wx hE hR hF
      have e56 := zhF hF 20 56 ml0
      have e54 := zhF hF 18 54 ml2
      refine ⟨e54, ?_⟩
      exact Z17 rfl e56 rfl
     apply bdg 58 k rfl rfl rfl rfl
     case h =>
      intro ax wx hE hR hF
      have e57 := zhF hF 21 57 ml0
      have e54 := zhF hF 18 54 ml3
      refine ⟨e54, ?_⟩
      exact Z04 rfl e57
     refine Build.skip 59 (by rfl) (by rw [k.size]; rfl) rfl rfl ?_ ?_
     · intro ax wx hE hR hF
       have e58 := zhF hF 22 58 ml0
       exact e58
     refine Build.skip 60 (by rfl) (by rw [k.size]; rfl) rfl rfl ?_ ?_
     · intro ax wx hE hR hF
       have e58 := zhF hF 22 58 ml1
       exact e58
     refine Build.skip 61 (by rfl) (by rw [k.size]; rfl) rfl rfl ?_ ?_
     · intro ax wx hE hR hF
       have e58 := zhF hF 22 58 ml2
       exact e58
     refine Build.skip 62 (by rfl) (by rw [k.size]; rfl) rfl rfl ?_ ?_
     · intro ax wx hE hR hF
       have e58 := zhF hF 22 58 ml3
       exact e58
     refine Build.skip 63 (by rfl) (by rw [k.size]; rfl) rfl rfl ?_ ?_
     · intro ax wx hE hR hF
       have e58 := zhF hF 22 58 ml4
       exact e58
     refine Build.skip 64 (by rfl) (by rw [k.size]; rfl) rfl rfl ?_ ?_
     · intro ax wx hE hR hF
       have e58 := zhF hF 22 58 ml5
       exact e58
     refine Build.skip 65 (by rfl) (by rw [k.size]; rfl) rfl rfl ?_ ?_
     · intro ax wx hE hR hF
       have e58 := zhF hF 22 58 ml6
       exact e58
     refine Build.skip 66 (by rfl) (by rw [k.size]; rfl) rfl rfl ?_ ?_
     · intro ax wx hE hR hF
       have e58 := zhF hF 22 58 ml7
       exact e58
     refine Build.skipu 67 (by rfl) (by rw [k.size]; rfl) rfl rfl ?_ ?_
     · intro ax wx hE hR hF
       have e66 := zhF hF 30 66 ml0
       exact e66
     refine Build.skipu 68 (by rfl) (by rw [k.size]; rfl) rfl rfl ?_ ?_
     · intro ax wx hE hR hF
       have e66 := zhF hF 30 66 ml1
       exact e66
     refine Build.skipu 69 (by rfl) (by rw [k.size]; rfl) rfl rfl ?_ ?_
     · intro ax wx hE hR hF
       have e66 := zhF hF 30 66 ml2
       exact e66
     refine Build.skipu 70 (by rfl) (by rw [k.size]; rfl) rfl rfl ?_ ?_
     · intro ax wx hE hR hF
       have e66 := zhF hF 30 66 ml3
       exact e66
     refine Build.skipu 71 (by rfl) (by rw [k.size]; rfl) rfl rfl ?_ ?_
     · intro ax wx hE hR hF
       have e66 := zhF hF 30 66 ml4
       exact e66
     refine Build.skipu 72 (by rfl) (by rw [k.size]; rfl) rfl rfl ?_ ?_
     · intro ax wx hE hR hF
       have e66 := zhF hF 30 66 ml5
       exact e66
     refine Build.skipu 73 (by rfl) (by rw [k.size]; rfl) rfl rfl ?_ ?_
     · intro ax wx hE hR hF
       have e66 := zhF hF 30 66 ml6
       exact e66
     refine Build.skip 74 (by rfl) (by rw [k.size]; rfl) rfl rfl ?_ ?_
     · intro ax wx hE hR hF
       have e58 := zhF hF 22 58 ml15
       exact e58
     apply bdg 75 k rfl rfl rfl rfl
     case h =>
      intro ax wx hE hR hF
      have e58 := zhF hF 22 58 ml16
      have e74 := zhF hF 38 74 ml0
      have e54 := zhF hF 18 54 ml20
      refine ⟨e54, ?_⟩
      exact Z05 rfl e58 rfl
     apply bd 76 k rfl rfl rfl
     case h =>
      intro ax wx hE hR hF
      have e54 := zhF hF 18 54 ml21
      have e75 := zhF hF 39 75 ml0
      exact Z05 rfl e54 e75
     apply Build.stop
     refine ⟨by kernel_rfl, .inl ⟨rfl, ?_⟩⟩
     intro a43 w44 hE R hF
     have e76 : a43.eval (.tmp 76) = _ := hF 40 (det 76 _) ml0
     clear hF
     replace O := OwnT.ext O R
     clear R
     replace e1 := hE.g e1; replace e3 := hE.g e3
     replace k := k.env hE
     clear hE e33
     refine Z01 ?_
     refine Z08 e76 rfl ?_
     refine wp_skip ?_
     refine Z0f ?_
     refine Z01 ?_
     refine wp_region_lit ?_
     have hE := Env.refl a43 [34, 35, 3]
     refine sd 34 hE k (Z04 rfl e3) ?_
     intro a45 hE e34 kp
     replace e3 := kt kp e3
     refine sd 35 hE k (Z0v rfl e34 rfl (by omega)) ?_
     intro a46 hE e35 kp
     replace e3 := kt kp e3
     refine sd 3 hE k (Z00 rfl e35) ?_
     intro a47 hE e3 kp
     refine wpList_nil ?_
     replace e1 := hE.g e1
     replace k := k.env hE
     clear hE e76
     refine Z01 ?_
     refine ⟨⟨k, e1, i + 1, e3, by omega, O⟩, ?_⟩
     rw [e3, mi]; simp only [intOf]; omega
 · skip
   refine wp_seq ?_
   refine wp_seq ?_
   refine wp_region_lit ?_
   have hE := Env.refl a31 [29, 30, 31, 32, 33]
   refine sm 29 hE k e3 ?_
   intro a48 hE e29 kp
   apply Z03 30 hE k rfl rfl rfl rfl
   case h =>
    simp [go_sem, ↓IntWalk.iteOmega, ev (hE.g e1)]
    with_reducible rfl
   intro a49 hE e30 kp
   replace e29 := kt kp e29
   apply Z03 31 hE k rfl rfl rfl rfl
   case h =>
    have q0 : w32.cell? ⟨lb, 1, none⟩ = some (.slice (some ⟨gv, o, none⟩) xs.length cap) := (OwnT.blk O 0 rfl).cell 1
    simp [go_sem, ↓IntWalk.iteOmega, ev e30, q0]
    with_reducible rfl
   intro a50 hE e31 kp
   replace e29 := kt kp e29
   refine sd 32 hE k (Z0d Try.underlying29 rfl e31) ?_
   intro a51 hE e32 kp
   replace e29 := kt kp e29
   refine sd 33 hE k (Z06 (Z0r rfl e29 e32) (decide_eq_false (by omega))) ?_
   intro a52 hE e33 kp
   refine wpList_nil ?_
   replace e1 := hE.g e1; replace e3 := hE.g e3
   replace k := k.env hE
   clear hE
   refine Z01 ?_
   refine Z08 e33 rfl ?_
   refine wp_exit ?_
   refine Z0q ?_
   refine Z0q ?_
   refine Z13 ?_
   refine Z01 (wp_seq ?_)
   refine wp_region_lit ?_
   have hE := Env.refl a52 [2]
   refine sd 2 hE k (Z00 rfl rfl) ?_
   intro a53 hE e2 kp
   refine wpList_nil ?_
   replace k := k.env hE
   clear hE e1 e3 e33
   refine Z01 ?_
   refine wp_ret ?_
   refine Z0w rfl k e2 ?_
   exact ⟨rfl, O.below⟩
/-- Sound nodes are good. -/
theorem Z36 {gv o cap l : Nat} {xs : List Pr} (W0 : World) (hrow : Row W0 (some ⟨gv, o, none⟩) 2 pairC xs) (hne : 0 < xs.length) (h15 : xs.length ≤ 15) (hu : Up xs) (h7 : l ≤ 7) (hv : 0 < l → ∀ y ∈ xs, 1 ≤ y.2 ∧ y.2 ≤ 511) : Calls Try.prog 87 #[.agg #[.int .i64 l, .slice (some ⟨gv, o, none⟩) xs.length cap]] W0 fun e w' => e = .returned (.bool true) ∧ Ext W0 w' := by
 cases l with
 | zero => exact rgood_z W0 hrow hne h15 hu
 | succ l => exact rgood_y W0 hrow hne h15 hu h7 (by omega) (hv (by omega))
set_option maxRecDepth 100000 in
set_option maxHeartbeats 4000000 in
theorem Z86 {B1 B2 : Option Addr} {n1 n2 c1 c2 : Nat} (ys : List Nat) (W0 : World) (hl1 : ys.length = n1) (hl2 : ys.length = n2) (hr1 : Row W0 B1 1 encN ys) (hr2 : Row W0 B2 1 encN ys) (hn : ys.length ≤ 1000000) : Calls Try.prog 26 #[.slice B1 n1 c1, .slice B2 n2 c2] W0 fun e w' => e = .returned (.bool true) ∧ Ext W0 w' := by
 have O := OwnT.start W0
 refine Z0e Try.func26 rfl 26 rfl (by rfl) ?_
 intro a1 k hargs
 have e0 : a1.eval (.tmp 0) = .slice B1 n1 c1 := hargs 0 _ rfl
 have e1 : a1.eval (.tmp 1) = .slice B2 n2 c2 := hargs 1 _ rfl
 clear hargs
 refine wp_seq ?_
 refine wp_region_lit ?_
 have hE := Env.refl a1 [4]
 refine sd 4 hE k (Z00 rfl rfl) ?_
 intro a2 hE e4 kp
 refine wpList_nil ?_
 replace e0 := hE.g e0; replace e1 := hE.g e1
 replace k := k.env hE
 clear hE e4
 refine Z01 (wp_seq ?_)
 refine wp_seq ?_
 refine wp_region_lit ?_
 have hE := Env.refl a2 [6, 7, 8, 9, 10]
 refine sm 6 hE k e0 ?_
 intro a3 hE e6 kp
 refine sd 7 hE k (Z0d Try.underlying51 rfl e6) ?_
 intro a4 hE e7 kp
 refine sm 8 hE k e1 ?_
 intro a5 hE e8 kp
 replace e7 := kt kp e7
 refine sd 9 hE k (Z0d Try.underlying51 rfl e8) ?_
 intro a6 hE e9 kp
 replace e7 := kt kp e7
 refine sd 10 hE k (Z06 (Z0j rfl e7 e9) (decide_eq_false (by omega))) ?_
 intro a7 hE e10 kp
 refine wpList_nil ?_
 replace e0 := hE.g e0; replace e1 := hE.g e1
 replace k := k.env hE
 clear hE
 refine Z01 ?_
 refine Z08 e10 rfl ?_
 refine wp_skip ?_
 refine Z01 (wp_seq ?_)
 refine wp_seq ?_
 refine wp_region_lit ?_
 have hE := Env.refl a7 [5]
 refine sd 5 hE k (Z00 rfl rfl) ?_
 intro a8 hE e5 kp
 refine wpList_nil ?_
 replace e0 := hE.g e0; replace e1 := hE.g e1
 replace k := k.env hE
 clear hE e10
 refine Z01 ?_
 refine wp_block ?_
 refine wp_loop (fun a w => Fr 26 a ∧ a.eval (.tmp 0) = .slice B1 n1 c1 ∧ a.eval (.tmp 1) = .slice B2 n2 c2 ∧ ∃ (z : Nat), a.eval (.tmp 5) = .int .i64 ↑z ∧ z ≤ n1 ∧ OwnT W0.heap.size W0 [] w) (fun a w => n1 - (intOf (a.eval (.tmp 5))).toNat) ?_ ?_
 · exact ⟨k, e0, e1, 0, e5, Nat.zero_le _, O⟩
 intro a9 w10 hI
 clear k e0 e1
 obtain ⟨k, e0, e1, h_⟩ := hI
 clear O e5
 obtain ⟨z, e5, hz, O⟩ := h_
 have mz := e5
 by_cases hlt : z < n1
 · have hzI : (z : Int) < (n1 : Int) := by omega
   have hzI2 : (z : Int) < (n2 : Int) := by omega
   obtain ⟨y, hy⟩ : ∃ y, ys[z]? = some y := ⟨_, List.getElem?_eq_getElem (by omega)⟩
   obtain ⟨b1, o1, rfl, -⟩ := Z31 hr1 O.below hy
   obtain ⟨b2, o2, rfl, -⟩ := Z31 hr2 O.below hy
   refine wp_seq ?_
   refine wp_seq ?_
   refine wp_region_lit ?_
   have hE := Env.refl a9 [11, 12, 13, 14]
   refine sm 11 hE k e5 ?_
   intro a11 hE e11 kp
   refine sm 12 hE k e0 ?_
   intro a12 hE e12 kp
   replace e11 := kt kp e11
   refine sd 13 hE k (Z0d Try.underlying51 rfl e12) ?_
   intro a13 hE e13 kp
   replace e11 := kt kp e11
   refine sd 14 hE k (Z06 (Z0r rfl e11 e13) (decide_eq_true (by omega))) ?_
   intro a14 hE e14 kp
   refine wpList_nil ?_
   replace e0 := hE.g e0; replace e1 := hE.g e1; replace e5 := hE.g e5
   replace k := k.env hE
   clear hE
   refine Z01 ?_
   refine Z0b e14 rfl ?_
   refine wp_skip ?_
   refine Z01 (wp_seq ?_)
   refine wp_block ?_
   refine wp_seq ?_
   refine Z0c (R := Ext) (w0 := w10) [[], [], [0, 1], [0, 1, 2], [], [], [4, 5], [4, 5, 6], [0, 1, 2, 3, 4, 5, 6, 7]] [17, 18, 19, 20, 21, 22, 23, 24, 25] Ext.refl (fun _ _ _ => Ext.trans) (Ext.drew _) (by kernel_rfl) ?_
   apply bd 17 k rfl rfl rfl
   case h =>
    intro ax wx hE hR hF
    exact Z04 rfl (hE.g e0)
   apply bd 18 k rfl rfl rfl
   case h =>
    intro ax wx hE hR hF
    exact Z04 rfl (hE.g e5)
   apply bd 19 k rfl rfl rfl
   case h =>
    intro ax wx hE hR hF
    have e17 := zhF hF 0 17 ml1
    have e18 := zhF hF 1 18 ml0
    simp [go_sem, ↓IntWalk.iteOmega, ev e17, ev e18]
    with_reducible rfl
   apply bd 20 k rfl rfl rfl
   case h =>
    intro ax wx hE hR hF
    have e19 := zhF hF 2 19 ml0
    obtain ⟨_, _, e, cz⟩ := Z31 hr1 (OwnT.ext O hR).below hy; injection e with e; injection e with e e'; subst e e'
    simp [go_sem, ↓IntWalk.iteOmega, ev e19, cz]
    with_reducible rfl
   apply bd 21 k rfl rfl rfl
   case h =>
    intro ax wx hE hR hF
    exact Z04 rfl (hE.g e1)
   apply bd 22 k rfl rfl rfl
   case h =>
    intro ax wx hE hR hF
    exact Z04 rfl (hE.g e5)
   apply bd 23 k rfl rfl rfl
   case h =>
    intro ax wx hE hR hF
    have e21 := zhF hF 4 21 ml1
    have e22 := zhF hF 5 22 ml0
    simp [go_sem, ↓IntWalk.iteOmega, ev e21, ev e22]
    with_reducible rfl
   apply bd 24 k rfl rfl rfl
   case h =>
    intro ax wx hE hR hF
    have e23 := zhF hF 6 23 ml0
    obtain ⟨_, _, e, cz⟩ := Z31 hr2 (OwnT.ext O hR).below hy; injection e with e; injection e with e e'; subst e e'
    simp [go_sem, ↓IntWalk.iteOmega, ev e23, cz]
    with_reducible rfl
   apply bd 25 k rfl rfl rfl
   case h =>
    intro ax wx hE hR hF
    have e20 := zhF hF 3 20 ml4
    have e24 := zhF hF 7 24 ml0
    exact Z06 (Z0j rfl e20 e24) (decide_eq_false (fun h => h rfl))
   apply Build.stop
   refine ⟨by kernel_rfl, .inl ⟨rfl, ?_⟩⟩
   intro a15 w16 hE R hF
   have e25 : a15.eval (.tmp 25) = _ := hF 8 (det 25 _) ml0
   clear hF
   replace O := OwnT.ext O R
   clear R
   replace e0 := hE.g e0; replace e1 := hE.g e1; replace e5 := hE.g e5
   replace k := k.env hE
   clear hE e14
   refine Z01 ?_
   refine Z08 e25 rfl ?_
   refine wp_skip ?_
   refine Z0f ?_
   refine Z01 ?_
   refine wp_region_lit ?_
   have hE := Env.refl a15 [15, 16, 5]
   refine sd 15 hE k (Z04 rfl e5) ?_
   intro a17 hE e15 kp
   replace e5 := kt kp e5
   refine sd 16 hE k (Z0v rfl e15 rfl (by omega)) ?_
   intro a18 hE e16 kp
   replace e5 := kt kp e5
   refine sd 5 hE k (Z00 rfl e16) ?_
   intro a19 hE e5 kp
   refine wpList_nil ?_
   replace e0 := hE.g e0; replace e1 := hE.g e1
   replace k := k.env hE
   clear hE e25
   refine Z01 ?_
   refine ⟨⟨k, e0, e1, z + 1, e5, by omega, O⟩, ?_⟩
   rw [e5, mz]; simp only [intOf]; omega
 · skip
   refine wp_seq ?_
   refine wp_seq ?_
   refine wp_region_lit ?_
   have hE := Env.refl a9 [11, 12, 13, 14]
   refine sm 11 hE k e5 ?_
   intro a20 hE e11 kp
   refine sm 12 hE k e0 ?_
   intro a21 hE e12 kp
   replace e11 := kt kp e11
   refine sd 13 hE k (Z0d Try.underlying51 rfl e12) ?_
   intro a22 hE e13 kp
   replace e11 := kt kp e11
   refine sd 14 hE k (Z06 (Z0r rfl e11 e13) (decide_eq_false (by omega))) ?_
   intro a23 hE e14 kp
   refine wpList_nil ?_
   replace e0 := hE.g e0; replace e1 := hE.g e1; replace e5 := hE.g e5
   replace k := k.env hE
   clear hE
   refine Z01 ?_
   refine Z08 e14 rfl ?_
   refine wp_exit ?_
   refine Z0q ?_
   refine Z0q ?_
   refine Z13 ?_
   refine Z01 (wp_seq ?_)
   refine wp_region_lit ?_
   have hE := Env.refl a23 [4]
   refine sd 4 hE k (Z00 rfl rfl) ?_
   intro a24 hE e4 kp
   refine wpList_nil ?_
   replace k := k.env hE
   clear hE e0 e1 e5 e14
   refine Z01 ?_
   refine wp_ret ?_
   refine Z0w rfl k e4 ?_
   exact ⟨rfl, O.below⟩
end Go.Proofs.Ytngehbhhpkkijaa
