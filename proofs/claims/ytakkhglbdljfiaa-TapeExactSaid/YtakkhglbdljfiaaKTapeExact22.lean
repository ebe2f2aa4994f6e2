/- tapes: the reference (printed by XTpF.gen.py). -/
import Derived.Test.YtakkhglbdljfiaaKTapeExact21
namespace Go.Proofs.Ytakkhglbdljfiaa
attribute [local simp] BigFrame.eval_const BigFrame.eval_global BigFrame.eval_func
set_option linter.unusedVariables false
set_option linter.unusedSimpArgs false
open Go.RowKit Go.Maps

set_option maxRecDepth 100000 in
set_option maxHeartbeats 4000000 in
theorem rsize39 (l : List UInt8) (W0 : World) (hl : l.length ≤ 1000000) : Calls Try.prog 17 #[.string (sB l)] W0 fun e w' => e = .returned (.int .i64 ((szT l : Nat) : Int)) ∧ W0 = w' := by
 refine Z0a Try.func17 rfl 8 rfl (by rfl) ?_
 intro a1 k hargs
 have e0 : a1.eval (.tmp 0) = .string (sB l) := hargs 0 _ rfl
 clear hargs
 refine wp_seq ?_
 refine wp_region_lit ?_
 have hE := Env.refl a1 [2]
 refine sd 2 hE k (Z01 rfl rfl) ?_
 intro a2 hE e2 kp
 refine wpList_nil ?_
 replace e0 := hE.g e0
 replace k := k.env hE
 clear hE e2
 refine Z00 (wp_seq ?_)
 refine wp_region_lit ?_
 have hE := Env.refl a2 [3, 4, 5, 6, 7, 2]
 refine zm 3 hE k e0 ?_
 intro a3 hE e3 kp
 refine sd 4 hE k (Z07 Try.underlying9 rfl e3) ?_
 intro a4 hE e4 kp
 refine sd 5 hE k (Z0r rfl e4 rfl (by omega)) ?_
 intro a5 hE e5 kp
 refine sd 6 hE k (Z0r rfl e5 rfl (by omega)) ?_
 intro a6 hE e6 kp
 replace e6 := e6.trans (Z0e (show (l.length : Int) + 10 + 15 = ((l.length + 25 : Nat) : Int) by omega))
 refine sd 7 hE k (Z1e (m := (l.length + 25)) (j := 16) rfl e6 rfl rfl (by decide) (by omega)) ?_
 intro a7 hE e7 kp
 refine sd 2 hE k (Z01 rfl e7) ?_
 intro a8 hE e2 kp
 refine wpList_nil ?_
 replace k := k.env hE
 clear hE e0
 refine Z00 ?_
 refine wp_ret ?_
 refine Z0f rfl k e2 ?_
 exact ⟨rfl, rfl⟩
set_option maxRecDepth 100000 in
set_option maxHeartbeats 4000000 in
theorem rbytes39 (q : Nat) (l : List UInt8) (W0 : World) (hk : q ≤ 1000000) (hl : l.length ≤ 60000) : Calls Try.prog 18 #[.int .i64 (q : Nat), .string (sB l)] W0 fun e w' => e = .returned (.string (sB (tapeL q l))) ∧ Ext W0 w' := by
 have O := OwnT.start W0
 obtain ⟨z, hz⟩ : ∃ z, 16 * szT l - (l.length + 10) = z := ⟨_, rfl⟩
 have hz2 : 16 * szT l = l.length + 10 + z := by unfold szT at hz ⊢; omega
 have hz3 : z < 16 := by unfold szT at hz2; omega
 have hhl := Z34 q l
 have hsl : (sealL (headT q l)).length = l.length + 10 := by rw [Z1d, hhl]

 refine Z0a Try.func18 rfl 24 rfl (by rfl) ?_
 intro a1 k hargs
 have e0 : a1.eval (.tmp 0) = .int .i64 ↑q := hargs 0 _ rfl
 have e1 : a1.eval (.tmp 1) = .string (sB l) := hargs 1 _ rfl
 clear hargs
 refine wp_seq ?_
 refine wp_region_lit ?_
 have hE := Env.refl a1 [4]
 refine sd 4 hE k (Z01 rfl rfl) ?_
 intro a2 hE e4 kp
 refine wpList_nil ?_
 replace e0 := hE.g e0; replace e1 := hE.g e1
 replace k := k.env hE
 clear hE e4
 refine Z00 (wp_seq ?_)
 refine wp_region_lit ?_
 have hE := Env.refl a2 [6, 7, 8, 9, 10, 11, 12, 13, 14, 15, 16, 5]
 refine zm 6 hE k e0 ?_
 intro a3 hE e6 kp
 refine sd 7 hE k (Z2o rfl e6 (Z4b q _ (by omega))) ?_
 intro a4 hE e7 kp
 apply Z06 8 hE k rfl (by rfl) (by rfl) rfl
 case h =>
  simp [go_sem, ↓IntWalk.iteOmega, ev e7]
  with_reducible exact ⟨rfl, rfl⟩
 case hc => exact Z5r q 4 _ (by omega) (by decide)
 rintro e w6 ⟨rfl, RE⟩
 replace O := OwnT.ext O RE
 refine ⟨_, rfl, ?_⟩
 intro a5 hE e8 kp
 refine zm 9 hE k e1 ?_
 intro a7 hE e9 kp
 replace e8 := kt kp e8
 refine sd 10 hE k (Z07 Try.underlying9 rfl e9) ?_
 intro a8 hE e10 kp
 replace e8 := kt kp e8
 refine sd 11 hE k (Z2o rfl e10 (Z4b l.length _ (by omega))) ?_
 intro a9 hE e11 kp
 replace e8 := kt kp e8
 apply Z06 12 hE k rfl (by rfl) (by rfl) rfl
 case h =>
  simp [go_sem, ↓IntWalk.iteOmega, ev e11]
  with_reducible exact ⟨rfl, rfl⟩
 case hc => exact Z5r l.length 2 _ (by omega) (by decide)
 rintro e w11 ⟨rfl, RE⟩
 replace O := OwnT.ext O RE
 refine ⟨_, rfl, ?_⟩
 intro a10 hE e12 kp
 replace e8 := kt kp e8
 refine sd 13 hE k (Z4z (l := le q 4) (m := le l.length 2) rfl e8 e12 (by simp only [Z0m]; omega)) ?_
 intro a12 hE e13 kp
 refine zm 14 hE k e1 ?_
 intro a13 hE e14 kp
 replace e13 := kt kp e13
 refine sd 15 hE k (Z4z (l := le q 4 ++ le l.length 2) (m := l) rfl e13 e14 (by simp only [List.length_append, Z0m]; omega)) ?_
 intro a14 hE e15 kp
 replace e15 := e15.trans (congrArg (fun l => Value.string (sB l)) (show (le q 4 ++ le l.length 2) ++ l = headT q l by unfold headT; rw [List.append_assoc]))
 apply Z06 16 hE k rfl (by rfl) (by rfl) rfl
 case h =>
  simp [go_sem, ↓IntWalk.iteOmega, ev e15]
  with_reducible exact ⟨rfl, rfl⟩
 case hc => exact rseal_l (headT q l) _ (by omega)
 rintro e w16 ⟨rfl, RE⟩
 replace O := OwnT.ext O RE
 refine ⟨_, rfl, ?_⟩
 intro a15 hE e16 kp
 refine sd 5 hE k (Z01 rfl e16) ?_
 intro a17 hE e5 kp
 refine wpList_nil ?_
 replace k := k.env hE
 clear hE e0 e1
 refine Z00 (wp_seq ?_)
 refine wp_block ?_
 obtain ⟨Z, hZ⟩ : ∃ Z, sealL (headT q l) = Z := ⟨_, rfl⟩
 rw [hZ] at e5 hsl
 refine wp_loop (fun a w => Fr 24 a ∧ ∃ (j : Nat), a.eval (.tmp 5) = .string (sB (Z ++ List.replicate j 0)) ∧ j ≤ z ∧ OwnT W0.heap.size W0 [] w) (fun a w => l.length + 100 - strLen (a.eval (.tmp 5))) ?_ ?_
 · exact ⟨k, 0, (by rw [List.replicate_zero, List.append_nil]; exact e5), Nat.zero_le _, O⟩
 intro a18 w19 hI
 clear k 
 obtain ⟨k, h_⟩ := hI
 clear O e5
 obtain ⟨j, e5, hj, O⟩ := h_
 have m1 := e5
 have hlen : (Z ++ List.replicate j 0).length = l.length + 10 + j := by rw [List.length_append, hsl, List.length_replicate]

 refine wp_seq ?_
 refine wp_seq ?_
 refine wp_region_lit ?_
 have hE := Env.refl a18 [17, 18, 19, 20]
 refine zm 17 hE k e5 ?_
 intro a20 hE e17 kp
 refine sd 18 hE k (Z07 Try.underlying9 rfl e17) ?_
 intro a21 hE e18 kp
 refine sd 19 hE k (x_remN (m := (Z ++ List.replicate j 0).length) (j := 16) rfl e18 rfl rfl (by decide)) ?_
 intro a22 hE e19 kp
 refine sd 20 hE k (Z15 rfl e19 rfl) ?_
 intro a23 hE e20 kp
 refine wpList_nil ?_
 replace e5 := hE.g e5
 replace k := k.env hE
 clear hE
 refine Z00 ?_
 by_cases hlt : j < z
 · skip
   refine Z0h e20 (congrArg Value.bool (decide_eq_true (by rw [hlen]; omega))) ?_
   clear e20
   refine wp_skip ?_
   refine Z00 ?_
   refine wp_block ?_
   refine wp_region_lit ?_
   have hE := Env.refl a23 [21, 22, 5]
   refine sd 21 hE k (Z03 rfl e5) ?_
   intro a24 hE e21 kp
   replace e5 := kt kp e5
   refine sd 22 hE k (Z4z (l := Z ++ List.replicate j 0) (m := [0]) rfl e21 rfl (by rw [hlen]; simp only [List.length_cons, List.length_nil]; omega)) ?_
   intro a25 hE e22 kp
   replace e5 := kt kp e5
   replace e22 := e22.trans (congrArg (fun l => Value.string (sB l)) (show (Z ++ List.replicate j 0) ++ [0] = Z ++ List.replicate (j + 1) 0 by rw [List.append_assoc, ← List.replicate_succ']))
   refine sd 5 hE k (Z01 rfl e22) ?_
   intro a26 hE e5 kp
   refine wpList_nil ?_
   replace k := k.env hE
   clear hE
   refine Z14 ?_
   refine Z00 ?_
   refine ⟨⟨k, j + 1, e5, by omega, O⟩, ?_⟩
   rw [e5, m1]; simp only [strLen, Z0l, List.length_append, List.length_replicate, hsl]; omega
 · skip
   refine Z08 e20 (congrArg Value.bool (decide_eq_false (by rw [hlen]; omega))) ?_
   clear e20
   obtain rfl : j = z := by omega
   refine wp_exit ?_
   refine Z0k ?_
   refine Z0k ?_
   refine Z0t ?_
   refine Z00 (wp_seq ?_)
   refine wp_region_lit ?_
   have hE := Env.refl a23 [23, 4]
   refine zm 23 hE k e5 ?_
   intro a27 hE e23 kp
   refine sd 4 hE k (Z01 rfl e23) ?_
   intro a28 hE e4 kp
   refine wpList_nil ?_
   replace k := k.env hE
   clear hE e5
   refine Z00 ?_
   refine wp_ret ?_
   refine Z0f rfl k e4 ?_
   exact ⟨by unfold tapeL; rw [hz, hZ], O.below⟩
theorem Z89 {l : List UInt8} (h : l.length ≤ 2) : numL l < 65536 := by
 have h1 := Z31 l
 have h2 : 256 ^ l.length ≤ 256 ^ 2 := Nat.pow_le_pow_right (by decide) h
 omega
theorem num_at (im : List UInt8) (j : Nat) : numL ((im.take (j + 6)).drop (j + 4)) = numT (im.drop j) := by
 unfold numT
 rw [List.drop_drop, List.drop_take]
 congr 2
 omega
theorem txt_at (im : List UInt8) (j : Nat) : (im.take (j + 6 + numT (im.drop j))).drop (j + 6) = txtT (im.drop j) := by
 unfold txtT
 rw [List.drop_drop, List.drop_take]
 congr 1
 omega
set_option maxRecDepth 100000 in
set_option maxHeartbeats 4000000 in
theorem rtexts39 (im : List UInt8) (W0 : World) (hl : im.length ≤ 300000) : Calls Try.prog 8 #[.string (sB im)] W0 fun e w' => ∃ T u Bo co, rdT im im.length [] 0 = (T, u) ∧ OnT im T u ∧ e = .returned (.tuple #[.slice Bo T.length co, .int .i64 (u : Nat)]) ∧ w'.ownsRow W0.heap.size 9 1 (.slice Bo T.length co) T.length (strsV T) ∧ Ext W0 w' := by
 have O := OwnT.start W0
 refine Z0a Try.func8 rfl 76 rfl (by rfl) ?_
 intro a1 k hargs
 have e0 : a1.eval (.tmp 0) = .string (sB im) := hargs 0 _ rfl
 clear hargs
 refine wp_seq ?_
 refine wp_region_lit ?_
 have hE := Env.refl a1 [2, 3]
 refine sd 2 hE k (Z01 rfl rfl) ?_
 intro a2 hE e2 kp
 refine sd 3 hE k (Z01 rfl rfl) ?_
 intro a3 hE e3 kp
 refine wpList_nil ?_
 replace e0 := hE.g e0
 replace k := k.env hE
 clear hE e3
 refine Z00 (wp_seq ?_)
 refine wp_region_lit ?_
 have hE := Env.refl a3 [9, 4]
 refine Z27 (m := 0) (c := 0) O (cs := #[]) (t := 9) 9 hE k rfl (by rfl) (by rfl) rfl (by simp [go_sem, ↓IntWalk.iteOmega]) ?_
 clear O
 intro g0 a4 w5 O hE e9 kp
 refine sd 4 hE k (Z01 rfl e9) ?_
 intro a6 hE e4 kp
 refine wpList_nil ?_
 replace e0 := hE.g e0
 replace k := k.env hE
 clear hE
 refine Z00 ?_
 replace O := OwnT.asRowS (k := 1) O
 refine wp_seq ?_
 refine wp_region_lit ?_
 have hE := Env.refl a6 [5]
 refine sd 5 hE k (Z01 rfl rfl) ?_
 intro a7 hE e5 kp
 refine wpList_nil ?_
 replace e0 := hE.g e0; replace e4 := hE.g e4
 replace k := k.env hE
 clear hE
 refine Z00 (wp_seq ?_)
 refine wp_block ?_
 refine wp_loop (fun a w => Fr 76 a ∧ a.eval (.tmp 0) = .string (sB im) ∧ ∃ (T : List (List UInt8)) (u : Nat) (Bo : Option Addr) (co : Nat), a.eval (.tmp 4) = .slice Bo T.length co ∧ a.eval (.tmp 5) = .int .i64 (↑(16 * u)) ∧ OnT im T u ∧ OwnT W0.heap.size W0 [tRow 9 1 (.slice Bo T.length co) T.length (strsV T)] w) (fun a w => im.length + 1 - (intOf (a.eval (.tmp 5))).toNat) ?_ ?_
 · exact ⟨k, e0, [], 0, some ⟨g0, 0, none⟩, 0, e4, e5, OnT.start im, O⟩
 intro a8 w9 hI
 clear k e0
 obtain ⟨k, e0, h_⟩ := hI
 clear O e4 e5
 obtain ⟨T, u, Bo, co, e4, e5, hT, O⟩ := h_
 have m1 := e5
 have h16 := hT.le
 have hTl := hT.len
 obtain ⟨F, hFs⟩ : ∃ F, fstT (T.length + 1) (im.drop (16 * u)) = F := ⟨_, rfl⟩
 have hdl : (im.drop (16 * u)).length = im.length - 16 * u := List.length_drop

 by_cases hlong : 16 * u + 16 ≤ im.length
 rotate_left
 · skip
   refine wp_seq ?_
   refine wp_seq ?_
   refine wp_region_lit ?_
   have hE := Env.refl a8 [10, 11, 12, 13, 14]
   refine zm 10 hE k e5 ?_
   intro a10 hE e10 kp
   refine sd 11 hE k (Z0r rfl e10 rfl (by omega)) ?_
   intro a11 hE e11 kp
   refine zm 12 hE k e0 ?_
   intro a12 hE e12 kp
   replace e11 := kt kp e11
   refine sd 13 hE k (Z07 Try.underlying9 rfl e12) ?_
   intro a13 hE e13 kp
   replace e11 := kt kp e11
   refine sd 14 hE k (Z09 (Z4y rfl e11 e13) (decide_eq_false (by omega))) ?_
   intro a14 hE e14 kp
   refine wpList_nil ?_
   replace e0 := hE.g e0; replace e4 := hE.g e4; replace e5 := hE.g e5
   replace k := k.env hE
   clear hE
   refine Z00 ?_
   refine Z08 e14 rfl ?_
   refine wp_exit ?_
   refine Z0k ?_
   refine Z0k ?_
   refine Z0t ?_
   refine Z00 (wp_seq ?_)
   refine wp_region_lit ?_
   have hE := Env.refl a14 [73, 74, 75, 2, 3]
   refine zm 73 hE k e4 ?_
   intro a15 hE e73 kp
   refine zm 74 hE k e5 ?_
   intro a16 hE e74 kp
   replace e73 := kt kp e73
   refine sd 75 hE k (Z1e (m := (16 * u)) (j := 16) rfl e74 rfl rfl (by decide) (by omega)) ?_
   intro a17 hE e75 kp
   replace e73 := kt kp e73
   refine sd 2 hE k (Z01 rfl e73) ?_
   intro a18 hE e2 kp
   replace e75 := kt kp e75
   refine sd 3 hE k (Z01 rfl e75) ?_
   intro a19 hE e3 kp
   replace e2 := kt kp e2
   refine wpList_nil ?_
   replace k := k.env hE
   clear hE e0 e4 e5 e14
   refine Z00 ?_
   refine wp_ret ?_
   have hnone : fstT (T.length + 1) (im.drop (16 * u)) = none := by
    exact Z4u (by omega)
   refine Z1o rfl k e2 e3 ?_
   exact ⟨T, u, Bo, co, hT.stop hnone, hT, by rw [Nat.mul_div_cancel_left u (by decide)], O.rowBase, O.below⟩
 refine wp_seq ?_
 refine wp_seq ?_
 refine wp_region_lit ?_
 have hE := Env.refl a8 [10, 11, 12, 13, 14]
 refine zm 10 hE k e5 ?_
 intro a20 hE e10 kp
 refine sd 11 hE k (Z0r rfl e10 rfl (by omega)) ?_
 intro a21 hE e11 kp
 refine zm 12 hE k e0 ?_
 intro a22 hE e12 kp
 replace e11 := kt kp e11
 refine sd 13 hE k (Z07 Try.underlying9 rfl e12) ?_
 intro a23 hE e13 kp
 replace e11 := kt kp e11
 refine sd 14 hE k (Z09 (Z4y rfl e11 e13) (decide_eq_true (by omega))) ?_
 intro a24 hE e14 kp
 refine wpList_nil ?_
 replace e0 := hE.g e0; replace e4 := hE.g e4; replace e5 := hE.g e5
 replace k := k.env hE
 clear hE
 refine Z00 ?_
 refine Z0h e14 rfl ?_
 refine wp_skip ?_
 refine Z00 ?_
 refine wp_block ?_
 obtain ⟨D, hD⟩ : ∃ D, im.drop (16 * u) = D := ⟨_, rfl⟩
 have hnum := num_at im (16 * u)
 have htxt := txt_at im (16 * u)
 rw [hD] at hnum htxt hdl hFs
 obtain ⟨m, hm⟩ : ∃ m, numT D = m := ⟨_, rfl⟩
 have hm2 : m < 65536 := by rw [← hm]; unfold numT; exact Z89 (by rw [List.length_take]; omega)
 rw [hm] at hnum htxt

 refine wp_seq ?_
 refine wp_region_lit ?_
 have hE := Env.refl a24 [15, 16, 17, 18, 19, 20, 21, 22, 6]
 refine zm 15 hE k e0 ?_
 intro a25 hE e15 kp
 refine zm 16 hE k e5 ?_
 intro a26 hE e16 kp
 replace e15 := kt kp e15
 refine sd 17 hE k (Z0r rfl e16 rfl (by omega)) ?_
 intro a27 hE e17 kp
 replace e15 := kt kp e15
 replace e17 := e17.trans (Z0e (show ((16 * u : Nat) : Int) + 4 = ((16 * u + 4 : Nat) : Int) by omega))
 refine zm 18 hE k e5 ?_
 intro a28 hE e18 kp
 replace e15 := kt kp e15; replace e17 := kt kp e17
 refine sd 19 hE k (Z0r rfl e18 rfl (by omega)) ?_
 intro a29 hE e19 kp
 replace e15 := kt kp e15; replace e17 := kt kp e17
 replace e19 := e19.trans (Z0e (show ((16 * u : Nat) : Int) + 6 = ((16 * u + 6 : Nat) : Int) by omega))
 refine sd 20 hE k (Z17 (l := im) (a := 16 * u + 4) (b := 16 * u + 6) Try.underlying9 rfl e15 e17 e19 (by omega) (by omega)) ?_
 intro a30 hE e20 kp
 apply Z06 21 hE k rfl (by rfl) (by rfl) rfl
 case h =>
  simp [go_sem, ↓IntWalk.iteOmega, ev e20]
  with_reducible exact ⟨rfl, rfl⟩
 case hc => exact Z72 ((im.take (16 * u + 6)).drop (16 * u + 4)) _ (by rw [List.length_drop, List.length_take]; omega)
 rintro e w32 ⟨rfl, RE⟩
 replace O := OwnT.ext O RE
 refine ⟨_, by rw [hnum], ?_⟩
 intro a31 hE e21 kp
 refine sd 22 hE k (Z2o rfl e21 (Z7k m _ (by omega))) ?_
 intro a33 hE e22 kp
 refine sd 6 hE k (Z01 rfl e22) ?_
 intro a34 hE e6 kp
 refine wpList_nil ?_
 replace e0 := hE.g e0; replace e4 := hE.g e4; replace e5 := hE.g e5
 replace k := k.env hE
 clear hE e14
 refine Z00 ?_
 by_cases hbig : 600 < m
 · skip
   refine wp_seq ?_
   refine wp_seq ?_
   refine wp_region_lit ?_
   have hE := Env.refl a34 [23, 24, 25, 26, 27, 28, 29, 30, 31, 32, 33]
   refine zm 23 hE k e6 ?_
   intro a35 hE e23 kp
   refine sd 24 hE k (Z09 (Z0z rfl e23 rfl) (decide_eq_true (by omega))) ?_
   intro a36 hE e24 kp
   refine sd 25 hE k (Z03 rfl e24) ?_
   intro a37 hE e25 kp
   refine Z04 26 hE k rfl (by rfl) (by rfl) rfl rfl (.inl e25) ?_
   intro a38 hE e26 kp
   replace e25 := kt kp e25
   refine Z04 27 hE k rfl (by rfl) (by rfl) rfl rfl (.inl e25) ?_
   intro a39 hE e27 kp
   replace e25 := kt kp e25
   refine Z04 28 hE k rfl (by rfl) (by rfl) rfl rfl (.inl e25) ?_
   intro a40 hE e28 kp
   replace e25 := kt kp e25; replace e27 := kt kp e27
   refine Z04 29 hE k rfl (by rfl) (by rfl) rfl rfl (.inl e25) ?_
   intro a41 hE e29 kp
   replace e25 := kt kp e25
   refine Z04 30 hE k rfl (by rfl) (by rfl) rfl rfl (.inl e25) ?_
   intro a42 hE e30 kp
   replace e25 := kt kp e25; replace e29 := kt kp e29
   refine Z04 31 hE k rfl (by rfl) (by rfl) rfl rfl (.inl e25) ?_
   intro a43 hE e31 kp
   replace e25 := kt kp e25; replace e29 := kt kp e29
   refine Z04 32 hE k rfl (by rfl) (by rfl) rfl rfl (.inl e25) ?_
   intro a44 hE e32 kp
   replace e25 := kt kp e25
   refine sd 33 hE k (Z0b rfl e25 rfl) ?_
   intro a45 hE e33 kp
   refine wpList_nil ?_
   replace e0 := hE.g e0; replace e4 := hE.g e4; replace e5 := hE.g e5; replace e6 := hE.g e6
   replace k := k.env hE
   clear hE
   refine Z00 ?_
   refine Z0h e33 rfl ?_
   refine wp_exit ?_
   refine Z0k ?_
   refine Z4c rfl ?_
   refine Z0k ?_
   refine Z0t ?_
   refine Z00 (wp_seq ?_)
   refine wp_region_lit ?_
   have hE := Env.refl a45 [73, 74, 75, 2, 3]
   refine zm 73 hE k e4 ?_
   intro a46 hE e73 kp
   refine zm 74 hE k e5 ?_
   intro a47 hE e74 kp
   replace e73 := kt kp e73
   refine sd 75 hE k (Z1e (m := (16 * u)) (j := 16) rfl e74 rfl rfl (by decide) (by omega)) ?_
   intro a48 hE e75 kp
   replace e73 := kt kp e73
   refine sd 2 hE k (Z01 rfl e73) ?_
   intro a49 hE e2 kp
   replace e75 := kt kp e75
   refine sd 3 hE k (Z01 rfl e75) ?_
   intro a50 hE e3 kp
   replace e2 := kt kp e2
   refine wpList_nil ?_
   replace k := k.env hE
   clear hE e0 e4 e5 e6 e33
   refine Z00 ?_
   refine wp_ret ?_
   have hnone : fstT (T.length + 1) (im.drop (16 * u)) = none := by
    rw [hD]; unfold fstT; rw [hm]; exact if_neg (fun x => by have := x.2.1; omega)
   refine Z1o rfl k e2 e3 ?_
   exact ⟨T, u, Bo, co, hT.stop hnone, hT, by rw [Nat.mul_div_cancel_left u (by decide)], O.rowBase, O.below⟩
 · skip
   by_cases hout : im.length < 16 * u + 6 + m
   · skip
     refine wp_seq ?_
     refine wp_seq ?_
     refine wp_region_lit ?_
     have hE := Env.refl a34 [23, 24, 25, 26, 27, 28, 29, 30, 31, 32, 33]
     refine zm 23 hE k e6 ?_
     intro a51 hE e23 kp
     refine sd 24 hE k (Z09 (Z0z rfl e23 rfl) (decide_eq_false (by omega))) ?_
     intro a52 hE e24 kp
     refine sd 25 hE k (Z03 rfl e24) ?_
     intro a53 hE e25 kp
     apply Z02 26 hE k rfl rfl rfl rfl rfl e25
     case h =>
      exact Z03 rfl (hE.g e5)
     intro a54 hE e26 kp
     replace e25 := kt kp e25
     apply Z02 27 hE k rfl rfl rfl rfl rfl e25
     case h =>
      exact Z0r rfl e26 rfl (by omega)
     intro a55 hE e27 kp
     replace e25 := kt kp e25
     apply Z02 28 hE k rfl rfl rfl rfl rfl e25
     case h =>
      exact Z03 rfl (hE.g e6)
     intro a56 hE e28 kp
     replace e25 := kt kp e25; replace e27 := kt kp e27
     apply Z02 29 hE k rfl rfl rfl rfl rfl e25
     case h =>
      exact Z0r rfl e27 e28 (by omega)
     intro a57 hE e29 kp
     replace e25 := kt kp e25
     apply Z02 30 hE k rfl rfl rfl rfl rfl e25
     case h =>
      exact Z03 rfl (hE.g e0)
     intro a58 hE e30 kp
     replace e25 := kt kp e25; replace e29 := kt kp e29
     apply Z02 31 hE k rfl rfl rfl rfl rfl e25
     case h =>
      exact Z07 Try.underlying9 rfl e30
     intro a59 hE e31 kp
     replace e25 := kt kp e25; replace e29 := kt kp e29
     apply Z02 32 hE k rfl rfl rfl rfl rfl e25
     case h =>
      exact Z09 (Z0z rfl e29 e31) (decide_eq_true (by omega))
     intro a60 hE e32 kp
     replace e25 := kt kp e25
     refine sd 33 hE k (Z0g rfl e25 e32) ?_
     intro a61 hE e33 kp
     refine wpList_nil ?_
     replace e0 := hE.g e0; replace e4 := hE.g e4; replace e5 := hE.g e5; replace e6 := hE.g e6
     replace k := k.env hE
     clear hE
     refine Z00 ?_
     refine Z0h e33 rfl ?_
     refine wp_exit ?_
     refine Z0k ?_
     refine Z4c rfl ?_
     refine Z0k ?_
     refine Z0t ?_
     refine Z00 (wp_seq ?_)
     refine wp_region_lit ?_
     have hE := Env.refl a61 [73, 74, 75, 2, 3]
     refine zm 73 hE k e4 ?_
     intro a62 hE e73 kp
     refine zm 74 hE k e5 ?_
     intro a63 hE e74 kp
     replace e73 := kt kp e73
     refine sd 75 hE k (Z1e (m := (16 * u)) (j := 16) rfl e74 rfl rfl (by decide) (by omega)) ?_
     intro a64 hE e75 kp
     replace e73 := kt kp e73
     refine sd 2 hE k (Z01 rfl e73) ?_
     intro a65 hE e2 kp
     replace e75 := kt kp e75
     refine sd 3 hE k (Z01 rfl e75) ?_
     intro a66 hE e3 kp
     replace e2 := kt kp e2
     refine wpList_nil ?_
     replace k := k.env hE
     clear hE e0 e4 e5 e6 e33
     refine Z00 ?_
     refine wp_ret ?_
     have hnone : fstT (T.length + 1) (im.drop (16 * u)) = none := by
      rw [hD]; unfold fstT; rw [hm]; exact if_neg (fun x => by have := x.2.2.1; omega)
     refine Z1o rfl k e2 e3 ?_
     exact ⟨T, u, Bo, co, hT.stop hnone, hT, by rw [Nat.mul_div_cancel_left u (by decide)], O.rowBase, O.below⟩
   · skip
     obtain ⟨s, hs⟩ : ∃ s, txtT D = s := ⟨_, rfl⟩
     rw [hs] at htxt
     have hsl : s.length ≤ 600 := by rw [← hs]; unfold txtT; rw [List.length_take]; omega
     obtain ⟨t, ht⟩ : ∃ t, tapeL (T.length + 1) s = t := ⟨_, rfl⟩
     have htl : t.length = 16 * szT s := by rw [← ht]; exact Z11 _ _
     have htl2 : t.length ≤ 1000 := by rw [htl]; unfold szT; omega

     refine wp_seq ?_
     refine wp_seq ?_
     refine wp_region_lit ?_
     have hE := Env.refl a34 [23, 24, 25, 26, 27, 28, 29, 30, 31, 32, 33]
     refine zm 23 hE k e6 ?_
     intro a67 hE e23 kp
     refine sd 24 hE k (Z09 (Z0z rfl e23 rfl) (decide_eq_false (by omega))) ?_
     intro a68 hE e24 kp
     refine sd 25 hE k (Z03 rfl e24) ?_
     intro a69 hE e25 kp
     apply Z02 26 hE k rfl rfl rfl rfl rfl e25
     case h =>
      exact Z03 rfl (hE.g e5)
     intro a70 hE e26 kp
     replace e25 := kt kp e25
     apply Z02 27 hE k rfl rfl rfl rfl rfl e25
     case h =>
      exact Z0r rfl e26 rfl (by omega)
     intro a71 hE e27 kp
     replace e25 := kt kp e25
     apply Z02 28 hE k rfl rfl rfl rfl rfl e25
     case h =>
      exact Z03 rfl (hE.g e6)
     intro a72 hE e28 kp
     replace e25 := kt kp e25; replace e27 := kt kp e27
     apply Z02 29 hE k rfl rfl rfl rfl rfl e25
     case h =>
      exact Z0r rfl e27 e28 (by omega)
     intro a73 hE e29 kp
     replace e25 := kt kp e25
     apply Z02 30 hE k rfl rfl rfl rfl rfl e25
     case h =>
      exact Z03 rfl (hE.g e0)
     intro a74 hE e30 kp
     replace e25 := kt kp e25; replace e29 := kt kp e29
     apply Z02 31 hE k rfl rfl rfl rfl rfl e25
     case h =>
      exact Z07 Try.underlying9 rfl e30
     intro a75 hE e31 kp
     replace e25 := kt kp e25; replace e29 := kt kp e29
     apply Z02 32 hE k rfl rfl rfl rfl rfl e25
     case h =>
      exact Z09 (Z0z rfl e29 e31) (decide_eq_false (by omega))
     intro a76 hE e32 kp
     replace e25 := kt kp e25
     refine sd 33 hE k (Z0g rfl e25 e32) ?_
     intro a77 hE e33 kp
     refine wpList_nil ?_
     replace e0 := hE.g e0; replace e4 := hE.g e4; replace e5 := hE.g e5; replace e6 := hE.g e6
     replace k := k.env hE
     clear hE
     refine Z00 ?_
     refine Z08 e33 rfl ?_
     refine wp_skip ?_
     refine Z00 (wp_seq ?_)
     refine wp_region_lit ?_
     have hE := Env.refl a77 [34, 35, 36, 37, 38, 39, 40, 41, 7]
     refine zm 34 hE k e0 ?_
     intro a78 hE e34 kp
     refine zm 35 hE k e5 ?_
     intro a79 hE e35 kp
     replace e34 := kt kp e34
     refine sd 36 hE k (Z0r rfl e35 rfl (by omega)) ?_
     intro a80 hE e36 kp
     replace e34 := kt kp e34
     replace e36 := e36.trans (Z0e (show ((16 * u : Nat) : Int) + 6 = ((16 * u + 6 : Nat) : Int) by omega))
     refine zm 37 hE k e5 ?_
     intro a81 hE e37 kp
     replace e34 := kt kp e34; replace e36 := kt kp e36
     refine sd 38 hE k (Z0r rfl e37 rfl (by omega)) ?_
     intro a82 hE e38 kp
     replace e34 := kt kp e34; replace e36 := kt kp e36
     replace e38 := e38.trans (Z0e (show ((16 * u : Nat) : Int) + 6 = ((16 * u + 6 : Nat) : Int) by omega))
     refine zm 39 hE k e6 ?_
     intro a83 hE e39 kp
     replace e34 := kt kp e34; replace e36 := kt kp e36; replace e38 := kt kp e38
     refine sd 40 hE k (Z0r rfl e38 e39 (by omega)) ?_
     intro a84 hE e40 kp
     replace e34 := kt kp e34; replace e36 := kt kp e36
     replace e40 := e40.trans (Z0e (show ((16 * u + 6 : Nat) : Int) + (m : Int) = ((16 * u + 6 + m : Nat) : Int) by omega))
     refine sd 41 hE k (Z17 (l := im) (a := 16 * u + 6) (b := 16 * u + 6 + m) Try.underlying9 rfl e34 e36 e40 (by omega) (by omega)) ?_
     intro a85 hE e41 kp
     replace e41 := e41.trans (congrArg (fun l => Value.string (sB l)) htxt)
     refine sd 7 hE k (Z01 rfl e41) ?_
     intro a86 hE e7 kp
     refine wpList_nil ?_
     replace e0 := hE.g e0; replace e4 := hE.g e4; replace e5 := hE.g e5
     replace k := k.env hE
     clear hE e6 e33
     refine Z00 (wp_seq ?_)
     refine wp_region_lit ?_
     have hE := Env.refl a86 [42, 43, 44, 45, 46, 8]
     refine zm 42 hE k e4 ?_
     intro a87 hE e42 kp
     refine sd 43 hE k (Z1c Try.underlying22 rfl e42) ?_
     intro a88 hE e43 kp
     refine sd 44 hE k (Z0r rfl e43 rfl (by omega)) ?_
     intro a89 hE e44 kp
     replace e44 := e44.trans (Z0e (show (T.length : Int) + 1 = ((T.length + 1 : Nat) : Int) by omega))
     refine zm 45 hE k e7 ?_
     intro a90 hE e45 kp
     replace e44 := kt kp e44
     apply Z06 46 hE k rfl (by rfl) (by rfl) rfl
     case h =>
      simp [go_sem, ↓IntWalk.iteOmega, ev e44, ev e45]
      with_reducible exact ⟨rfl, rfl⟩
     case hc => exact rbytes39 (T.length + 1) s _ (by omega) (by omega)
     rintro e w92 ⟨rfl, RE⟩
     replace O := OwnT.ext O RE
     refine ⟨_, by rw [ht], ?_⟩
     intro a91 hE e46 kp
     refine sd 8 hE k (Z01 rfl e46) ?_
     intro a93 hE e8 kp
     refine wpList_nil ?_
     replace e0 := hE.g e0; replace e4 := hE.g e4; replace e5 := hE.g e5; replace e7 := hE.g e7
     replace k := k.env hE
     clear hE
     refine Z00 ?_
     by_cases hend : im.length < 16 * u + t.length
     · skip
       refine wp_seq ?_
       refine wp_seq ?_
       refine wp_region_lit ?_
       have hE := Env.refl a93 [47, 48, 49, 50, 51, 52, 53, 54, 55, 56, 57, 58, 59, 60, 61, 62, 63, 64]
       refine zm 47 hE k e5 ?_
       intro a94 hE e47 kp
       refine zm 48 hE k e8 ?_
       intro a95 hE e48 kp
       replace e47 := kt kp e47
       refine sd 49 hE k (Z07 Try.underlying9 rfl e48) ?_
       intro a96 hE e49 kp
       replace e47 := kt kp e47
       refine sd 50 hE k (Z0r rfl e47 e49 (by omega)) ?_
       intro a97 hE e50 kp
       refine zm 51 hE k e0 ?_
       intro a98 hE e51 kp
       replace e50 := kt kp e50
       refine sd 52 hE k (Z07 Try.underlying9 rfl e51) ?_
       intro a99 hE e52 kp
       replace e50 := kt kp e50
       refine sd 53 hE k (Z09 (Z0z rfl e50 e52) (decide_eq_true (by omega))) ?_
       intro a100 hE e53 kp
       refine sd 54 hE k (Z03 rfl e53) ?_
       intro a101 hE e54 kp
       refine Z04 55 hE k rfl (by rfl) (by rfl) rfl rfl (.inl e54) ?_
       intro a102 hE e55 kp
       replace e54 := kt kp e54
       refine Z04 56 hE k rfl (by rfl) (by rfl) rfl rfl (.inl e54) ?_
       intro a103 hE e56 kp
       replace e54 := kt kp e54; replace e55 := kt kp e55
       refine Z04 57 hE k rfl (by rfl) (by rfl) rfl rfl (.inl e54) ?_
       intro a104 hE e57 kp
       replace e54 := kt kp e54; replace e55 := kt kp e55; replace e56 := kt kp e56
       refine Z04 58 hE k rfl (by rfl) (by rfl) rfl rfl (.inl e54) ?_
       intro a105 hE e58 kp
       replace e54 := kt kp e54; replace e55 := kt kp e55; replace e56 := kt kp e56; replace e57 := kt kp e57
       refine Z04 59 hE k rfl (by rfl) (by rfl) rfl rfl (.inl e54) ?_
       intro a106 hE e59 kp
       replace e54 := kt kp e54; replace e55 := kt kp e55; replace e56 := kt kp e56; replace e57 := kt kp e57
       refine Z04 60 hE k rfl (by rfl) (by rfl) rfl rfl (.inl e54) ?_
       intro a107 hE e60 kp
       replace e54 := kt kp e54; replace e55 := kt kp e55; replace e56 := kt kp e56
       refine Z04 61 hE k rfl (by rfl) (by rfl) rfl rfl (.inl e54) ?_
       intro a108 hE e61 kp
       replace e54 := kt kp e54
       refine Z04 62 hE k rfl (by rfl) (by rfl) rfl rfl (.inl e54) ?_
       intro a109 hE e62 kp
       replace e54 := kt kp e54; replace e61 := kt kp e61
       refine Z04 63 hE k rfl (by rfl) (by rfl) rfl rfl (.inl e54) ?_
       intro a110 hE e63 kp
       replace e54 := kt kp e54
       refine sd 64 hE k (Z0b rfl e54 rfl) ?_
       intro a111 hE e64 kp
       refine wpList_nil ?_
       replace e0 := hE.g e0; replace e4 := hE.g e4; replace e5 := hE.g e5; replace e7 := hE.g e7; replace e8 := hE.g e8
       replace k := k.env hE
       clear hE
       refine Z00 ?_
       refine Z0h e64 rfl ?_
       refine wp_exit ?_
       refine Z0k ?_
       refine Z4c rfl ?_
       refine Z0k ?_
       refine Z0t ?_
       refine Z00 (wp_seq ?_)
       refine wp_region_lit ?_
       have hE := Env.refl a111 [73, 74, 75, 2, 3]
       refine zm 73 hE k e4 ?_
       intro a112 hE e73 kp
       refine zm 74 hE k e5 ?_
       intro a113 hE e74 kp
       replace e73 := kt kp e73
       refine sd 75 hE k (Z1e (m := (16 * u)) (j := 16) rfl e74 rfl rfl (by decide) (by omega)) ?_
       intro a114 hE e75 kp
       replace e73 := kt kp e73
       refine sd 2 hE k (Z01 rfl e73) ?_
       intro a115 hE e2 kp
       replace e75 := kt kp e75
       refine sd 3 hE k (Z01 rfl e75) ?_
       intro a116 hE e3 kp
       replace e2 := kt kp e2
       refine wpList_nil ?_
       replace k := k.env hE
       clear hE e0 e4 e5 e7 e8 e64
       refine Z00 ?_
       refine wp_ret ?_
       have hnone : fstT (T.length + 1) (im.drop (16 * u)) = none := by
        rw [hD]; unfold fstT; rw [hm, hs]; exact if_neg (fun x => by have := congrArg List.length x.2.2.2; rw [ht, htl, List.length_take] at this; omega)
       refine Z1o rfl k e2 e3 ?_
       exact ⟨T, u, Bo, co, hT.stop hnone, hT, by rw [Nat.mul_div_cancel_left u (by decide)], O.rowBase, O.below⟩
     · skip
       have hcut : (im.take (16 * u + t.length)).drop (16 * u) = D.take (16 * szT s) := by rw [List.drop_take, hD, ← htl]; congr 1; omega
       by_cases heq : D.take (16 * szT s) ≠ t
       · skip
         refine wp_seq ?_
         refine wp_seq ?_
         refine wp_region_lit ?_
         have hE := Env.refl a93 [47, 48, 49, 50, 51, 52, 53, 54, 55, 56, 57, 58, 59, 60, 61, 62, 63, 64]
         refine zm 47 hE k e5 ?_
         intro a117 hE e47 kp
         refine zm 48 hE k e8 ?_
         intro a118 hE e48 kp
         replace e47 := kt kp e47
         refine sd 49 hE k (Z07 Try.underlying9 rfl e48) ?_
         intro a119 hE e49 kp
         replace e47 := kt kp e47
         refine sd 50 hE k (Z0r rfl e47 e49 (by omega)) ?_
         intro a120 hE e50 kp
         refine zm 51 hE k e0 ?_
         intro a121 hE e51 kp
         replace e50 := kt kp e50
         refine sd 52 hE k (Z07 Try.underlying9 rfl e51) ?_
         intro a122 hE e52 kp
         replace e50 := kt kp e50
         refine sd 53 hE k (Z09 (Z0z rfl e50 e52) (decide_eq_false (by omega))) ?_
         intro a123 hE e53 kp
         refine sd 54 hE k (Z03 rfl e53) ?_
         intro a124 hE e54 kp
         apply Z02 55 hE k rfl rfl rfl rfl rfl e54
         case h =>
          exact Z03 rfl (hE.g e0)
         intro a125 hE e55 kp
         replace e54 := kt kp e54
         apply Z02 56 hE k rfl rfl rfl rfl rfl e54
         case h =>
          exact Z03 rfl (hE.g e5)
         intro a126 hE e56 kp
         replace e54 := kt kp e54; replace e55 := kt kp e55
         apply Z02 57 hE k rfl rfl rfl rfl rfl e54
         case h =>
          exact Z03 rfl (hE.g e5)
         intro a127 hE e57 kp
         replace e54 := kt kp e54; replace e55 := kt kp e55; replace e56 := kt kp e56
         apply Z02 58 hE k rfl rfl rfl rfl rfl e54
         case h =>
          exact Z03 rfl (hE.g e8)
         intro a128 hE e58 kp
         replace e54 := kt kp e54; replace e55 := kt kp e55; replace e56 := kt kp e56; replace e57 := kt kp e57
         apply Z02 59 hE k rfl rfl rfl rfl rfl e54
         case h =>
          exact Z07 Try.underlying9 rfl e58
         intro a129 hE e59 kp
         replace e54 := kt kp e54; replace e55 := kt kp e55; replace e56 := kt kp e56; replace e57 := kt kp e57
         apply Z02 60 hE k rfl rfl rfl rfl rfl e54
         case h =>
          exact Z0r rfl e57 e59 (by omega)
         intro a130 hE e60 kp
         replace e54 := kt kp e54; replace e55 := kt kp e55; replace e56 := kt kp e56
         replace e60 := e60.trans (Z0e (show ((16 * u : Nat) : Int) + (t.length : Int) = ((16 * u + t.length : Nat) : Int) by omega))
         apply Z02 61 hE k rfl rfl rfl rfl rfl e54
         case h =>
          exact Z17 (l := im) (a := 16 * u) (b := 16 * u + t.length) Try.underlying9 rfl e55 e56 e60 (by omega) (by omega)
         intro a131 hE e61 kp
         replace e54 := kt kp e54
         replace e61 := e61.trans (congrArg (fun l => Value.string (sB l)) hcut)
         apply Z02 62 hE k rfl rfl rfl rfl rfl e54
         case h =>
          exact Z03 rfl (hE.g e8)
         intro a132 hE e62 kp
         replace e54 := kt kp e54; replace e61 := kt kp e61
         apply Z02 63 hE k rfl rfl rfl rfl rfl e54
         case h =>
          exact Z09 (Z4x (l := D.take (16 * szT s)) (m := t) rfl e61 e62) (decide_eq_true heq)
         intro a133 hE e63 kp
         replace e54 := kt kp e54
         refine sd 64 hE k (Z0g rfl e54 e63) ?_
         intro a134 hE e64 kp
         refine wpList_nil ?_
         replace e0 := hE.g e0; replace e4 := hE.g e4; replace e5 := hE.g e5; replace e7 := hE.g e7; replace e8 := hE.g e8
         replace k := k.env hE
         clear hE
         refine Z00 ?_
         refine Z0h e64 rfl ?_
         refine wp_exit ?_
         refine Z0k ?_
         refine Z4c rfl ?_
         refine Z0k ?_
         refine Z0t ?_
         refine Z00 (wp_seq ?_)
         refine wp_region_lit ?_
         have hE := Env.refl a134 [73, 74, 75, 2, 3]
         refine zm 73 hE k e4 ?_
         intro a135 hE e73 kp
         refine zm 74 hE k e5 ?_
         intro a136 hE e74 kp
         replace e73 := kt kp e73
         refine sd 75 hE k (Z1e (m := (16 * u)) (j := 16) rfl e74 rfl rfl (by decide) (by omega)) ?_
         intro a137 hE e75 kp
         replace e73 := kt kp e73
         refine sd 2 hE k (Z01 rfl e73) ?_
         intro a138 hE e2 kp
         replace e75 := kt kp e75
         refine sd 3 hE k (Z01 rfl e75) ?_
         intro a139 hE e3 kp
         replace e2 := kt kp e2
         refine wpList_nil ?_
         replace k := k.env hE
         clear hE e0 e4 e5 e7 e8 e64
         refine Z00 ?_
         refine wp_ret ?_
         have hnone : fstT (T.length + 1) (im.drop (16 * u)) = none := by
          rw [hD]; unfold fstT; rw [hm, hs]; exact if_neg (fun x => heq (by rw [x.2.2.2, ht]))
         refine Z1o rfl k e2 e3 ?_
         exact ⟨T, u, Bo, co, hT.stop hnone, hT, by rw [Nat.mul_div_cancel_left u (by decide)], O.rowBase, O.below⟩
       · replace heq : D.take (16 * szT s) = t := Classical.not_not.1 heq
         have hsome : fstT (T.length + 1) (im.drop (16 * u)) = some s := by
          rw [hD]; unfold fstT; rw [hm, hs]; exact if_pos ⟨by omega, by omega, by omega, by rw [heq, ht]⟩
         refine wp_seq ?_
         refine wp_seq ?_
         refine wp_region_lit ?_
         have hE := Env.refl a93 [47, 48, 49, 50, 51, 52, 53, 54, 55, 56, 57, 58, 59, 60, 61, 62, 63, 64]
         refine zm 47 hE k e5 ?_
         intro a140 hE e47 kp
         refine zm 48 hE k e8 ?_
         intro a141 hE e48 kp
         replace e47 := kt kp e47
         refine sd 49 hE k (Z07 Try.underlying9 rfl e48) ?_
         intro a142 hE e49 kp
         replace e47 := kt kp e47
         refine sd 50 hE k (Z0r rfl e47 e49 (by omega)) ?_
         intro a143 hE e50 kp
         refine zm 51 hE k e0 ?_
         intro a144 hE e51 kp
         replace e50 := kt kp e50
         refine sd 52 hE k (Z07 Try.underlying9 rfl e51) ?_
         intro a145 hE e52 kp
         replace e50 := kt kp e50
         refine sd 53 hE k (Z09 (Z0z rfl e50 e52) (decide_eq_false (by omega))) ?_
         intro a146 hE e53 kp
         refine sd 54 hE k (Z03 rfl e53) ?_
         intro a147 hE e54 kp
         apply Z02 55 hE k rfl rfl rfl rfl rfl e54
         case h =>
          exact Z03 rfl (hE.g e0)
         intro a148 hE e55 kp
         replace e54 := kt kp e54
         apply Z02 56 hE k rfl rfl rfl rfl rfl e54
         case h =>
          exact Z03 rfl (hE.g e5)
         intro a149 hE e56 kp
         replace e54 := kt kp e54; replace e55 := kt kp e55
         apply Z02 57 hE k rfl rfl rfl rfl rfl e54
         case h =>
          exact Z03 rfl (hE.g e5)
         intro a150 hE e57 kp
         replace e54 := kt kp e54; replace e55 := kt kp e55; replace e56 := kt kp e56
         apply Z02 58 hE k rfl rfl rfl rfl rfl e54
         case h =>
          exact Z03 rfl (hE.g e8)
         intro a151 hE e58 kp
         replace e54 := kt kp e54; replace e55 := kt kp e55; replace e56 := kt kp e56; replace e57 := kt kp e57
         apply Z02 59 hE k rfl rfl rfl rfl rfl e54
         case h =>
          exact Z07 Try.underlying9 rfl e58
         intro a152 hE e59 kp
         replace e54 := kt kp e54; replace e55 := kt kp e55; replace e56 := kt kp e56; replace e57 := kt kp e57
         apply Z02 60 hE k rfl rfl rfl rfl rfl e54
         case h =>
          exact Z0r rfl e57 e59 (by omega)
         intro a153 hE e60 kp
         replace e54 := kt kp e54; replace e55 := kt kp e55; replace e56 := kt kp e56
         replace e60 := e60.trans (Z0e (show ((16 * u : Nat) : Int) + (t.length : Int) = ((16 * u + t.length : Nat) : Int) by omega))
         apply Z02 61 hE k rfl rfl rfl rfl rfl e54
         case h =>
          exact Z17 (l := im) (a := 16 * u) (b := 16 * u + t.length) Try.underlying9 rfl e55 e56 e60 (by omega) (by omega)
         intro a154 hE e61 kp
         replace e54 := kt kp e54
         replace e61 := e61.trans (congrArg (fun l => Value.string (sB l)) hcut)
         apply Z02 62 hE k rfl rfl rfl rfl rfl e54
         case h =>
          exact Z03 rfl (hE.g e8)
         intro a155 hE e62 kp
         replace e54 := kt kp e54; replace e61 := kt kp e61
         apply Z02 63 hE k rfl rfl rfl rfl rfl e54
         case h =>
          exact Z09 (Z4x (l := D.take (16 * szT s)) (m := t) rfl e61 e62) (decide_eq_false (fun h => h heq))
         intro a156 hE e63 kp
         replace e54 := kt kp e54
         refine sd 64 hE k (Z0g rfl e54 e63) ?_
         intro a157 hE e64 kp
         refine wpList_nil ?_
         replace e0 := hE.g e0; replace e4 := hE.g e4; replace e5 := hE.g e5; replace e7 := hE.g e7; replace e8 := hE.g e8
         replace k := k.env hE
         clear hE
         refine Z00 ?_
         refine Z08 e64 rfl ?_
         refine wp_skip ?_
         refine Z00 (wp_seq ?_)
         refine wp_region_lit ?_
         have hE := Env.refl a157 [65, 66, 67, 68, 4]
         refine sd 65 hE k (Z03 rfl e4) ?_
         intro a158 hE e65 kp
         replace e4 := kt kp e4
         refine zm 66 hE k e7 ?_
         intro a159 hE e66 kp
         replace e4 := kt kp e4; replace e65 := kt kp e65
         refine Z27 (m := 1) (c := 1) O (cs := #[.string (sB s)]) (t := 9) 67 hE k rfl (by rfl) (by rfl) rfl (by simp [go_sem, ↓IntWalk.iteOmega, ev e66]) ?_
         clear O
         intro gn a160 w161 O hE e67 kp
         replace e4 := kt kp e4; replace e65 := kt kp e65
         obtain ⟨gr, cr, w162, hrun, O⟩ := Z4d O elemS (by decide) rfl (by intro u hu; simp at hu; subst hu; rfl) (by unfold maxLen; omega) (by omega)
         apply Z1f 68 hE k rfl (by rfl) (by rfl) rfl
         case h => exact Z1x rfl e65 e67 (hrun _)
         clear hrun
         intro a163 hE e68 kp
         replace e4 := kt kp e4
         refine sd 4 hE k (Z01 rfl e68) ?_
         intro a164 hE e4 kp
         refine wpList_nil ?_
         replace e0 := hE.g e0; replace e5 := hE.g e5; replace e8 := hE.g e8
         replace k := k.env hE
         clear hE e7 e64
         refine Z00 ?_
         have hn1 : T.length + 1 = (T ++ [s]).length := by simp
         rw [show strsV T ++ [Value.string (sB s)] = strsV (T ++ [s]) by rw [Z1n]; rfl, hn1] at O
         rw [hn1] at e4
         replace O : OwnT _ _ ([tRow 9 1 (.slice (some ⟨gr, 0, none⟩) (T ++ [s]).length cr) (T ++ [s]).length (strsV (T ++ [s]))]) w162 := O
         refine wp_region_lit ?_
         have hE := Env.refl a164 [69, 70, 71, 72, 5]
         refine sd 69 hE k (Z03 rfl e5) ?_
         intro a165 hE e69 kp
         replace e5 := kt kp e5
         refine zm 70 hE k e8 ?_
         intro a166 hE e70 kp
         replace e5 := kt kp e5; replace e69 := kt kp e69
         refine sd 71 hE k (Z07 Try.underlying9 rfl e70) ?_
         intro a167 hE e71 kp
         replace e5 := kt kp e5; replace e69 := kt kp e69
         refine sd 72 hE k (Z0r rfl e69 e71 (by omega)) ?_
         intro a168 hE e72 kp
         replace e5 := kt kp e5
         replace e72 := e72.trans (Z0e (show ((16 * u : Nat) : Int) + (t.length : Int) = ((16 * (u + szT s) : Nat) : Int) by omega))
         refine sd 5 hE k (Z01 rfl e72) ?_
         intro a169 hE e5 kp
         refine wpList_nil ?_
         replace e0 := hE.g e0; replace e4 := hE.g e4
         replace k := k.env hE
         clear hE e8
         refine Z14 ?_
         refine Z00 ?_
         have hp := Z2v s
         refine ⟨⟨k, e0, T ++ [s], u + szT s, some ⟨gr, 0, none⟩, cr, e4, e5, hT.step hsome, O⟩, ?_⟩
         rw [e5, m1]; simp only [intOf]; omega
theorem d_ext {w w' : World} {b o : Nat} {v : Value} (h : w.cell? ⟨b, o, none⟩ = some v) (hb : Ext w w') : w'.cell? ⟨b, o, none⟩ = some v := by
 have hlt : b < w.heap.size := by
  rcases Nat.lt_or_ge b w.heap.size with h1 | h1
  · exact h1
  · simp [World.cell?, Array.getElem?_eq_none h1] at h
 rw [← h]
 exact hb.cell (p := ⟨b, o, none⟩) hlt
theorem rows_eq {T1 T2 : List Sec} (h : T1.length = T2.length) (hp : ∀ j, j < T1.length → T1[j]? = T2[j]?) : T1 = T2 := by
 apply List.ext_getElem?
 intro j
 rcases Nat.lt_or_ge j T1.length with h1 | h1
 · exact hp j h1
 · rw [List.getElem?_eq_none h1, List.getElem?_eq_none (by omega)]
set_option maxRecDepth 100000 in
set_option maxHeartbeats 4000000 in
theorem same39 {B1 B2 : Option Addr} {c1 c2 : Nat} {T1 T2 : List Sec} (W0 : World) (h1 : StrsR W0 B1 c1 T1) (h2 : StrsR W0 B2 c2 T2) (hn1 : T1.length ≤ 1000000) (hn2 : T2.length ≤ 1000000) : Calls Try.prog 9 #[.slice B1 T1.length c1, .slice B2 T2.length c2] W0 fun e w' => e = .returned (.bool (decide (T1 = T2))) ∧ Ext W0 w' := by
 have O := OwnT.start W0
 refine Z0a Try.func9 rfl 26 rfl (by rfl) ?_
 intro a1 k hargs
 have e0 : a1.eval (.tmp 0) = .slice B1 T1.length c1 := hargs 0 _ rfl
 have e1 : a1.eval (.tmp 1) = .slice B2 T2.length c2 := hargs 1 _ rfl
 clear hargs
 by_cases hll : T1.length = T2.length
 rotate_left
 · skip
   refine wp_seq ?_
   refine wp_region_lit ?_
   have hE := Env.refl a1 [4]
   refine sd 4 hE k (Z01 rfl rfl) ?_
   intro a2 hE e4 kp
   refine wpList_nil ?_
   replace e0 := hE.g e0; replace e1 := hE.g e1
   replace k := k.env hE
   clear hE e4
   refine Z00 (wp_seq ?_)
   refine wp_seq ?_
   refine wp_region_lit ?_
   have hE := Env.refl a2 [6, 7, 8, 9, 10]
   refine zm 6 hE k e0 ?_
   intro a3 hE e6 kp
   refine sd 7 hE k (Z1c Try.underlying22 rfl e6) ?_
   intro a4 hE e7 kp
   refine zm 8 hE k e1 ?_
   intro a5 hE e8 kp
   replace e7 := kt kp e7
   refine sd 9 hE k (Z1c Try.underlying22 rfl e8) ?_
   intro a6 hE e9 kp
   replace e7 := kt kp e7
   refine sd 10 hE k (Z09 (Z15 rfl e7 e9) (decide_eq_true (by omega))) ?_
   intro a7 hE e10 kp
   refine wpList_nil ?_
   replace e0 := hE.g e0; replace e1 := hE.g e1
   replace k := k.env hE
   clear hE
   refine Z00 ?_
   refine Z0h e10 rfl ?_
   refine wp_seq ?_
   refine wp_region_lit ?_
   have hE := Env.refl a7 [4]
   refine sd 4 hE k (Z01 rfl rfl) ?_
   intro a8 hE e4 kp
   refine wpList_nil ?_
   replace k := k.env hE
   clear hE e0 e1 e10
   refine Z00 ?_
   refine wp_ret ?_
   refine Z0n ?_
   refine Z0f rfl k e4 ?_
   exact ⟨congrArg (fun b => Ending.returned (.bool b)) (decide_eq_false (fun h => hll (by rw [h]))).symm, O.below⟩
 refine wp_seq ?_
 refine wp_region_lit ?_
 have hE := Env.refl a1 [4]
 refine sd 4 hE k (Z01 rfl rfl) ?_
 intro a9 hE e4 kp
 refine wpList_nil ?_
 replace e0 := hE.g e0; replace e1 := hE.g e1
 replace k := k.env hE
 clear hE e4
 refine Z00 (wp_seq ?_)
 refine wp_seq ?_
 refine wp_region_lit ?_
 have hE := Env.refl a9 [6, 7, 8, 9, 10]
 refine zm 6 hE k e0 ?_
 intro a10 hE e6 kp
 refine sd 7 hE k (Z1c Try.underlying22 rfl e6) ?_
 intro a11 hE e7 kp
 refine zm 8 hE k e1 ?_
 intro a12 hE e8 kp
 replace e7 := kt kp e7
 refine sd 9 hE k (Z1c Try.underlying22 rfl e8) ?_
 intro a13 hE e9 kp
 replace e7 := kt kp e7
 refine sd 10 hE k (Z09 (Z15 rfl e7 e9) (decide_eq_false (by omega))) ?_
 intro a14 hE e10 kp
 refine wpList_nil ?_
 replace e0 := hE.g e0; replace e1 := hE.g e1
 replace k := k.env hE
 clear hE
 refine Z00 ?_
 refine Z08 e10 rfl ?_
 refine wp_skip ?_
 refine Z00 (wp_seq ?_)
 refine wp_seq ?_
 refine wp_region_lit ?_
 have hE := Env.refl a14 [5]
 refine sd 5 hE k (Z01 rfl rfl) ?_
 intro a15 hE e5 kp
 refine wpList_nil ?_
 replace e0 := hE.g e0; replace e1 := hE.g e1
 replace k := k.env hE
 clear hE e10
 refine Z00 ?_
 refine wp_block ?_
 refine wp_loop (fun a w => Fr 26 a ∧ a.eval (.tmp 0) = .slice B1 T1.length c1 ∧ a.eval (.tmp 1) = .slice B2 T2.length c2 ∧ ∃ (i : Nat), a.eval (.tmp 5) = .int .i64 ↑i ∧ i ≤ T1.length ∧ (∀ j, j < i → T1[j]? = T2[j]?) ∧ OwnT W0.heap.size W0 [] w) (fun a w => T1.length - (intOf (a.eval (.tmp 5))).toNat) ?_ ?_
 · exact ⟨k, e0, e1, 0, e5, Nat.zero_le _, (fun j h => absurd h (Nat.not_lt_zero j)), O⟩
 intro a16 w17 hI
 clear k e0 e1
 obtain ⟨k, e0, e1, h_⟩ := hI
 clear O e5
 obtain ⟨i, e5, hi, hpre, O⟩ := h_
 have mi := e5

 refine wp_seq ?_
 refine wp_seq ?_
 refine wp_region_lit ?_
 have hE := Env.refl a16 [11, 12, 13, 14]
 refine zm 11 hE k e5 ?_
 intro a18 hE e11 kp
 refine zm 12 hE k e0 ?_
 intro a19 hE e12 kp
 replace e11 := kt kp e11
 refine sd 13 hE k (Z1c Try.underlying22 rfl e12) ?_
 intro a20 hE e13 kp
 replace e11 := kt kp e11
 refine sd 14 hE k (Z5z rfl e11 e13) ?_
 intro a21 hE e14 kp
 refine wpList_nil ?_
 replace e0 := hE.g e0; replace e1 := hE.g e1; replace e5 := hE.g e5
 replace k := k.env hE
 clear hE
 refine Z00 ?_
 by_cases hlt : i < T1.length
 · have hltI : (i : Int) < (T1.length : Int) := by omega
   refine Z0h e14 (congrArg Value.bool (decide_eq_true (by omega))) ?_
   clear e14
   obtain ⟨x, hx⟩ : ∃ x, T1[i]? = some x := ⟨_, List.getElem?_eq_getElem hlt⟩
   obtain ⟨y, hy⟩ : ∃ y, T2[i]? = some y := ⟨_, List.getElem?_eq_getElem (by omega)⟩
   obtain ⟨g1, rfl, d1⟩ := (h1.below O.below).at_ hx
   obtain ⟨g2, rfl, d2⟩ := (h2.below O.below).at_ hy

   by_cases hxy : x ≠ y
   · skip
     refine wp_skip ?_
     refine Z00 (wp_seq ?_)
     refine wp_block ?_
     refine wp_seq ?_
     refine Z10 (R := Ext) (w0 := w17) [[], [], [0, 1], [0, 1, 2], [], [], [4, 5], [4, 5, 6], [0, 1, 2, 3, 4, 5, 6, 7]] [17, 18, 19, 20, 21, 22, 23, 24, 25] Ext.refl (fun _ _ _ => Ext.trans) (Ext.drew _) (by kernel_rfl) ?_
     apply bd 17 k rfl rfl rfl
     case h =>
      intro ax wx hE hR hF
      exact Z03 rfl (hE.g e0)
     apply bd 18 k rfl rfl rfl
     case h =>
      intro ax wx hE hR hF
      exact Z03 rfl (hE.g e5)
     apply bd 19 k rfl rfl rfl
     case h =>
      intro ax wx hE hR hF
      have e17 := zhF hF 0 17 ml1
      have e18 := zhF hF 1 18 ml0
      simp [go_sem, ↓IntWalk.iteOmega, ev e17, ev e18, Nat.zero_add]
      with_reducible rfl
     apply bd 20 k rfl rfl rfl
     case h =>
      intro ax wx hE hR hF
      have e19 := zhF hF 2 19 ml0
      have q1 : wx.cell? ⟨g1, i, none⟩ = some (.string (sB x)) := d_ext d1 hR
      simp [go_sem, ↓IntWalk.iteOmega, ev e19, q1, Nat.zero_add]
      with_reducible rfl
     apply bd 21 k rfl rfl rfl
     case h =>
      intro ax wx hE hR hF
      exact Z03 rfl (hE.g e1)
     apply bd 22 k rfl rfl rfl
     case h =>
      intro ax wx hE hR hF
      exact Z03 rfl (hE.g e5)
     apply bd 23 k rfl rfl rfl
     case h =>
      intro ax wx hE hR hF
      have e21 := zhF hF 4 21 ml1
      have e22 := zhF hF 5 22 ml0
      simp [go_sem, ↓IntWalk.iteOmega, ev e21, ev e22, Nat.zero_add]
      with_reducible rfl
     apply bd 24 k rfl rfl rfl
     case h =>
      intro ax wx hE hR hF
      have e23 := zhF hF 6 23 ml0
      have q2 : wx.cell? ⟨g2, i, none⟩ = some (.string (sB y)) := d_ext d2 hR
      simp [go_sem, ↓IntWalk.iteOmega, ev e23, q2, Nat.zero_add]
      with_reducible rfl
     apply bd 25 k rfl rfl rfl
     case h =>
      intro ax wx hE hR hF
      have e20 := zhF hF 3 20 ml4
      have e24 := zhF hF 7 24 ml0
      exact Z09 (Z4x (l := x) (m := y) rfl e20 e24) (decide_eq_true hxy)
     apply Build.stop
     refine ⟨by kernel_rfl, .inl ⟨rfl, ?_⟩⟩
     intro a22 w23 hE R hF
     have e25 : a22.eval (.tmp 25) = _ := hF 8 (det 25 _) ml0
     clear hF
     replace O := OwnT.ext O R
     clear R
     replace e0 := hE.g e0; replace e1 := hE.g e1; replace e5 := hE.g e5
     replace k := k.env hE
     clear hE
     refine Z00 ?_
     refine Z0h e25 rfl ?_
     refine wp_seq ?_
     refine wp_region_lit ?_
     have hE := Env.refl a22 [4]
     refine sd 4 hE k (Z01 rfl rfl) ?_
     intro a24 hE e4 kp
     refine wpList_nil ?_
     replace k := k.env hE
     clear hE e0 e1 e5 e25
     refine Z00 ?_
     refine wp_ret ?_
     refine Z1a ?_
     refine Z0n ?_
     refine Z0n ?_
     refine Z1a ?_
     refine Z0n ?_
     refine Z0f rfl k e4 ?_
     exact ⟨congrArg (fun b => Ending.returned (.bool b)) (decide_eq_false (fun h => hxy (by rw [h, hy] at hx; injection hx with hx; exact hx.symm))).symm, O.below⟩
   · replace hxy : x = y := Classical.not_not.1 hxy
     refine wp_skip ?_
     refine Z00 (wp_seq ?_)
     refine wp_block ?_
     refine wp_seq ?_
     refine Z10 (R := Ext) (w0 := w17) [[], [], [0, 1], [0, 1, 2], [], [], [4, 5], [4, 5, 6], [0, 1, 2, 3, 4, 5, 6, 7]] [17, 18, 19, 20, 21, 22, 23, 24, 25] Ext.refl (fun _ _ _ => Ext.trans) (Ext.drew _) (by kernel_rfl) ?_
     apply bd 17 k rfl rfl rfl
     case h =>
      intro ax wx hE hR hF
      exact Z03 rfl (hE.g e0)
     apply bd 18 k rfl rfl rfl
     case h =>
      intro ax wx hE hR hF
      exact Z03 rfl (hE.g e5)
     apply bd 19 k rfl rfl rfl
     case h =>
      intro ax wx hE hR hF
      have e17 := zhF hF 0 17 ml1
      have e18 := zhF hF 1 18 ml0
      simp [go_sem, ↓IntWalk.iteOmega, ev e17, ev e18, Nat.zero_add]
      with_reducible rfl
     apply bd 20 k rfl rfl rfl
     case h =>
      intro ax wx hE hR hF
      have e19 := zhF hF 2 19 ml0
      have q1 : wx.cell? ⟨g1, i, none⟩ = some (.string (sB x)) := d_ext d1 hR
      simp [go_sem, ↓IntWalk.iteOmega, ev e19, q1, Nat.zero_add]
      with_reducible rfl
     apply bd 21 k rfl rfl rfl
     case h =>
      intro ax wx hE hR hF
      exact Z03 rfl (hE.g e1)
     apply bd 22 k rfl rfl rfl
     case h =>
      intro ax wx hE hR hF
      exact Z03 rfl (hE.g e5)
     apply bd 23 k rfl rfl rfl
     case h =>
      intro ax wx hE hR hF
      have e21 := zhF hF 4 21 ml1
      have e22 := zhF hF 5 22 ml0
      simp [go_sem, ↓IntWalk.iteOmega, ev e21, ev e22, Nat.zero_add]
      with_reducible rfl
     apply bd 24 k rfl rfl rfl
     case h =>
      intro ax wx hE hR hF
      have e23 := zhF hF 6 23 ml0
      have q2 : wx.cell? ⟨g2, i, none⟩ = some (.string (sB y)) := d_ext d2 hR
      simp [go_sem, ↓IntWalk.iteOmega, ev e23, q2, Nat.zero_add]
      with_reducible rfl
     apply bd 25 k rfl rfl rfl
     case h =>
      intro ax wx hE hR hF
      have e20 := zhF hF 3 20 ml4
      have e24 := zhF hF 7 24 ml0
      exact Z09 (Z4x (l := x) (m := y) rfl e20 e24) (decide_eq_false (fun h => h hxy))
     apply Build.stop
     refine ⟨by kernel_rfl, .inl ⟨rfl, ?_⟩⟩
     intro a25 w26 hE R hF
     have e25 : a25.eval (.tmp 25) = _ := hF 8 (det 25 _) ml0
     clear hF
     replace O := OwnT.ext O R
     clear R
     replace e0 := hE.g e0; replace e1 := hE.g e1; replace e5 := hE.g e5
     replace k := k.env hE
     clear hE
     refine Z00 ?_
     refine Z08 e25 rfl ?_
     refine wp_skip ?_
     refine Z14 ?_
     refine Z00 ?_
     refine wp_region_lit ?_
     have hE := Env.refl a25 [15, 16, 5]
     refine sd 15 hE k (Z03 rfl e5) ?_
     intro a27 hE e15 kp
     replace e5 := kt kp e5
     refine sd 16 hE k (Z0r rfl e15 rfl (by omega)) ?_
     intro a28 hE e16 kp
     replace e5 := kt kp e5
     refine sd 5 hE k (Z01 rfl e16) ?_
     intro a29 hE e5 kp
     refine wpList_nil ?_
     replace e0 := hE.g e0; replace e1 := hE.g e1
     replace k := k.env hE
     clear hE e25
     refine Z00 ?_
     refine ⟨⟨k, e0, e1, i + 1, e5, by omega, (fun j hj => ?_), O⟩, ?_⟩
     · rcases Nat.lt_or_ge j i with h | h
       · exact hpre j h
       · obtain rfl : j = i := by omega
         rw [hx, hy, hxy]
     · rw [e5, mi]; simp only [intOf]; omega
 · have hltI : ¬ (i : Int) < (T1.length : Int) := by omega
   refine Z08 e14 (congrArg Value.bool (decide_eq_false (by omega))) ?_
   clear e0 e1 e5 e14
   obtain rfl : i = T1.length := by omega
   refine wp_exit ?_
   refine Z0k ?_
   refine Z0k ?_
   refine Z0t ?_
   refine Z00 (wp_seq ?_)
   refine wp_region_lit ?_
   have hE := Env.refl a21 [4]
   refine sd 4 hE k (Z01 rfl rfl) ?_
   intro a30 hE e4 kp
   refine wpList_nil ?_
   replace k := k.env hE
   clear hE
   refine Z00 ?_
   refine wp_ret ?_
   refine Z0f rfl k e4 ?_
   exact ⟨congrArg (fun b => Ending.returned (.bool b)) (decide_eq_true (rows_eq hll hpre)).symm, O.below⟩
end Go.Proofs.Ytakkhglbdljfiaa
