/- grids: widths, line, Text (printed by XGrD.gen.py). -/
import Derived.Test.YtgdlnfljfiageaaDoorKGridBack13
namespace Go.Proofs.YtgdlnfljfiageaaDoor
attribute [local simp] BigFrame.eval_const BigFrame.eval_global BigFrame.eval_func
set_option linter.unusedVariables false
set_option linter.unusedSimpArgs false
open Go.RowKit

def upW (W : Nat → Nat) (T : List Tx) (j : Nat) : Nat → Nat := fun k => if k < j then max (W k) (widthL (T.getD k [])) else W k
theorem Z6z (W : Nat → Nat) (T : List Tx) : upW W T 0 = W := by funext k; unfold upW; rw [if_neg (by omega)]
theorem Z70 {W : Nat → Nat} {T : List Tx} {j : Nat} {s : Tx} (h : T[j]? = some s) : (fun k => if k = j then max (upW W T j j) (widthL s) else upW W T j k) = upW W T (j + 1) := by
 funext k
 unfold upW
 by_cases e : k = j
 · subst e
   rw [if_pos rfl, if_neg (by omega), if_pos (by omega), List.getD, h]
   rfl
 · rw [if_neg e]
   by_cases h2 : k < j
   · rw [if_pos h2, if_pos (by omega)]
   · rw [if_neg h2, if_neg (by omega)]
theorem upW_end {X : List (List Tx)} {i : Nat} {T : List Tx} (h : X[i]? = some T) : upW (colW (X.take i)) T T.length = colW (X.take (i + 1)) := by
 have e : X.take (i + 1) = X.take i ++ [T] := by rw [List.take_add_one, h]; rfl
 rw [e]
 funext k
 rw [Z3v]
 unfold upW
 by_cases hk : k < T.length
 · rw [if_pos hk]
 · rw [if_neg hk, List.getD, List.getElem?_eq_none (by omega)]
   show _ = max _ 0
   omega
theorem Z64 {A w : World} (h : Below A.heap.size A w) : OwnT A.heap.size A [] w := ⟨h, h.size, trivial, (fun _ h => by cases h), List.Pairwise.nil⟩
theorem Z5l (l : Tx) (w : World) (hl : l.length ≤ 1000000000) : Calls Tryd.prog 36 #[.string (sB l), .string (sB [32])] w fun e w' => e = .returned (.string (sB (Lib.trimRightB l 32))) ∧ Ext w w' :=
 (Tryd.strings_TrimRight_one (sB l) 32 (by decide) w (by rw [Z0m]; omega)).mono fun e w' h => ⟨h.1, by rw [h.2]; exact Ext.refl _⟩
theorem Z76 {X : List (List Tx)} {T0 : List Tx} (h : tableB X = true) (h0 : X[0]? = some T0) : X.length ≤ 1000 ∧ ∀ T ∈ X, T.length = T0.length ∧ T.length ≤ 100 := by
 unfold tableB at h
 rw [Bool.and_eq_true, decide_eq_true_eq, List.all_eq_true] at h
 refine ⟨h.1, fun T hT => ?_⟩
 have h2 := h.2 T hT
 rw [Bool.and_eq_true, Bool.and_eq_true, decide_eq_true_eq, decide_eq_true_eq] at h2
 refine ⟨?_, h2.1.2⟩
 rw [h2.1.1]
 cases X with
 | nil => simp at h0
 | cons x r => simp at h0; rw [h0]; rfl
theorem Z63 {W : Nat → Nat} {T : List Tx} {i : Nat} {s : Tx} (h : T[i]? = some s) : padsL W 0 (T.take (i + 1)) = padsL W 0 (T.take i) ++ [padL (W i) s] := by
 have hi := (List.getElem?_eq_some_iff.1 h).1
 have e : T.take (i + 1) = T.take i ++ [s] := by rw [List.take_add_one, h]; rfl
 rw [e, Z1v, List.length_take, Nat.zero_add, Nat.min_eq_left (by omega)]

set_option maxRecDepth 100000 in
set_option maxHeartbeats 4000000 in
theorem Z1m {A : Option Addr} {ca m : Nat} {X : List (List Tx)} (W0 : World) (h : TxsR W0 A X) (hn : X.length ≤ 1000000000) (hm : m ≤ 1000000) (hs : ∀ T ∈ X, T.length ≤ m ∧ ∀ s ∈ T, s.length ≤ 100000) : Calls Tryd.prog 17 #[.slice A X.length ca, .int .i64 (m : Nat)] W0 fun e w' => ∃ g, e = .returned (.slice (some ⟨g, 0, none⟩) m m) ∧ W0.heap.size ≤ g ∧ (tBlk g 3 (wsC m (colW X))).holds w' ∧ Ext W0 w' := by
 have O := OwnT.start W0
 refine Z0k Tryd.func17 rfl 38 rfl (by rfl) ?_
 intro a1 k hargs
 have e0 : a1.eval (.tmp 0) = .slice A X.length ca := hargs 0 _ rfl
 have e1 : a1.eval (.tmp 1) = .int .i64 ↑m := hargs 1 _ rfl
 clear hargs
 refine wp_seq ?_
 refine wp_region_lit ?_
 have hE := Env.refl a1 [4]
 refine sd 4 hE k (Z01 rfl rfl) ?_
 intro a2 hE e4 kp
 refine wpList_nil ?_
 replace e0 := hE.g e0; replace e1 := hE.g e1
 replace k := k.env hE
 clear hE e4
 refine Z00 ?_
 obtain ⟨g, w9, hmk, O9⟩ := Z52 m O (by omega)
 refine wp_seq ?_
 refine wp_region_lit ?_
 have hE := Env.refl a2 [10, 11, 5]
 refine zm 10 hE k e1 ?_
 intro a3 hE e10 kp
 apply Z14 11 hE k rfl (by rfl) (by rfl) rfl
 case h =>
  exact hmk _ _ _ _ rfl e10 e10
 intro a4 hE e11 kp
 replace O := O9
 clear O9 hmk
 refine sd 5 hE k (Z01 rfl e11) ?_
 intro a5 hE e5 kp
 refine wpList_nil ?_
 replace e0 := hE.g e0
 replace k := k.env hE
 clear hE e1
 refine Z00 (wp_seq ?_)
 refine wp_seq ?_
 refine wp_region_lit ?_
 have hE := Env.refl a5 [12, 13, 14]
 refine zm 12 hE k e0 ?_
 intro a6 hE e12 kp
 refine sd 13 hE k (Z0d Tryd.underlying22 rfl e12) ?_
 intro a7 hE e13 kp
 replace e12 := kt kp e12
 refine sd 14 hE k (Z02 rfl rfl) ?_
 intro a8 hE e14 kp
 replace e12 := kt kp e12; replace e13 := kt kp e13
 refine wpList_nil ?_
 replace e5 := hE.g e5
 replace k := k.env hE
 clear hE e0
 refine Z00 ?_
 refine wp_block ?_
 refine wp_loop (fun a w => Fr 38 a ∧ a.eval (.tmp 5) = .slice (some ⟨g, 0, none⟩) m m ∧ a.eval (.tmp 12) = .slice A X.length ca ∧ a.eval (.tmp 13) = .int .i64 ↑X.length ∧ ∃ (i : Nat), a.eval (.tmp 14) = .int .i64 ↑i ∧ i ≤ X.length ∧ OwnT W0.heap.size W0 [tBlk g 3 (wsC m (colW (X.take i)))] w) (fun a w => X.length - (intOf (a.eval (.tmp 14))).toNat) ?_ ?_
 · exact ⟨k, e5, e12, e13, 0, e14, Nat.zero_le _, O⟩
 intro a9 w10 hI
 clear k e5 e12 e13
 obtain ⟨k, e5, e12, e13, h_⟩ := hI
 clear O e14
 obtain ⟨i, e14, hi, O⟩ := h_
 have mi := e14

 by_cases hlt : i < X.length
 · skip
   have hzI : (i : Int) < (X.length : Int) := by omega
   obtain ⟨T, hT⟩ : ∃ T, X[i]? = some T := ⟨_, List.getElem?_eq_getElem hlt⟩
   obtain ⟨b, o, hA, hsp⟩ := h.spot hT
   obtain ⟨Aj, cj, hr, hc⟩ := hsp i T hT
   obtain ⟨hTm, hTs⟩ := hs T (List.mem_of_getElem? hT)
   have hend := upW_end hT
   obtain ⟨W, hW⟩ : ∃ W, colW (X.take i) = W := ⟨_, rfl⟩
   rw [hW] at hend O
   rw [← Z6z W T] at O
   subst hA

   refine wp_seq ?_
   refine wp_region_lit ?_
   have hE := Env.refl a9 [15]
   refine sd 15 hE k (Z06 (Z0j rfl (hE.g e14) (hE.g e13)) (decide_eq_true (by omega))) ?_
   intro a11 hE e15 kp
   refine wpList_nil ?_
   replace e5 := hE.g e5; replace e12 := hE.g e12; replace e13 := hE.g e13; replace e14 := hE.g e14
   replace k := k.env hE
   clear hE
   refine Z00 (wp_seq ?_)
   refine Z0a e15 rfl ?_
   refine wp_skip ?_
   refine Z00 (wp_seq ?_)
   refine wp_block ?_
   refine wp_seq ?_
   refine wp_region_lit ?_
   have hE := Env.refl a11 [16, 17, 7]
   apply Z05 16 hE k rfl rfl rfl rfl
   case h =>
    simp [go_sem, ↓IntWalk.iteOmega, ev (hE.g e12), ev (hE.g e14)]
    with_reducible rfl
   intro a12 hE e16 kp
   apply Z05 17 hE k rfl rfl rfl rfl
   case h =>
    simp [go_sem, ↓IntWalk.iteOmega, ev e16, hc _ O.below]
    with_reducible rfl
   intro a13 hE e17 kp
   refine sd 7 hE k (Z01 rfl e17) ?_
   intro a14 hE e7 kp
   refine wpList_nil ?_
   replace e5 := hE.g e5; replace e12 := hE.g e12; replace e13 := hE.g e13; replace e14 := hE.g e14
   replace k := k.env hE
   clear hE e15
   refine Z00 (wp_seq ?_)
   refine wp_region_lit ?_
   have hE := Env.refl a14 [18, 19, 20]
   refine zm 18 hE k e7 ?_
   intro a15 hE e18 kp
   refine sd 19 hE k (Z0d Tryd.underlying36 rfl e18) ?_
   intro a16 hE e19 kp
   replace e18 := kt kp e18
   refine sd 20 hE k (Z02 rfl rfl) ?_
   intro a17 hE e20 kp
   replace e18 := kt kp e18; replace e19 := kt kp e19
   refine wpList_nil ?_
   replace e5 := hE.g e5; replace e12 := hE.g e12; replace e13 := hE.g e13; replace e14 := hE.g e14
   replace k := k.env hE
   clear hE e7
   refine Z00 ?_
   refine wp_block ?_
   refine wp_loop (fun a w => Fr 38 a ∧ a.eval (.tmp 5) = .slice (some ⟨g, 0, none⟩) m m ∧ a.eval (.tmp 12) = .slice (some ⟨b, o, none⟩) X.length ca ∧ a.eval (.tmp 13) = .int .i64 ↑X.length ∧ a.eval (.tmp 14) = .int .i64 ↑i ∧ a.eval (.tmp 18) = .slice Aj T.length cj ∧ a.eval (.tmp 19) = .int .i64 ↑T.length ∧ ∃ (j : Nat), a.eval (.tmp 20) = .int .i64 ↑j ∧ j ≤ T.length ∧ OwnT W0.heap.size W0 [tBlk g 3 (wsC m (upW W T j))] w) (fun a w => T.length - (intOf (a.eval (.tmp 20))).toNat) ?_ ?_
   · exact ⟨k, e5, e12, e13, e14, e18, e19, 0, e20, Nat.zero_le _, O⟩
   intro a18 w19 hJ
   clear k e5 e12 e13 e14 e18 e19
   obtain ⟨k, e5, e12, e13, e14, e18, e19, h_⟩ := hJ
   clear O e20
   obtain ⟨j, e20, hj, O⟩ := h_
   have mj := e20

   by_cases hlj : j < T.length
   · skip
     have hzJ : (j : Int) < (T.length : Int) := by omega
     obtain ⟨s, hs1⟩ : ∃ s, T[j]? = some s := ⟨_, List.getElem?_eq_getElem hlj⟩
     obtain ⟨b2, o2, hA2, hsp2⟩ := hr.spot hs1
     have hsl := hTs s (List.mem_of_getElem? hs1)
     have hjm : j < m := by omega
     subst hA2

     refine wp_seq ?_
     refine wp_region_lit ?_
     have hE := Env.refl a18 [21]
     refine sd 21 hE k (Z06 (Z0j rfl (hE.g e20) (hE.g e19)) (decide_eq_true (by omega))) ?_
     intro a20 hE e21 kp
     refine wpList_nil ?_
     replace e5 := hE.g e5; replace e12 := hE.g e12; replace e13 := hE.g e13; replace e14 := hE.g e14; replace e18 := hE.g e18; replace e19 := hE.g e19; replace e20 := hE.g e20
     replace k := k.env hE
     clear hE
     refine Z00 (wp_seq ?_)
     refine Z0a e21 rfl ?_
     refine wp_skip ?_
     refine Z00 (wp_seq ?_)
     refine wp_block ?_
     refine wp_seq ?_
     refine wp_region_lit ?_
     have hE := Env.refl a20 [22, 23, 24, 8, 9]
     refine zm 22 hE k e20 ?_
     intro a21 hE e22 kp
     apply Z05 23 hE k rfl rfl rfl rfl
     case h =>
      simp [go_sem, ↓IntWalk.iteOmega, ev (hE.g e18), ev (hE.g e20)]
      with_reducible rfl
     intro a22 hE e23 kp
     replace e22 := kt kp e22
     apply Z05 24 hE k rfl rfl rfl rfl
     case h =>
      simp [go_sem, ↓IntWalk.iteOmega, ev e23, hsp2 _ O.below j s hs1]
      with_reducible rfl
     intro a23 hE e24 kp
     replace e22 := kt kp e22
     refine sd 8 hE k (Z01 rfl e22) ?_
     intro a24 hE e8 kp
     replace e24 := kt kp e24
     refine sd 9 hE k (Z01 rfl e24) ?_
     intro a25 hE e9 kp
     replace e8 := kt kp e8
     refine wpList_nil ?_
     replace e5 := hE.g e5; replace e12 := hE.g e12; replace e13 := hE.g e13; replace e14 := hE.g e14; replace e18 := hE.g e18; replace e19 := hE.g e19; replace e20 := hE.g e20
     replace k := k.env hE
     clear hE e21
     refine Z00 ?_
     refine Z13 (R := Ext) (w0 := w19) [[], [], [], [], [2, 3], [2, 3, 4], [], [6], [2, 3, 4, 5, 6, 7], [0, 1, 2, 3, 4, 5, 6, 7, 8], [0, 1, 2, 3, 4, 5, 6, 7, 8, 9]] [25, 26, 27, 28, 29, 30, 31, 32, 33, 34] Ext.refl (fun _ _ _ => Ext.trans) (Ext.drew _) (by kernel_rfl) ?_
     apply bd 25 k rfl rfl rfl
     case h =>
      intro ax wx hE hR hF
      exact Z02 rfl (hE.g e5)
     apply bd 26 k rfl rfl rfl
     case h =>
      intro ax wx hE hR hF
      exact Z02 rfl (hE.g e8)
     apply bd 27 k rfl rfl rfl
     case h =>
      intro ax wx hE hR hF
      exact Z02 rfl (hE.g e5)
     apply bd 28 k rfl rfl rfl
     case h =>
      intro ax wx hE hR hF
      exact Z02 rfl (hE.g e8)
     apply bd 29 k rfl rfl rfl
     case h =>
      intro ax wx hE hR hF
      have e27 := zhF hF 2 27 ml1
      have e28 := zhF hF 3 28 ml0
      simp [go_sem, ↓IntWalk.iteOmega, ev e27, ev e28]
      with_reducible rfl
     apply bd 30 k rfl rfl rfl
     case h =>
      intro ax wx hE hR hF
      have e29 := zhF hF 4 29 ml0
      have cj : wx.cell? ⟨g, j, none⟩ = some (.int .i64 ((upW W T j j : Nat) : Int)) := ((OwnT.blk (OwnT.ext O hR) 0 rfl).cell j).trans (Z47 hjm)
      simp [go_sem, ↓IntWalk.iteOmega, ev e29, cj]
      with_reducible rfl
     apply bd 31 k rfl rfl rfl
     case h =>
      intro ax wx hE hR hF
      exact Z02 rfl (hE.g e9)
     apply Build.call 32 Ext.refl (by rfl) (by rw [k.size]; rfl) rfl
     case h =>
      intro ax wx hE hR hF
      have e31 := zhF hF 6 31 ml0
      simp [go_sem, ↓IntWalk.iteOmega, ev e31]
      with_reducible exact ⟨rfl, rfl⟩
     case hc => intro wx hR; exact Z1k s wx (by omega)
     apply bd 33 k rfl rfl rfl
     case h =>
      intro ax wx hE hR hF
      have e30 := zhF hF 5 30 ml2
      have e32 := zhF hF 7 32 ml0
      exact Z39 (v := .int .i64 ↑(max (upW W T j j) (widthL s))) (Z8a rfl e30 e32) (Z0x (by omega))
     apply bd 34 k rfl rfl rfl
     case h =>
      intro ax wx hE hR hF
      have e25 := zhF hF 0 25 ml8
      have e26 := zhF hF 1 26 ml7
      simp [go_sem, ↓IntWalk.iteOmega, ev e25, ev e26]
      with_reducible rfl
     apply Build.stop
     refine ⟨by kernel_rfl, .inr ⟨by kernel_rfl, _, rfl, rfl, ?_⟩⟩
     intro a26 w27 hE R hF
     have e33 : a26.eval (.tmp 33) = _ := hF 8 (det 33 _) ml1
     have e34 : a26.eval (.tmp 34) = _ := hF 9 (det 34 _) ml0
     clear hF
     replace O := OwnT.ext O R
     clear R
     have q0 : w27.cell? ⟨g, j, none⟩ = some (.int .i64 ((upW W T j j : Nat) : Int)) := ((OwnT.blk O 0 rfl).cell j).trans (Z47 hjm)
     have q1 : w27.frozen? ⟨g, j, none⟩ = false := (OwnT.blk O 0 rfl).frozen j
     refine Z54 (off := j) (v := .int .i64 ((max (upW W T j j) (widthL s) : Nat) : Int)) O 0 rfl rfl (by simp [go_sem, ↓IntWalk.iteOmega, ev e34, ev e33, q0, q1]) ?_
     clear q0 q1 O
     intro wN O
     replace O : OwnT W0.heap.size W0 [tBlk g 3 (wsC m (upW W T (j + 1)))] wN := by rw [← Z70 hs1, ← wsC_set hjm]; exact O
     replace e5 := hE.g e5; replace e12 := hE.g e12; replace e13 := hE.g e13; replace e14 := hE.g e14; replace e18 := hE.g e18; replace e19 := hE.g e19; replace e20 := hE.g e20
     replace k := k.env hE
     clear hE e8 e9 e33 e34
     refine Z0i ?_
     refine Z00 ?_
     refine wp_region_lit ?_
     have hE := Env.refl a26 [35, 20]
     refine sd 35 hE k (Z0z rfl e20 rfl (by omega)) ?_
     intro a28 hE e35 kp
     replace e20 := kt kp e20
     refine sd 20 hE k (Z02 rfl e35) ?_
     intro a29 hE e20 kp
     refine wpList_nil ?_
     replace e5 := hE.g e5; replace e12 := hE.g e12; replace e13 := hE.g e13; replace e14 := hE.g e14; replace e18 := hE.g e18; replace e19 := hE.g e19
     replace k := k.env hE
     clear hE
     refine Z00 ?_
     refine ⟨⟨k, e5, e12, e13, e14, e18, e19, j + 1, e20, by omega, O⟩, ?_⟩
     rw [e20, mj]; simp only [intOf]; omega
   · have hzJ : ¬ (j : Int) < (T.length : Int) := by omega
     obtain rfl : j = T.length := by omega
     rw [hend] at O
     refine wp_seq ?_
     refine wp_region_lit ?_
     have hE := Env.refl a18 [21]
     refine sd 21 hE k (Z06 (Z0j rfl (hE.g e20) (hE.g e19)) (decide_eq_false (by omega))) ?_
     intro a30 hE e21 kp
     refine wpList_nil ?_
     replace e5 := hE.g e5; replace e12 := hE.g e12; replace e13 := hE.g e13; replace e14 := hE.g e14; replace e18 := hE.g e18; replace e19 := hE.g e19; replace e20 := hE.g e20
     replace k := k.env hE
     clear hE
     refine Z00 (wp_seq ?_)
     refine Z0e e21 rfl ?_
     refine wp_exit ?_
     refine Z0f ?_
     refine Z0f ?_
     refine Z0n ?_
     refine Z0i ?_
     refine Z00 ?_
     refine wp_region_lit ?_
     have hE := Env.refl a30 [36, 14]
     refine sd 36 hE k (Z0z rfl e14 rfl (by omega)) ?_
     intro a31 hE e36 kp
     replace e14 := kt kp e14
     refine sd 14 hE k (Z02 rfl e36) ?_
     intro a32 hE e14 kp
     refine wpList_nil ?_
     replace e5 := hE.g e5; replace e12 := hE.g e12; replace e13 := hE.g e13
     replace k := k.env hE
     clear hE e18 e19 e20 e21
     refine Z00 ?_
     refine ⟨⟨k, e5, e12, e13, i + 1, e14, by omega, O⟩, ?_⟩
     rw [e14, mi]; simp only [intOf]; omega
 · skip
   rw [List.take_of_length_le (by omega)] at O
   refine wp_seq ?_
   refine wp_region_lit ?_
   have hE := Env.refl a9 [15]
   refine sd 15 hE k (Z06 (Z0j rfl (hE.g e14) (hE.g e13)) (decide_eq_false (by omega))) ?_
   intro a33 hE e15 kp
   refine wpList_nil ?_
   replace e5 := hE.g e5; replace e12 := hE.g e12; replace e13 := hE.g e13; replace e14 := hE.g e14
   replace k := k.env hE
   clear hE
   refine Z00 (wp_seq ?_)
   refine Z0e e15 rfl ?_
   refine wp_exit ?_
   refine Z0f ?_
   refine Z0f ?_
   refine Z0n ?_
   refine Z00 (wp_seq ?_)
   refine wp_region_lit ?_
   have hE := Env.refl a33 [37, 4]
   refine zm 37 hE k e5 ?_
   intro a34 hE e37 kp
   refine sd 4 hE k (Z01 rfl e37) ?_
   intro a35 hE e4 kp
   refine wpList_nil ?_
   replace k := k.env hE
   clear hE e5 e12 e13 e14 e15
   refine Z00 ?_
   refine wp_ret ?_
   refine Z0b rfl k e4 ?_
   exact ⟨g, rfl, O.high (tBlk g 3 (wsC m (colW X))) (by simp) g (by simp [tBlk]), OwnT.get O 0 rfl, O.below⟩
set_option maxRecDepth 100000 in
set_option maxHeartbeats 4000000 in
theorem Z6b {A : Option Addr} {ca g m : Nat} {T : List Tx} {W : Nat → Nat} (W0 : World) (h : TxR W0 A T) (hw : (tBlk g 3 (wsC m W)).holds W0) (hTm : T.length ≤ m) (hm : m ≤ 1000) (hge : ∀ i s, T[i]? = some s → widthL s ≤ W i) (hWb : ∀ k, W k ≤ 10000) (hs : ∀ s ∈ T, s.length ≤ 10000) : Calls Tryd.prog 19 #[.slice A T.length ca, .slice (some ⟨g, 0, none⟩) m m] W0 fun e w' => e = .returned (.string (sB (lineL W T))) ∧ Ext W0 w' := by
 have O := OwnT.start W0
 have hjl := Z4n bar (padsL W 0 T) (Z31 (b := 10000) hWb T 0 hs)
 rw [Z1q] at hjl
 have hjl2 : (Lib.join (padsL W 0 T) bar).length ≤ 100000000 := by
  have h1 : T.length * (2 * 10000 + bar.length) ≤ 1000 * (2 * 10000 + bar.length) := Nat.mul_le_mul_right _ (by omega)
  have h2 : bar.length = 3 := rfl
  rw [h2] at h1 hjl
  omega
 have htr := Z3d (Lib.join (padsL W 0 T) bar) 32

 refine Z0k Tryd.func19 rfl 33 rfl (by rfl) ?_
 intro a1 k hargs
 have e0 : a1.eval (.tmp 0) = .slice A T.length ca := hargs 0 _ rfl
 have e1 : a1.eval (.tmp 1) = .slice (some ⟨g, 0, none⟩) m m := hargs 1 _ rfl
 clear hargs
 refine wp_seq ?_
 refine wp_region_lit ?_
 have hE := Env.refl a1 [4]
 refine sd 4 hE k (Z01 rfl rfl) ?_
 intro a2 hE e4 kp
 refine wpList_nil ?_
 replace e0 := hE.g e0; replace e1 := hE.g e1
 replace k := k.env hE
 clear hE e4
 refine Z00 (wp_seq ?_)
 refine wp_region_lit ?_
 have hE := Env.refl a2 [5]
 refine sd 5 hE k (Z01 rfl rfl) ?_
 intro a3 hE e5 kp
 refine wpList_nil ?_
 replace e0 := hE.g e0; replace e1 := hE.g e1
 replace k := k.env hE
 clear hE
 refine Z00 (wp_seq ?_)
 refine wp_seq ?_
 refine wp_region_lit ?_
 have hE := Env.refl a3 [8, 9, 10]
 refine zm 8 hE k e0 ?_
 intro a4 hE e8 kp
 refine sd 9 hE k (Z0d Tryd.underlying36 rfl e8) ?_
 intro a5 hE e9 kp
 replace e8 := kt kp e8
 refine sd 10 hE k (Z02 rfl rfl) ?_
 intro a6 hE e10 kp
 replace e8 := kt kp e8; replace e9 := kt kp e9
 refine wpList_nil ?_
 replace e1 := hE.g e1; replace e5 := hE.g e5
 replace k := k.env hE
 clear hE e0
 refine Z00 ?_
 refine wp_block ?_
 replace O := OwnT.nilRow O 9 1
 refine wp_loop (fun a w => Fr 33 a ∧ a.eval (.tmp 1) = .slice (some ⟨g, 0, none⟩) m m ∧ a.eval (.tmp 8) = .slice A T.length ca ∧ a.eval (.tmp 9) = .int .i64 ↑T.length ∧ ∃ (i : Nat) (Bo : Option Addr) (co : Nat), a.eval (.tmp 5) = .slice Bo i co ∧ a.eval (.tmp 10) = .int .i64 ↑i ∧ i ≤ T.length ∧ OwnT W0.heap.size W0 [tRow 9 1 (.slice Bo i co) i (txV (padsL W 0 (T.take i)))] w) (fun a w => T.length - (intOf (a.eval (.tmp 10))).toNat) ?_ ?_
 · exact ⟨k, e1, e8, e9, 0, none, 0, e5, e10, Nat.zero_le _, O⟩
 intro a7 w8 hI
 clear k e1 e8 e9
 obtain ⟨k, e1, e8, e9, h_⟩ := hI
 clear O e5 e10
 obtain ⟨i, Bo, co, e5, e10, hi, O⟩ := h_
 have mi := e10

 by_cases hlt : i < T.length
 · skip
   have hzI : (i : Int) < (T.length : Int) := by omega
   obtain ⟨s, hs1⟩ : ∃ s, T[i]? = some s := ⟨_, List.getElem?_eq_getElem hlt⟩
   obtain ⟨b2, o2, hA2, hsp2⟩ := h.spot hs1
   have hsl := hs s (List.mem_of_getElem? hs1)
   have hwi := hge i s hs1
   have hWi := hWb i
   subst hA2

   refine wp_seq ?_
   refine wp_region_lit ?_
   have hE := Env.refl a7 [11]
   refine sd 11 hE k (Z06 (Z0j rfl (hE.g e10) (hE.g e9)) (decide_eq_true (by omega))) ?_
   intro a9 hE e11 kp
   refine wpList_nil ?_
   replace e1 := hE.g e1; replace e5 := hE.g e5; replace e8 := hE.g e8; replace e9 := hE.g e9; replace e10 := hE.g e10
   replace k := k.env hE
   clear hE
   refine Z00 (wp_seq ?_)
   refine Z0a e11 rfl ?_
   refine wp_skip ?_
   refine Z00 (wp_seq ?_)
   refine wp_block ?_
   refine wp_seq ?_
   refine wp_region_lit ?_
   have hE := Env.refl a9 [12, 13, 14, 6, 7]
   refine zm 12 hE k e10 ?_
   intro a10 hE e12 kp
   apply Z05 13 hE k rfl rfl rfl rfl
   case h =>
    simp [go_sem, ↓IntWalk.iteOmega, ev (hE.g e8), ev (hE.g e10)]
    with_reducible rfl
   intro a11 hE e13 kp
   replace e12 := kt kp e12
   apply Z05 14 hE k rfl rfl rfl rfl
   case h =>
    simp [go_sem, ↓IntWalk.iteOmega, ev e13, hsp2 _ O.below i s hs1]
    with_reducible rfl
   intro a12 hE e14 kp
   replace e12 := kt kp e12
   refine sd 6 hE k (Z01 rfl e12) ?_
   intro a13 hE e6 kp
   replace e14 := kt kp e14
   refine sd 7 hE k (Z01 rfl e14) ?_
   intro a14 hE e7 kp
   replace e6 := kt kp e6
   refine wpList_nil ?_
   replace e1 := hE.g e1; replace e5 := hE.g e5; replace e8 := hE.g e8; replace e9 := hE.g e9; replace e10 := hE.g e10
   replace k := k.env hE
   clear hE e11
   refine Z00 ?_
   refine wp_tail (w0 := w8) [[], [], [], [], [2, 3], [2, 3, 4], [], [6], [2, 3, 4, 5, 6, 7], [2, 3, 4, 5, 6, 7, 8], [1, 2, 3, 4, 5, 6, 7, 8, 9], [1, 2, 3, 4, 5, 6, 7, 8, 9, 10], [0, 1, 2, 3, 4, 5, 6, 7, 8, 9, 10, 11], [0, 1, 2, 3, 4, 5, 6, 7, 8, 9, 10, 11, 12]] [15, 16, 17, 18, 19, 20, 21, 22, 23, 24, 25, 26] (by kernel_rfl) ?_
   apply BuildL.det 15 (fun _ w_ => Ext.refl w_) (fun _ _ h => h) (by rfl) (by rw [k.size]; rfl) rfl
   case h =>
    intro lx ax wx hE hR hF
    exact Z02 rfl (hE.g e5)
   apply BuildL.det 16 (fun _ w_ => Ext.refl w_) (fun _ _ h => h) (by rfl) (by rw [k.size]; rfl) rfl
   case h =>
    intro lx ax wx hE hR hF
    exact Z02 rfl (hE.g e7)
   apply BuildL.det 17 (fun _ w_ => Ext.refl w_) (fun _ _ h => h) (by rfl) (by rw [k.size]; rfl) rfl
   case h =>
    intro lx ax wx hE hR hF
    exact Z02 rfl (hE.g e1)
   apply BuildL.det 18 (fun _ w_ => Ext.refl w_) (fun _ _ h => h) (by rfl) (by rw [k.size]; rfl) rfl
   case h =>
    intro lx ax wx hE hR hF
    exact Z02 rfl (hE.g e6)
   apply BuildL.det 19 (fun _ w_ => Ext.refl w_) (fun _ _ h => h) (by rfl) (by rw [k.size]; rfl) rfl
   case h =>
    intro lx ax wx hE hR hF
    have e17 := hF 2 (detL 2 17 _) (by decide) ml1
    have e18 := hF 3 (detL 3 18 _) (by decide) ml0
    simp [go_sem, ↓IntWalk.iteOmega, ev e17, ev e18]
    with_reducible rfl
   apply BuildL.det 20 (fun _ w_ => Ext.refl w_) (fun _ _ h => h) (by rfl) (by rw [k.size]; rfl) rfl
   case h =>
    intro lx ax wx hE hR hF
    have e19 := hF 4 (detL 4 19 _) (by decide) ml0
    have cj : wx.cell? ⟨g, i, none⟩ = some (.int .i64 ((W i : Nat) : Int)) := (((show Blk _ _ _ _ from hw).ext (OwnT.ext O hR).below).cell i).trans (Z47 (by omega))
    simp [go_sem, ↓IntWalk.iteOmega, ev e19, cj]
    with_reducible rfl
   apply BuildL.det 21 (fun _ w_ => Ext.refl w_) (fun _ _ h => h) (by rfl) (by rw [k.size]; rfl) rfl
   case h =>
    intro lx ax wx hE hR hF
    exact Z02 rfl (hE.g e7)
   apply BuildL.call 22 (by rfl) (by rw [k.size]; rfl) rfl
   case h =>
    intro lx ax wx hE hR hF
    have e21 := hF 6 (detL 6 21 _) (by decide) ml0
    simp [go_sem, ↓IntWalk.iteOmega, ev e21]
    with_reducible exact ⟨rfl, rfl⟩
   case hc => intro lx wx hR _ _; exact (Z1k s wx (by omega)).mono (fun e w' h => ⟨h.1, h.2, Ext.trans hR h.2⟩)
   apply BuildL.det 23 (fun _ w_ => Ext.refl w_) (fun _ _ h => h) (by rfl) (by rw [k.size]; rfl) rfl
   case h =>
    intro lx ax wx hE hR hF
    have e20 := hF 5 (detL 5 20 _) (by decide) ml2
    have e22 := hF 7 (detL 7 22 _) (by decide) ml0
    exact Z39 (v := .int .i64 ↑(W i - widthL s)) (Z6t rfl e20 e22 (by omega)) (Z0x (by omega))
   apply BuildL.call 24 (by rfl) (by rw [k.size]; rfl) rfl
   case h =>
    intro lx ax wx hE hR hF
    have e23 := hF 8 (detL 8 23 _) (by decide) ml0
    simp [go_sem, ↓IntWalk.iteOmega, ev e23]
    with_reducible exact ⟨rfl, rfl⟩
   case hc => intro lx wx hR _ _; exact (sp_l (W i - widthL s) wx (by omega)).mono (fun e w' h => ⟨h.1, h.2, Ext.trans hR h.2⟩)
   apply BuildL.det 25 (fun _ w_ => Ext.refl w_) (fun _ _ h => h) (by rfl) (by rw [k.size]; rfl) rfl
   case h =>
    intro lx ax wx hE hR hF
    have e16 := hF 1 (detL 1 16 _) (by decide) ml8
    have e24 := hF 9 (detL 9 24 _) (by decide) ml0
    exact Z39 (v := .string (sB (padL (W i) s))) (Z6v (l := s) (m := List.replicate (W i - widthL s) 32) rfl e16 e24 (by rw [List.length_replicate]; omega)) rfl
   refine BuildL.new 26 (fun v w => ∃ gn, v = .slice (some ⟨gn, 0, none⟩) 1 1 ∧ w8.heap.size ≤ gn ∧ (tBlk gn 9 #[.string (sB (padL (W i) s))]).holds w) (fun l v w w2 hl hR h => by obtain ⟨gn, e, h1, h2⟩ := h; exact ⟨gn, e, h1, (show Blk _ _ _ _ from h2).ext hR⟩) (by rfl) (by rw [k.size]; rfl) rfl ?_ ?_
   · intro lx ax wx hE hR hl hA hF
     have e25 := hF 10 (detL 10 25 _) (by decide) ml0
     refine ⟨.slice (some ⟨wx.heap.size, 0, none⟩) 1 1, wx.alloc (.cells #[.string (sB (padL (W i) s))] 9), by simp [go_sem, ↓IntWalk.iteOmega, ev e25], Ext.alloc wx _, Ext.trans hR (Ext.alloc wx _), wx.heap.size, rfl, hR.size, World.alloc_heap_new wx _⟩
   apply BuildL.stop
   refine ⟨by kernel_rfl, ?_⟩
   intro lx a15 w16 hE R hL hF
   have e15 : a15.eval (.tmp 15) = _ := hF 0 (detL 0 15 _) ml11
   have f26 := hF 11 _ ml0
   clear hF hL
   obtain ⟨gn, e26, hgn, hbn⟩ := f26
   replace O := OwnT.cons O R (tBlk gn 9 #[.string (sB (padL (W i) s))]) hbn (fun i hi => by simp [tBlk] at hi; omega)
   clear R
   simp only [List.length_cons, List.length_nil, Nat.zero_add, Nat.reduceAdd, List.drop_succ_cons, List.drop_zero, List.drop_nil, tailOps]
   obtain ⟨gr, cr, w17, hrun, O⟩ := Z38 O elemTx (by decide) rfl (by intro u hu; simp at hu; subst hu; rfl) (by unfold maxLen; omega) (by omega)
   apply Z4d (w' := w17) 27 [15, 16, 17, 18, 19, 20, 21, 22, 23, 24, 25, 26, 27] hE k rfl (by rfl) (by rfl) (by rfl)
   case h => exact Z1o rfl e15 e26 (hrun _)
   clear hrun
   intro a18 hE e27 kp
   apply Z4d (w' := w17) 5 [15, 16, 17, 18, 19, 20, 21, 22, 23, 24, 25, 26, 27, 5] hE k rfl (by rfl) (by rfl) (by rfl)
   case h =>
    exact Z01 rfl e27
   intro a19 hE e5 kp
   replace e1 := hE.g e1; replace e8 := hE.g e8; replace e9 := hE.g e9; replace e10 := hE.g e10
   replace k := k.env hE
   clear hE e6 e7
   refine Z0i ?_
   refine Z00 ?_
   replace O : OwnT W0.heap.size W0 [tRow 9 1 (.slice (some ⟨gr, 0, none⟩) (i + 1) cr) (i + 1) (txV (padsL W 0 (T.take (i + 1))))] w17 := by rw [Z63 hs1, Z5k]; exact O
   refine wp_region_lit ?_
   have hE := Env.refl a19 [28, 10]
   refine sd 28 hE k (Z0z rfl e10 rfl (by omega)) ?_
   intro a20 hE e28 kp
   replace e10 := kt kp e10
   refine sd 10 hE k (Z02 rfl e28) ?_
   intro a21 hE e10 kp
   refine wpList_nil ?_
   replace e1 := hE.g e1; replace e5 := hE.g e5; replace e8 := hE.g e8; replace e9 := hE.g e9
   replace k := k.env hE
   clear hE
   refine Z00 ?_
   refine ⟨⟨k, e1, e8, e9, i + 1, some ⟨gr, 0, none⟩, cr, e5, e10, by omega, O⟩, ?_⟩
   rw [e10, mi]; simp only [intOf]; omega
 · skip
   have hi2 : i = T.length := by omega
   rw [List.take_of_length_le (by omega)] at O
   refine wp_seq ?_
   refine wp_region_lit ?_
   have hE := Env.refl a7 [11]
   refine sd 11 hE k (Z06 (Z0j rfl (hE.g e10) (hE.g e9)) (decide_eq_false (by omega))) ?_
   intro a22 hE e11 kp
   refine wpList_nil ?_
   replace e1 := hE.g e1; replace e5 := hE.g e5; replace e8 := hE.g e8; replace e9 := hE.g e9; replace e10 := hE.g e10
   replace k := k.env hE
   clear hE
   refine Z00 (wp_seq ?_)
   refine Z0e e11 rfl ?_
   refine wp_exit ?_
   refine Z0f ?_
   refine Z0f ?_
   refine Z0n ?_
   refine Z00 (wp_seq ?_)
   refine wp_region_lit ?_
   have hE := Env.refl a22 [29, 30, 31, 32, 4]
   refine zm 29 hE k e5 ?_
   intro a23 hE e29 kp
   apply Z08 30 hE k rfl (by rfl) (by rfl) rfl
   case h =>
    simp [go_sem, ↓IntWalk.iteOmega, ev e29]
    with_reducible exact ⟨rfl, rfl⟩
   case hc => exact Z7k (xs := padsL W 0 T) bar _ (OwnT.get O 0 rfl) (by rw [Z1q]; omega) hjl2
   rintro e w25 ⟨rfl, RE⟩
   replace O := OwnT.ext O RE
   refine ⟨_, rfl, ?_⟩
   intro a24 hE e30 kp
   apply Z08 31 hE k rfl (by rfl) (by rfl) rfl
   case h =>
    simp [go_sem, ↓IntWalk.iteOmega, ev e30]
    with_reducible exact ⟨rfl, rfl⟩
   case hc => exact Z5l (Lib.join (padsL W 0 T) bar) _ (by omega)
   rintro e w27 ⟨rfl, RE⟩
   replace O := OwnT.ext O RE
   refine ⟨_, rfl, ?_⟩
   intro a26 hE e31 kp
   refine sd 32 hE k (Z6v (l := Lib.trimRightB (Lib.join (padsL W 0 T) bar) 32) (m := [10]) rfl e31 rfl (by simp only [List.length_cons, List.length_nil]; omega)) ?_
   intro a28 hE e32 kp
   refine sd 4 hE k (Z01 rfl e32) ?_
   intro a29 hE e4 kp
   refine wpList_nil ?_
   replace k := k.env hE
   clear hE e1 e5 e8 e9 e10 e11
   refine Z00 ?_
   refine wp_ret ?_
   refine Z0b rfl k e4 ?_
   exact ⟨rfl, O.below⟩
set_option maxRecDepth 100000 in
set_option maxHeartbeats 4000000 in
theorem Z15 {A : Option Addr} {ca : Nat} {X : List (List Tx)} (W0 : World) (h : TxsR W0 A X) (hn : X.length ≤ 1000000000) (hs : ∀ T ∈ X, T.length ≤ 1000000000 ∧ ∀ s ∈ T, s.length ≤ 1000) (hv : VarW W0) : Calls Tryd.prog 9 #[.slice A X.length ca] W0 fun e w' => e = .returned (.tuple #[.string (sB (if tableB X then textL X else [])), .int .i64 (if tableB X then 0 else 1)]) ∧ Ext W0 w' := by
 have O := OwnT.start W0
 have hs9 : ∀ T ∈ X, T.length ≤ 1000000000 ∧ ∀ s ∈ T, s.length ≤ 1000000 := fun T hT => ⟨(hs T hT).1, fun s h1 => Nat.le_trans ((hs T hT).2 s h1) (by decide)⟩
 refine Z0k Tryd.func9 rfl 32 rfl (by rfl) ?_
 intro a1 k hargs
 have e0 : a1.eval (.tmp 0) = .slice A X.length ca := hargs 0 _ rfl
 clear hargs
 cases htab : tableB X with
 | false =>
  refine wp_seq ?_
  refine wp_region_lit ?_
  have hE := Env.refl a1 [2, 3]
  refine sd 2 hE k (Z01 rfl rfl) ?_
  intro a2 hE e2 kp
  refine sd 3 hE k (Z01 rfl rfl) ?_
  intro a3 hE e3 kp
  refine wpList_nil ?_
  replace e0 := hE.g e0
  replace k := k.env hE
  clear hE e3
  refine Z00 (wp_seq ?_)
  refine wp_seq ?_
  refine wp_region_lit ?_
  have hE := Env.refl a3 [8, 9, 10]
  refine zm 8 hE k e0 ?_
  intro a4 hE e8 kp
  apply Z08 9 hE k rfl (by rfl) (by rfl) rfl
  case h =>
   simp [go_sem, ↓IntWalk.iteOmega, ev e8]
   with_reducible exact ⟨rfl, rfl⟩
  case hc => exact Z3f _ (h.below O.below) hn hs9 (hv.below O.below)
  rintro e w6 ⟨he, RE⟩
  replace O := OwnT.ext O RE
  refine ⟨_, he.trans (congrArg (fun b => Ending.returned (.bool b)) htab), ?_⟩
  intro a5 hE e9 kp
  refine sd 10 hE k (Z3a rfl e9) ?_
  intro a7 hE e10 kp
  refine wpList_nil ?_
  replace e0 := hE.g e0
  replace k := k.env hE
  clear hE
  refine Z00 ?_
  refine Z0a e10 rfl ?_
  refine wp_seq ?_
  refine wp_region_lit ?_
  have hE := Env.refl a7 [2, 3]
  refine sd 2 hE k (Z01 rfl rfl) ?_
  intro a8 hE e2 kp
  refine sd 3 hE k (Z01 rfl rfl) ?_
  intro a9 hE e3 kp
  replace e2 := kt kp e2
  refine wpList_nil ?_
  replace k := k.env hE
  clear hE e0 e10
  refine Z00 ?_
  refine wp_ret ?_
  refine Z0c ?_
  refine Z1f rfl k e2 e3 ?_
  exact ⟨rfl, O.below⟩
 | true =>
  refine wp_seq ?_
  refine wp_region_lit ?_
  have hE := Env.refl a1 [2, 3]
  refine sd 2 hE k (Z01 rfl rfl) ?_
  intro a10 hE e2 kp
  refine sd 3 hE k (Z01 rfl rfl) ?_
  intro a11 hE e3 kp
  refine wpList_nil ?_
  replace e0 := hE.g e0
  replace k := k.env hE
  clear hE e3
  refine Z00 (wp_seq ?_)
  refine wp_seq ?_
  refine wp_region_lit ?_
  have hE := Env.refl a11 [8, 9, 10]
  refine zm 8 hE k e0 ?_
  intro a12 hE e8 kp
  apply Z08 9 hE k rfl (by rfl) (by rfl) rfl
  case h =>
   simp [go_sem, ↓IntWalk.iteOmega, ev e8]
   with_reducible exact ⟨rfl, rfl⟩
  case hc => exact Z3f _ (h.below O.below) hn hs9 (hv.below O.below)
  rintro e w14 ⟨he, RE⟩
  replace O := OwnT.ext O RE
  refine ⟨_, he.trans (congrArg (fun b => Ending.returned (.bool b)) htab), ?_⟩
  intro a13 hE e9 kp
  refine sd 10 hE k (Z3a rfl e9) ?_
  intro a15 hE e10 kp
  refine wpList_nil ?_
  replace e0 := hE.g e0
  replace k := k.env hE
  clear hE
  refine Z00 ?_
  refine Z0e e10 rfl ?_
  refine wp_skip ?_
  refine Z00 ?_
  by_cases h0 : X.length = 0
  · obtain rfl : X = [] := List.eq_nil_of_length_eq_zero h0
    refine wp_seq ?_
    refine wp_seq ?_
    refine wp_region_lit ?_
    have hE := Env.refl a15 [11, 12, 13]
    refine zm 11 hE k e0 ?_
    intro a16 hE e11 kp
    refine sd 12 hE k (Z0d Tryd.underlying22 rfl e11) ?_
    intro a17 hE e12 kp
    refine sd 13 hE k (Z06 (Z18 rfl e12 rfl) (decide_eq_true rfl)) ?_
    intro a18 hE e13 kp
    refine wpList_nil ?_
    replace e0 := hE.g e0
    replace k := k.env hE
    clear hE e10
    refine Z00 ?_
    refine Z0a e13 rfl ?_
    refine wp_seq ?_
    refine wp_region_lit ?_
    have hE := Env.refl a18 [2, 3]
    refine sd 2 hE k (Z01 rfl rfl) ?_
    intro a19 hE e2 kp
    refine sd 3 hE k (Z01 rfl rfl) ?_
    intro a20 hE e3 kp
    replace e2 := kt kp e2
    refine wpList_nil ?_
    replace k := k.env hE
    clear hE e0 e13
    refine Z00 ?_
    refine wp_ret ?_
    refine Z0c ?_
    refine Z1f rfl k e2 e3 ?_
    exact ⟨rfl, O.below⟩
  · skip
    obtain ⟨T0, hT0⟩ : ∃ T, X[0]? = some T := ⟨_, List.getElem?_eq_getElem (by omega)⟩
    obtain ⟨m, hm⟩ : ∃ m, T0.length = m := ⟨_, rfl⟩
    obtain ⟨hX1, hrows⟩ := Z76 htab hT0
    rw [hm] at hrows
    have hm2 : m ≤ 100 := by have := (hrows T0 (List.mem_of_getElem? hT0)).2; omega
    obtain ⟨b, o, hA, hsp⟩ := h.spot hT0
    obtain ⟨A0, c0, -, hc0⟩ := hsp 0 T0 hT0
    simp only [Nat.add_zero] at hc0
    have hWb : ∀ k, colW X k ≤ 10000 := fun k => Z6k k (fun T hT => by
     by_cases hk : k < T.length
     · have e : T.getD k [] = T[k] := by simp [List.getD, hk]
       rw [e]
       have h1 := Z23 T[k].length T[k] (Nat.le_refl _)
       have h2 := (hs T hT).2 T[k] (List.getElem_mem hk)
       omega
     · have e : T.getD k [] = [] := by simp [List.getD, List.getElem?_eq_none (show T.length ≤ k by omega)]
       rw [e]
       exact Nat.zero_le _)
    subst hA

    refine wp_seq ?_
    refine wp_seq ?_
    refine wp_region_lit ?_
    have hE := Env.refl a15 [11, 12, 13]
    refine zm 11 hE k e0 ?_
    intro a21 hE e11 kp
    refine sd 12 hE k (Z0d Tryd.underlying22 rfl e11) ?_
    intro a22 hE e12 kp
    refine sd 13 hE k (Z06 (Z18 rfl e12 rfl) (decide_eq_false (by omega))) ?_
    intro a23 hE e13 kp
    refine wpList_nil ?_
    replace e0 := hE.g e0
    replace k := k.env hE
    clear hE e10
    refine Z00 ?_
    refine Z0e e13 rfl ?_
    refine wp_skip ?_
    refine Z00 (wp_seq ?_)
    refine wp_region_lit ?_
    have hE := Env.refl a23 [14, 15, 16, 17, 18, 19, 4]
    refine zm 14 hE k e0 ?_
    intro a24 hE e14 kp
    refine zm 15 hE k e0 ?_
    intro a25 hE e15 kp
    replace e14 := kt kp e14
    apply Z05 16 hE k rfl rfl rfl rfl
    case h =>
     simp [go_sem, ↓IntWalk.iteOmega, ev e15]
     with_reducible rfl
    intro a26 hE e16 kp
    replace e14 := kt kp e14
    apply Z05 17 hE k rfl rfl rfl rfl
    case h =>
     simp [go_sem, ↓IntWalk.iteOmega, ev e16, hc0 _ O.below]
     with_reducible rfl
    intro a27 hE e17 kp
    replace e14 := kt kp e14
    refine sd 18 hE k (Z0d Tryd.underlying36 rfl e17) ?_
    intro a28 hE e18 kp
    replace e14 := kt kp e14
    replace e18 := e18.trans (Z0x (show (T0.length : Int) = (m : Int) by omega))
    apply Z08 19 hE k rfl (by rfl) (by rfl) rfl
    case h =>
     simp [go_sem, ↓IntWalk.iteOmega, ev e14, ev e18]
     with_reducible exact ⟨rfl, rfl⟩
    case hc => exact Z1m (m := m) _ (h.below O.below) hn (by omega) (fun T hT => ⟨by have := (hrows T hT).1; omega, fun s h1 => Nat.le_trans ((hs T hT).2 s h1) (by decide)⟩)
    rintro e w30 ⟨g, rfl, hg, hgb, RE⟩
    replace O := OwnT.cons O RE (tBlk g 3 (wsC m (colW X))) hgb (fun i hi => by simp [tBlk] at hi; omega)
    refine ⟨_, rfl, ?_⟩
    intro a29 hE e19 kp
    refine sd 4 hE k (Z01 rfl e19) ?_
    intro a31 hE e4 kp
    refine wpList_nil ?_
    replace e0 := hE.g e0
    replace k := k.env hE
    clear hE e13
    refine Z00 (wp_seq ?_)
    refine wp_region_lit ?_
    have hE := Env.refl a31 [5]
    refine Z3g O (cs := #[.pointer none, .slice none 0 0]) (t := 45) 5 hE k rfl (by rfl) (by rfl) rfl (by simp [go_sem, ↓IntWalk.iteOmega]) ?_
    clear O
    intro wb a32 w33 O hE e5 kp
    refine wpList_nil ?_
    replace e0 := hE.g e0; replace e4 := hE.g e4
    replace k := k.env hE
    clear hE
    refine Z00 ?_
    replace O := OwnT.asWr O
    refine wp_seq ?_
    refine wp_seq ?_
    refine wp_region_lit ?_
    have hE := Env.refl a32 [20, 21, 22]
    refine zm 20 hE k e0 ?_
    intro a34 hE e20 kp
    refine sd 21 hE k (Z0d Tryd.underlying22 rfl e20) ?_
    intro a35 hE e21 kp
    replace e20 := kt kp e20
    refine sd 22 hE k (Z02 rfl rfl) ?_
    intro a36 hE e22 kp
    replace e20 := kt kp e20; replace e21 := kt kp e21
    refine wpList_nil ?_
    replace e4 := hE.g e4; replace e5 := hE.g e5
    replace k := k.env hE
    clear hE e0
    refine Z00 ?_
    refine wp_block ?_
    refine wp_loop (fun a w => Fr 32 a ∧ a.eval (.tmp 4) = .slice (some ⟨g, 0, none⟩) m m ∧ a.eval (.tmp 5) = .pointer (some ⟨wb, 0, none⟩) ∧ a.eval (.tmp 20) = .slice (some ⟨b, o, none⟩) X.length ca ∧ a.eval (.tmp 21) = .int .i64 ↑X.length ∧ ∃ (i : Nat) (gq : Option Nat), a.eval (.tmp 22) = .int .i64 ↑i ∧ i ≤ X.length ∧ OwnT W0.heap.size W0 [tWr wb gq (((X.take i).map (lineL (colW X))).flatten), tBlk g 3 (wsC m (colW X))] w ∧ ((X.take i).map (lineL (colW X))).flatten.length ≤ i * 10000000) (fun a w => X.length - (intOf (a.eval (.tmp 22))).toNat) ?_ ?_
    · exact ⟨k, e4, e5, e20, e21, 0, none, e22, Nat.zero_le _, O, Nat.zero_le _⟩
    intro a37 w38 hI
    clear k e4 e5 e20 e21
    obtain ⟨k, e4, e5, e20, e21, h_⟩ := hI
    clear O e22
    obtain ⟨i, gq, e22, hi, O, hlen⟩ := h_
    have mi := e22

    by_cases hlt : i < X.length
    · skip
      have hzI : (i : Int) < (X.length : Int) := by omega
      obtain ⟨T, hT⟩ : ∃ T, X[i]? = some T := ⟨_, List.getElem?_eq_getElem hlt⟩
      obtain ⟨Aj, cj, hr, hc⟩ := hsp i T hT
      have hTX := List.mem_of_getElem? hT
      have hTr := hrows T hTX
      have hTs := (hs T hTX).2
      have hll := Z3o (W := colW X) (T := T) (b := 10000) hWb (fun s h1 => Nat.le_trans (hTs s h1) (by decide))
      have hll2 : (lineL (colW X) T).length ≤ 10000000 := by
       have h1 : T.length * (2 * 10000 + 3) ≤ 100 * (2 * 10000 + 3) := Nat.mul_le_mul_right _ (by omega)
       omega
      have htk : ((X.take (i + 1)).map (lineL (colW X))).flatten = ((X.take i).map (lineL (colW X))).flatten ++ lineL (colW X) T := by
       rw [List.take_add_one, hT]
       simp
      obtain ⟨LN, hLN⟩ : ∃ z, lineL (colW X) T = z := ⟨_, rfl⟩
      obtain ⟨PR, hPR⟩ : ∃ z, ((X.take i).map (lineL (colW X))).flatten = z := ⟨_, rfl⟩
      rw [hLN] at hll2 htk
      rw [hPR] at htk O hlen

      refine wp_seq ?_
      refine wp_region_lit ?_
      have hE := Env.refl a37 [23]
      refine sd 23 hE k (Z06 (Z0j rfl (hE.g e22) (hE.g e21)) (decide_eq_true (by omega))) ?_
      intro a39 hE e23 kp
      refine wpList_nil ?_
      replace e4 := hE.g e4; replace e5 := hE.g e5; replace e20 := hE.g e20; replace e21 := hE.g e21; replace e22 := hE.g e22
      replace k := k.env hE
      clear hE
      refine Z00 (wp_seq ?_)
      refine Z0a e23 rfl ?_
      refine wp_skip ?_
      refine Z00 (wp_seq ?_)
      refine wp_block ?_
      refine wp_seq ?_
      refine wp_region_lit ?_
      have hE := Env.refl a39 [24, 25, 7]
      apply Z05 24 hE k rfl rfl rfl rfl
      case h =>
       simp [go_sem, ↓IntWalk.iteOmega, ev (hE.g e20), ev (hE.g e22)]
       with_reducible rfl
      intro a40 hE e24 kp
      apply Z05 25 hE k rfl rfl rfl rfl
      case h =>
       simp [go_sem, ↓IntWalk.iteOmega, ev e24, hc _ O.below]
       with_reducible rfl
      intro a41 hE e25 kp
      refine sd 7 hE k (Z01 rfl e25) ?_
      intro a42 hE e7 kp
      refine wpList_nil ?_
      replace e4 := hE.g e4; replace e5 := hE.g e5; replace e20 := hE.g e20; replace e21 := hE.g e21; replace e22 := hE.g e22
      replace k := k.env hE
      clear hE e23
      refine Z00 ?_
      refine wp_region_lit ?_
      have hE := Env.refl a42 [26, 27, 28, 29]
      refine zm 26 hE k e7 ?_
      intro a43 hE e26 kp
      refine zm 27 hE k e4 ?_
      intro a44 hE e27 kp
      replace e26 := kt kp e26
      apply Z08 28 hE k rfl (by rfl) (by rfl) rfl
      case h =>
       simp [go_sem, ↓IntWalk.iteOmega, ev e26, ev e27]
       with_reducible exact ⟨rfl, rfl⟩
      case hc => exact Z6b _ (hr.below O.below) (OwnT.get O 1 rfl) (by omega) (by omega) (fun k s h1 => by have := colW_ge hTX k; rwa [List.getD, h1] at this) hWb (fun s h1 => Nat.le_trans (hTs s h1) (by decide))
      rintro e w46 ⟨he, RE⟩
      replace O := OwnT.ext O RE
      refine ⟨_, he.trans (by rw [hLN]), ?_⟩
      intro a45 hE e28 kp
      apply Z08 29 hE k rfl (by rfl) (by rfl) rfl
      case h =>
       simp [go_sem, ↓IntWalk.iteOmega, ev (hE.g e5), ev e28]
       with_reducible exact ⟨rfl, rfl⟩
      case hc => exact Z5b LN O (by omega)
      clear O
      rintro e w48 ⟨gq2, rfl, O⟩
      refine ⟨_, rfl, ?_⟩
      intro a47 hE e29 kp
      refine wpList_nil ?_
      replace e4 := hE.g e4; replace e5 := hE.g e5; replace e20 := hE.g e20; replace e21 := hE.g e21; replace e22 := hE.g e22
      replace k := k.env hE
      clear hE e7 e29
      refine Z0i ?_
      refine Z00 ?_
      refine wp_region_lit ?_
      have hE := Env.refl a47 [30, 22]
      refine sd 30 hE k (Z0z rfl e22 rfl (by omega)) ?_
      intro a49 hE e30 kp
      replace e22 := kt kp e22
      refine sd 22 hE k (Z02 rfl e30) ?_
      intro a50 hE e22 kp
      refine wpList_nil ?_
      replace e4 := hE.g e4; replace e5 := hE.g e5; replace e20 := hE.g e20; replace e21 := hE.g e21
      replace k := k.env hE
      clear hE
      refine Z00 ?_
      refine ⟨⟨k, e4, e5, e20, e21, i + 1, gq2, e22, by omega, by rw [htk]; exact O, by rw [htk, List.length_append]; omega⟩, ?_⟩
      rw [e22, mi]; simp only [intOf]; omega
    · skip
      rw [List.take_of_length_le (by omega)] at O
      replace O : OwnT _ _ ([tWr wb gq ((X.map (lineL (colW X))).flatten)]) w38 := OwnT.pick O [0] (by decide)
      refine wp_seq ?_
      refine wp_region_lit ?_
      have hE := Env.refl a37 [23]
      refine sd 23 hE k (Z06 (Z0j rfl (hE.g e22) (hE.g e21)) (decide_eq_false (by omega))) ?_
      intro a51 hE e23 kp
      refine wpList_nil ?_
      replace e4 := hE.g e4; replace e5 := hE.g e5; replace e20 := hE.g e20; replace e21 := hE.g e21; replace e22 := hE.g e22
      replace k := k.env hE
      clear hE
      refine Z00 (wp_seq ?_)
      refine Z0e e23 rfl ?_
      refine wp_exit ?_
      refine Z0f ?_
      refine Z0f ?_
      refine Z0n ?_
      refine Z00 (wp_seq ?_)
      refine wp_region_lit ?_
      have hE := Env.refl a51 [31, 2, 3]
      apply Z08 31 hE k rfl (by rfl) (by rfl) rfl
      case h =>
       simp [go_sem, ↓IntWalk.iteOmega, ev (hE.g e5)]
       with_reducible exact ⟨rfl, rfl⟩
      case hc => exact wr_end O
      rintro e w53 ⟨rfl, BE⟩
      replace O := Z64 (A := W0) BE
      refine ⟨_, rfl, ?_⟩
      intro a52 hE e31 kp
      refine sd 2 hE k (Z01 rfl e31) ?_
      intro a54 hE e2 kp
      refine sd 3 hE k (Z01 rfl rfl) ?_
      intro a55 hE e3 kp
      replace e2 := kt kp e2
      refine wpList_nil ?_
      replace k := k.env hE
      clear hE e4 e5 e20 e21 e22 e23
      refine Z00 ?_
      refine wp_ret ?_
      refine Z1f rfl k e2 e3 ?_
      exact ⟨rfl, O.below⟩
end Go.Proofs.YtgdlnfljfiageaaDoor
