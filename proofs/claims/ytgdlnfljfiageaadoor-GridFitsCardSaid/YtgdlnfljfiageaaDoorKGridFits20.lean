/- grids' law: GridFits (printed by XGrI.gen.py). -/
import Derived.Test.YtgdlnfljfiageaaDoorKGridFits18
import Derived.Test.YtgdlnfljfiageaaDoorKGridFits19
namespace Go.Proofs.YtgdlnfljfiageaaDoor
attribute [local simp] BigFrame.eval_const BigFrame.eval_global BigFrame.eval_func
set_option linter.unusedVariables false
set_option linter.unusedSimpArgs false
open Go.RowKit

theorem Z1k {w : World} {o : Oper} {ρ : Operand → Value} {x y : Operand} {t : TypeId} {l : List UInt8} {j : Nat} (hu : Tryd.prog.underlying t = some .string) (ho : o.op = .index t x y) (hx : ρ x = .string (sB l)) (hy : ρ y = .int .i64 (j : Nat)) (hj : j < l.length) : (execOp ρ o).run Tryd.prog w = .ok (.value (.int .u8 ((l.getD j 0).toNat : Int))) w := by
 have hb : (sB l)[j]? = some (l.getD j 0) := by
  have h1 : j < (sB l).size := by rw [Z0g]; exact hj
  have h2 : (sB l)[j]'h1 = l[j] := rfl
  rw [getElem?_pos (sB l) j h1, h2]
  simp only [List.getD, List.getElem?_eq_getElem hj, Option.getD_some]
  rfl
 unfold execOp
 simp only [ho, hx, hy]
 simp [Instr.index, asIntOf, run_underlying hu, hb]
theorem Z81 {a b : UInt8} : ((a.toNat : Int) = (b.toNat : Int)) ↔ a = b := ⟨fun h => UInt8.toNat_inj.1 (by omega), fun h => by rw [h]⟩
theorem Z7i {l t : Tx} {c j i : Nat} (ht : t = l.take c ++ List.replicate j 32) (hc : c ≤ l.length) (hi : i ≤ l.length) (hit : i ≤ t.length) (hm : i = l.length ∨ i = t.length ∨ l.getD i 0 ≠ t.getD i 0) : c ≤ i := by
 rcases Nat.lt_or_ge i c with h | h
 · exfalso
   have htl : t.length = c + j := by rw [ht, List.length_append, List.length_take, List.length_replicate]; omega
   rcases hm with hm | hm | hm
   · omega
   · omega
   · apply hm
     rw [ht]
     exact ((@Z5k l c j i).1 ⟨h, by omega⟩).symm
 · exact h
theorem fit_sp {l t : Tx} {c j z : Nat} (ht : t = l.take c ++ List.replicate j 32) (hc : c ≤ l.length) (hz : c ≤ z) (hzt : z < t.length) : t.getD z 0 = 32 := by
 have htl : t.length = c + j := by rw [ht, List.length_append, List.length_take, List.length_replicate]; omega
 rw [ht]
 simp only [List.getD]
 rw [List.getElem?_append_right (by rw [List.length_take]; omega), List.getElem?_replicate, List.length_take, if_pos (by omega)]
 rfl

set_option maxRecDepth 100000 in
set_option maxHeartbeats 4000000 in
theorem Z2x (l : Tx) (x : Int) (W0 : World) (hv : VarW W0) : Calls Tryd.prog 6 #[.string (sB l), .int .i64 x] W0 fun e w' => e = .returned (.bool true) ∧ Below W0.heap.size W0 w' := by
 have O := OwnT.start W0
 refine Z0h Tryd.func6 rfl 83 rfl (by rfl) ?_
 intro a1 k hargs
 have e0 : a1.eval (.tmp 0) = .string (sB l) := hargs 0 _ rfl
 have e1 : a1.eval (.tmp 1) = .int .i64 x := hargs 1 _ rfl
 clear hargs
 refine wp_seq ?_
 refine wp_region_lit ?_
 have hE := Env.refl a1 [4]
 refine sd 4 hE k (Z01 rfl rfl) ?_
 intro a2 hE e4 kp
 refine wpList_nil ?_
 replace e0 := hE.g e0; replace e1 := hE.g e1
 replace k := k.env hE
 clear hE e4
 refine Z00 (wp_seq ?_)
 refine wp_seq ?_
 refine wp_region_lit ?_
 have hE := Env.refl a2 [9, 10]
 apply Z08 9 hE k rfl (by rfl) (by rfl) rfl
 case h =>
  simp [go_sem, ↓IntWalk.iteOmega]
  with_reducible exact ⟨rfl, rfl⟩
 case hc => exact awake37 _ hv
 rintro e w4 ⟨rfl, RE⟩
 replace O := OwnT.ext O RE
 refine ⟨_, rfl, ?_⟩
 intro a3 hE e9 kp
 refine sd 10 hE k (Z2z rfl e9) ?_
 intro a5 hE e10 kp
 refine wpList_nil ?_
 replace e0 := hE.g e0; replace e1 := hE.g e1
 replace k := k.env hE
 clear hE
 refine Z00 ?_
 refine Z0f e10 rfl ?_
 refine wp_skip ?_
 refine Z00 ?_
 by_cases hl : l.length ≤ 200
 rotate_left
 · skip
   refine wp_seq ?_
   refine wp_seq ?_
   refine wp_region_lit ?_
   have hE := Env.refl a5 [11, 12, 13]
   refine zm 11 hE k e0 ?_
   intro a6 hE e11 kp
   refine sd 12 hE k (Z0n Tryd.underlying9 rfl e11) ?_
   intro a7 hE e12 kp
   refine sd 13 hE k (Z06 (Z1a rfl e12 rfl) (decide_eq_true (by omega))) ?_
   intro a8 hE e13 kp
   refine wpList_nil ?_
   replace e0 := hE.g e0; replace e1 := hE.g e1
   replace k := k.env hE
   clear hE e10
   refine Z00 ?_
   refine Z0c e13 rfl ?_
   refine wp_seq ?_
   refine wp_region_lit ?_
   have hE := Env.refl a8 [4]
   refine sd 4 hE k (Z01 rfl rfl) ?_
   intro a9 hE e4 kp
   refine wpList_nil ?_
   replace k := k.env hE
   clear hE e0 e1 e13
   refine Z00 ?_
   refine wp_ret ?_
   refine Z0i ?_
   refine Z0a rfl k e4 ?_
   exact ⟨rfl, O.below⟩
 obtain ⟨q, hq⟩ : ∃ q, uN x % 120 = q := ⟨_, rfl⟩
 have hq2 : q < 120 := by rw [← hq]; exact Nat.mod_lt _ (by decide)
 obtain ⟨f1, f2, c, j, f3, f4, f5⟩ := Z7j q l
 obtain ⟨t, ht⟩ : ∃ t, fitL q l = t := ⟨_, rfl⟩
 rw [ht] at f1 f2 f3
 have htl : t.length ≤ 100000 := by
  rw [← ht]
  unfold fitL
  rw [List.length_append, List.length_take, List.length_replicate]
  omega

 refine wp_seq ?_
 refine wp_seq ?_
 refine wp_region_lit ?_
 have hE := Env.refl a5 [11, 12, 13]
 refine zm 11 hE k e0 ?_
 intro a10 hE e11 kp
 refine sd 12 hE k (Z0n Tryd.underlying9 rfl e11) ?_
 intro a11 hE e12 kp
 refine sd 13 hE k (Z06 (Z1a rfl e12 rfl) (decide_eq_false (by omega))) ?_
 intro a12 hE e13 kp
 refine wpList_nil ?_
 replace e0 := hE.g e0; replace e1 := hE.g e1
 replace k := k.env hE
 clear hE e10
 refine Z00 ?_
 refine Z0f e13 rfl ?_
 refine wp_skip ?_
 refine Z00 (wp_seq ?_)
 refine wp_region_lit ?_
 have hE := Env.refl a12 [14, 15, 16, 17, 5]
 refine zm 14 hE k e1 ?_
 intro a13 hE e14 kp
 refine sd 15 hE k (Z2n rfl e14 (Z5l x _)) ?_
 intro a14 hE e15 kp
 refine sd 16 hE k (Z7w (m := uN x) (j := 120) rfl e15 rfl rfl (by decide)) ?_
 intro a15 hE e16 kp
 refine sd 17 hE k (Z2n rfl e16 (Z6h (uN x % 120) _ (by omega))) ?_
 intro a16 hE e17 kp
 replace e17 := e17.trans (Z18 (show ((uN x % 120 : Nat) : Int) = (q : Int) by rw [hq]))
 refine sd 5 hE k (Z01 rfl e17) ?_
 intro a17 hE e5 kp
 refine wpList_nil ?_
 replace e0 := hE.g e0
 replace k := k.env hE
 clear hE e1 e13
 refine Z00 (wp_seq ?_)
 refine wp_region_lit ?_
 have hE := Env.refl a17 [18, 19, 20, 6]
 refine zm 18 hE k e0 ?_
 intro a18 hE e18 kp
 refine zm 19 hE k e5 ?_
 intro a19 hE e19 kp
 replace e18 := kt kp e18
 apply Z08 20 hE k rfl (by rfl) (by rfl) rfl
 case h =>
  simp [go_sem, ↓IntWalk.iteOmega, ev e18, ev e19]
  with_reducible exact ⟨rfl, rfl⟩
 case hc => exact Z47 l ↑q q _ (by omega) (by omega)
 rintro e w21 ⟨he, RE⟩
 replace O := OwnT.ext O RE
 refine ⟨_, he.trans (by rw [ht]), ?_⟩
 intro a20 hE e20 kp
 refine sd 6 hE k (Z01 rfl e20) ?_
 intro a22 hE e6 kp
 refine wpList_nil ?_
 replace e0 := hE.g e0; replace e5 := hE.g e5
 replace k := k.env hE
 clear hE
 refine Z00 (wp_seq ?_)
 refine wp_region_lit ?_
 have hE := Env.refl a22 [7]
 refine sd 7 hE k (Z01 rfl rfl) ?_
 intro a23 hE e7 kp
 refine wpList_nil ?_
 replace e0 := hE.g e0; replace e5 := hE.g e5; replace e6 := hE.g e6
 replace k := k.env hE
 clear hE
 refine Z00 ?_
 refine Z6z (fun a w => Fr 83 a ∧ a.eval (.tmp 0) = .string (sB l) ∧ a.eval (.tmp 5) = .int .i64 ↑q ∧ a.eval (.tmp 6) = .string (sB t) ∧ ∃ (i : Nat), a.eval (.tmp 7) = .int .i64 ↑i ∧ i ≤ l.length ∧ i ≤ t.length ∧ (i = l.length ∨ i = t.length ∨ l.getD i 0 ≠ t.getD i 0) ∧ OwnT W0.heap.size W0 [] w) ?_ ?_
 · skip
   refine wp_block ?_
   refine wp_loop (fun a w => Fr 83 a ∧ a.eval (.tmp 0) = .string (sB l) ∧ a.eval (.tmp 5) = .int .i64 ↑q ∧ a.eval (.tmp 6) = .string (sB t) ∧ ∃ (i : Nat), a.eval (.tmp 7) = .int .i64 ↑i ∧ i ≤ l.length ∧ i ≤ t.length ∧ OwnT W0.heap.size W0 [] w) (fun a w => l.length - (intOf (a.eval (.tmp 7))).toNat) ?_ ?_
   · exact ⟨k, e0, e5, e6, 0, e7, Nat.zero_le _, Nat.zero_le _, O⟩
   intro a24 w25 hI
   clear k e0 e5 e6
   obtain ⟨k, e0, e5, e6, h_⟩ := hI
   clear O e7
   obtain ⟨i, e7, hi, hit, O⟩ := h_
   have mi := e7

   by_cases h1 : i < l.length
   rotate_left
   · skip
     refine wp_seq ?_
     refine wp_seq ?_
     refine Z12 (R := Ext) (w0 := w25) [[], [], [1], [0, 1, 2], [0, 1, 2, 3], [0, 1, 2, 3, 4], [0, 1, 2, 3, 4], [0, 1, 2, 3, 4, 6], [0, 1, 2, 3, 4, 5, 6, 7], [0, 1, 2, 3, 4, 5, 6, 7, 8], [0, 1, 2, 3, 4, 5, 6, 7, 8, 9], [0, 1, 2, 3, 4, 5, 6, 7, 8, 9, 10], [0, 1, 2, 3, 4, 5, 6, 7, 8, 9, 10], [0, 1, 2, 3, 4, 5, 6, 7, 8, 9, 10, 11, 12], [0, 1, 2, 3, 4, 5, 6, 7, 8, 9, 10], [0, 1, 2, 3, 4, 5, 6, 7, 8, 9, 10], [0, 1, 2, 3, 4, 5, 6, 7, 8, 9, 10, 14, 15], [0, 1, 2, 3, 4, 5, 6, 7, 8, 9, 10, 11, 12, 13, 14, 15, 16], [0, 1, 2, 3, 4, 5, 6, 7, 8, 9, 10, 11, 12, 13, 14, 15, 16, 17]] [21, 22, 23, 24, 25, 26, 27, 28, 29, 30, 31, 32, 33, 34, 35, 36, 37, 38, 39] Ext.refl (fun _ _ _ => Ext.trans) (Ext.drew _) (by kernel_rfl) ?_
     apply bd 21 k rfl rfl rfl
     case h =>
      intro ax wx hE hR hF
      exact Z02 rfl (hE.g e7)
     apply bd 22 k rfl rfl rfl
     case h =>
      intro ax wx hE hR hF
      exact Z02 rfl (hE.g e0)
     apply bd 23 k rfl rfl rfl
     case h =>
      intro ax wx hE hR hF
      have e22 := zhF hF 1 22 ml0
      exact Z0n Tryd.underlying9 rfl e22
     apply bd 24 k rfl rfl rfl
     case h =>
      intro ax wx hE hR hF
      have e21 := zhF hF 0 21 ml2
      have e23 := zhF hF 2 23 ml0
      exact Z06 (Z0l rfl e21 e23) (decide_eq_false (by omega))
     apply bd 25 k rfl rfl rfl
     case h =>
      intro ax wx hE hR hF
      have e24 := zhF hF 3 24 ml0
      exact Z02 rfl e24
     refine Build.skip 26 (by rfl) (by rw [k.size]; rfl) rfl rfl ?_ ?_
     · intro ax wx hE hR hF
       have e25 := zhF hF 4 25 ml0
       exact e25
     refine Build.skip 27 (by rfl) (by rw [k.size]; rfl) rfl rfl ?_ ?_
     · intro ax wx hE hR hF
       have e25 := zhF hF 4 25 ml1
       exact e25
     refine Build.skip 28 (by rfl) (by rw [k.size]; rfl) rfl rfl ?_ ?_
     · intro ax wx hE hR hF
       have e25 := zhF hF 4 25 ml2
       exact e25
     refine Build.skip 29 (by rfl) (by rw [k.size]; rfl) rfl rfl ?_ ?_
     · intro ax wx hE hR hF
       have e25 := zhF hF 4 25 ml3
       exact e25
     apply bd 30 k rfl rfl rfl
     case h =>
      intro ax wx hE hR hF
      have e25 := zhF hF 4 25 ml4
      have e29 := zhF hF 8 29 ml0
      exact Z09 rfl e25 rfl
     apply bd 31 k rfl rfl rfl
     case h =>
      intro ax wx hE hR hF
      have e30 := zhF hF 9 30 ml0
      exact Z02 rfl e30
     refine Build.skip 32 (by rfl) (by rw [k.size]; rfl) rfl rfl ?_ ?_
     · intro ax wx hE hR hF
       have e31 := zhF hF 10 31 ml0
       exact e31
     refine Build.skip 33 (by rfl) (by rw [k.size]; rfl) rfl rfl ?_ ?_
     · intro ax wx hE hR hF
       have e31 := zhF hF 10 31 ml1
       exact e31
     refine Build.skip 34 (by rfl) (by rw [k.size]; rfl) rfl rfl ?_ ?_
     · intro ax wx hE hR hF
       have e31 := zhF hF 10 31 ml2
       exact e31
     refine Build.skip 35 (by rfl) (by rw [k.size]; rfl) rfl rfl ?_ ?_
     · intro ax wx hE hR hF
       have e31 := zhF hF 10 31 ml3
       exact e31
     refine Build.skip 36 (by rfl) (by rw [k.size]; rfl) rfl rfl ?_ ?_
     · intro ax wx hE hR hF
       have e31 := zhF hF 10 31 ml4
       exact e31
     refine Build.skip 37 (by rfl) (by rw [k.size]; rfl) rfl rfl ?_ ?_
     · intro ax wx hE hR hF
       have e31 := zhF hF 10 31 ml5
       exact e31
     refine Build.skip 38 (by rfl) (by rw [k.size]; rfl) rfl rfl ?_ ?_
     · intro ax wx hE hR hF
       have e31 := zhF hF 10 31 ml6
       exact e31
     apply bd 39 k rfl rfl rfl
     case h =>
      intro ax wx hE hR hF
      have e31 := zhF hF 10 31 ml7
      have e38 := zhF hF 17 38 ml0
      exact Z09 rfl e31 rfl
     apply Build.stop
     refine ⟨by kernel_rfl, .inl ⟨rfl, ?_⟩⟩
     intro a26 w27 hE R hF
     have e39 : a26.eval (.tmp 39) = _ := hF 18 (det 39 _) ml0
     clear hF
     replace O := OwnT.ext O R
     clear R
     replace e0 := hE.g e0; replace e5 := hE.g e5; replace e6 := hE.g e6; replace e7 := hE.g e7
     replace k := k.env hE
     clear hE
     refine Z00 ?_
     refine Z0f e39 rfl ?_
     refine wp_exit ?_
     refine Z0e ?_
     refine Z0e ?_
     refine Z0r ?_
     refine Z00 ?_
     exact ⟨k, e0, e5, e6, i, e7, hi, hit, (.inl (by omega)), O⟩
   by_cases h2 : i < t.length
   rotate_left
   · skip
     refine wp_seq ?_
     refine wp_seq ?_
     refine Z12 (R := Ext) (w0 := w25) [[], [], [1], [0, 1, 2], [0, 1, 2, 3], [0, 1, 2, 3, 4], [0, 1, 2, 3, 4], [0, 1, 2, 3, 4, 6], [0, 1, 2, 3, 4, 5, 6, 7], [0, 1, 2, 3, 4, 5, 6, 7, 8], [0, 1, 2, 3, 4, 5, 6, 7, 8, 9], [0, 1, 2, 3, 4, 5, 6, 7, 8, 9, 10], [0, 1, 2, 3, 4, 5, 6, 7, 8, 9, 10], [0, 1, 2, 3, 4, 5, 6, 7, 8, 9, 10, 11, 12], [0, 1, 2, 3, 4, 5, 6, 7, 8, 9, 10], [0, 1, 2, 3, 4, 5, 6, 7, 8, 9, 10], [0, 1, 2, 3, 4, 5, 6, 7, 8, 9, 10, 14, 15], [0, 1, 2, 3, 4, 5, 6, 7, 8, 9, 10, 11, 12, 13, 14, 15, 16], [0, 1, 2, 3, 4, 5, 6, 7, 8, 9, 10, 11, 12, 13, 14, 15, 16, 17]] [21, 22, 23, 24, 25, 26, 27, 28, 29, 30, 31, 32, 33, 34, 35, 36, 37, 38, 39] Ext.refl (fun _ _ _ => Ext.trans) (Ext.drew _) (by kernel_rfl) ?_
     apply bd 21 k rfl rfl rfl
     case h =>
      intro ax wx hE hR hF
      exact Z02 rfl (hE.g e7)
     apply bd 22 k rfl rfl rfl
     case h =>
      intro ax wx hE hR hF
      exact Z02 rfl (hE.g e0)
     apply bd 23 k rfl rfl rfl
     case h =>
      intro ax wx hE hR hF
      have e22 := zhF hF 1 22 ml0
      exact Z0n Tryd.underlying9 rfl e22
     apply bd 24 k rfl rfl rfl
     case h =>
      intro ax wx hE hR hF
      have e21 := zhF hF 0 21 ml2
      have e23 := zhF hF 2 23 ml0
      exact Z06 (Z0l rfl e21 e23) (decide_eq_true (by omega))
     apply bd 25 k rfl rfl rfl
     case h =>
      intro ax wx hE hR hF
      have e24 := zhF hF 3 24 ml0
      exact Z02 rfl e24
     apply bdg 26 k rfl rfl rfl rfl
     case h =>
      intro ax wx hE hR hF
      have e25 := zhF hF 4 25 ml0
      refine ⟨e25, ?_⟩
      exact Z02 rfl (hE.g e7)
     apply bdg 27 k rfl rfl rfl rfl
     case h =>
      intro ax wx hE hR hF
      have e25 := zhF hF 4 25 ml1
      refine ⟨e25, ?_⟩
      exact Z02 rfl (hE.g e6)
     apply bdg 28 k rfl rfl rfl rfl
     case h =>
      intro ax wx hE hR hF
      have e27 := zhF hF 6 27 ml0
      have e25 := zhF hF 4 25 ml2
      refine ⟨e25, ?_⟩
      exact Z0n Tryd.underlying9 rfl e27
     apply bdg 29 k rfl rfl rfl rfl
     case h =>
      intro ax wx hE hR hF
      have e26 := zhF hF 5 26 ml2
      have e28 := zhF hF 7 28 ml0
      have e25 := zhF hF 4 25 ml3
      refine ⟨e25, ?_⟩
      exact Z06 (Z0l rfl e26 e28) (decide_eq_false (by omega))
     apply bd 30 k rfl rfl rfl
     case h =>
      intro ax wx hE hR hF
      have e25 := zhF hF 4 25 ml4
      have e29 := zhF hF 8 29 ml0
      exact Z07 rfl e25 e29
     apply bd 31 k rfl rfl rfl
     case h =>
      intro ax wx hE hR hF
      have e30 := zhF hF 9 30 ml0
      exact Z02 rfl e30
     refine Build.skip 32 (by rfl) (by rw [k.size]; rfl) rfl rfl ?_ ?_
     · intro ax wx hE hR hF
       have e31 := zhF hF 10 31 ml0
       exact e31
     refine Build.skip 33 (by rfl) (by rw [k.size]; rfl) rfl rfl ?_ ?_
     · intro ax wx hE hR hF
       have e31 := zhF hF 10 31 ml1
       exact e31
     refine Build.skip 34 (by rfl) (by rw [k.size]; rfl) rfl rfl ?_ ?_
     · intro ax wx hE hR hF
       have e31 := zhF hF 10 31 ml2
       exact e31
     refine Build.skip 35 (by rfl) (by rw [k.size]; rfl) rfl rfl ?_ ?_
     · intro ax wx hE hR hF
       have e31 := zhF hF 10 31 ml3
       exact e31
     refine Build.skip 36 (by rfl) (by rw [k.size]; rfl) rfl rfl ?_ ?_
     · intro ax wx hE hR hF
       have e31 := zhF hF 10 31 ml4
       exact e31
     refine Build.skip 37 (by rfl) (by rw [k.size]; rfl) rfl rfl ?_ ?_
     · intro ax wx hE hR hF
       have e31 := zhF hF 10 31 ml5
       exact e31
     refine Build.skip 38 (by rfl) (by rw [k.size]; rfl) rfl rfl ?_ ?_
     · intro ax wx hE hR hF
       have e31 := zhF hF 10 31 ml6
       exact e31
     apply bd 39 k rfl rfl rfl
     case h =>
      intro ax wx hE hR hF
      have e31 := zhF hF 10 31 ml7
      have e38 := zhF hF 17 38 ml0
      exact Z09 rfl e31 rfl
     apply Build.stop
     refine ⟨by kernel_rfl, .inl ⟨rfl, ?_⟩⟩
     intro a28 w29 hE R hF
     have e39 : a28.eval (.tmp 39) = _ := hF 18 (det 39 _) ml0
     clear hF
     replace O := OwnT.ext O R
     clear R
     replace e0 := hE.g e0; replace e5 := hE.g e5; replace e6 := hE.g e6; replace e7 := hE.g e7
     replace k := k.env hE
     clear hE
     refine Z00 ?_
     refine Z0f e39 rfl ?_
     refine wp_exit ?_
     refine Z0e ?_
     refine Z0e ?_
     refine Z0r ?_
     refine Z00 ?_
     exact ⟨k, e0, e5, e6, i, e7, hi, hit, (.inr (.inl (by omega))), O⟩
   by_cases h3 : l.getD i 0 = t.getD i 0
   rotate_left
   · skip
     refine wp_seq ?_
     refine wp_seq ?_
     refine Z12 (R := Ext) (w0 := w25) [[], [], [1], [0, 1, 2], [0, 1, 2, 3], [0, 1, 2, 3, 4], [0, 1, 2, 3, 4], [0, 1, 2, 3, 4, 6], [0, 1, 2, 3, 4, 5, 6, 7], [0, 1, 2, 3, 4, 5, 6, 7, 8], [0, 1, 2, 3, 4, 5, 6, 7, 8, 9], [0, 1, 2, 3, 4, 5, 6, 7, 8, 9, 10], [0, 1, 2, 3, 4, 5, 6, 7, 8, 9, 10], [0, 1, 2, 3, 4, 5, 6, 7, 8, 9, 10, 11, 12], [0, 1, 2, 3, 4, 5, 6, 7, 8, 9, 10], [0, 1, 2, 3, 4, 5, 6, 7, 8, 9, 10], [0, 1, 2, 3, 4, 5, 6, 7, 8, 9, 10, 14, 15], [0, 1, 2, 3, 4, 5, 6, 7, 8, 9, 10, 11, 12, 13, 14, 15, 16], [0, 1, 2, 3, 4, 5, 6, 7, 8, 9, 10, 11, 12, 13, 14, 15, 16, 17]] [21, 22, 23, 24, 25, 26, 27, 28, 29, 30, 31, 32, 33, 34, 35, 36, 37, 38, 39] Ext.refl (fun _ _ _ => Ext.trans) (Ext.drew _) (by kernel_rfl) ?_
     apply bd 21 k rfl rfl rfl
     case h =>
      intro ax wx hE hR hF
      exact Z02 rfl (hE.g e7)
     apply bd 22 k rfl rfl rfl
     case h =>
      intro ax wx hE hR hF
      exact Z02 rfl (hE.g e0)
     apply bd 23 k rfl rfl rfl
     case h =>
      intro ax wx hE hR hF
      have e22 := zhF hF 1 22 ml0
      exact Z0n Tryd.underlying9 rfl e22
     apply bd 24 k rfl rfl rfl
     case h =>
      intro ax wx hE hR hF
      have e21 := zhF hF 0 21 ml2
      have e23 := zhF hF 2 23 ml0
      exact Z06 (Z0l rfl e21 e23) (decide_eq_true (by omega))
     apply bd 25 k rfl rfl rfl
     case h =>
      intro ax wx hE hR hF
      have e24 := zhF hF 3 24 ml0
      exact Z02 rfl e24
     apply bdg 26 k rfl rfl rfl rfl
     case h =>
      intro ax wx hE hR hF
      have e25 := zhF hF 4 25 ml0
      refine ⟨e25, ?_⟩
      exact Z02 rfl (hE.g e7)
     apply bdg 27 k rfl rfl rfl rfl
     case h =>
      intro ax wx hE hR hF
      have e25 := zhF hF 4 25 ml1
      refine ⟨e25, ?_⟩
      exact Z02 rfl (hE.g e6)
     apply bdg 28 k rfl rfl rfl rfl
     case h =>
      intro ax wx hE hR hF
      have e27 := zhF hF 6 27 ml0
      have e25 := zhF hF 4 25 ml2
      refine ⟨e25, ?_⟩
      exact Z0n Tryd.underlying9 rfl e27
     apply bdg 29 k rfl rfl rfl rfl
     case h =>
      intro ax wx hE hR hF
      have e26 := zhF hF 5 26 ml2
      have e28 := zhF hF 7 28 ml0
      have e25 := zhF hF 4 25 ml3
      refine ⟨e25, ?_⟩
      exact Z06 (Z0l rfl e26 e28) (decide_eq_true (by omega))
     apply bd 30 k rfl rfl rfl
     case h =>
      intro ax wx hE hR hF
      have e25 := zhF hF 4 25 ml4
      have e29 := zhF hF 8 29 ml0
      exact Z07 rfl e25 e29
     apply bd 31 k rfl rfl rfl
     case h =>
      intro ax wx hE hR hF
      have e30 := zhF hF 9 30 ml0
      exact Z02 rfl e30
     apply bdg 32 k rfl rfl rfl rfl
     case h =>
      intro ax wx hE hR hF
      have e31 := zhF hF 10 31 ml0
      refine ⟨e31, ?_⟩
      exact Z02 rfl (hE.g e0)
     apply bdg 33 k rfl rfl rfl rfl
     case h =>
      intro ax wx hE hR hF
      have e31 := zhF hF 10 31 ml1
      refine ⟨e31, ?_⟩
      exact Z02 rfl (hE.g e7)
     apply bdg 34 k rfl rfl rfl rfl
     case h =>
      intro ax wx hE hR hF
      have e32 := zhF hF 11 32 ml1
      have e33 := zhF hF 12 33 ml0
      have e31 := zhF hF 10 31 ml2
      refine ⟨e31, ?_⟩
      exact Z1k (l := l) (j := i) Tryd.underlying9 rfl e32 e33 h1
     apply bdg 35 k rfl rfl rfl rfl
     case h =>
      intro ax wx hE hR hF
      have e31 := zhF hF 10 31 ml3
      refine ⟨e31, ?_⟩
      exact Z02 rfl (hE.g e6)
     apply bdg 36 k rfl rfl rfl rfl
     case h =>
      intro ax wx hE hR hF
      have e31 := zhF hF 10 31 ml4
      refine ⟨e31, ?_⟩
      exact Z02 rfl (hE.g e7)
     apply bdg 37 k rfl rfl rfl rfl
     case h =>
      intro ax wx hE hR hF
      have e35 := zhF hF 14 35 ml1
      have e36 := zhF hF 15 36 ml0
      have e31 := zhF hF 10 31 ml5
      refine ⟨e31, ?_⟩
      exact Z1k (l := t) (j := i) Tryd.underlying9 rfl e35 e36 h2
     apply bdg 38 k rfl rfl rfl rfl
     case h =>
      intro ax wx hE hR hF
      have e34 := zhF hF 13 34 ml3
      have e37 := zhF hF 16 37 ml0
      have e31 := zhF hF 10 31 ml6
      refine ⟨e31, ?_⟩
      exact Z06 (Z13 rfl e34 e37) (decide_eq_false (fun h => h3 (Z81.1 h)))
     apply bd 39 k rfl rfl rfl
     case h =>
      intro ax wx hE hR hF
      have e31 := zhF hF 10 31 ml7
      have e38 := zhF hF 17 38 ml0
      exact Z07 rfl e31 e38
     apply Build.stop
     refine ⟨by kernel_rfl, .inl ⟨rfl, ?_⟩⟩
     intro a30 w31 hE R hF
     have e39 : a30.eval (.tmp 39) = _ := hF 18 (det 39 _) ml0
     clear hF
     replace O := OwnT.ext O R
     clear R
     replace e0 := hE.g e0; replace e5 := hE.g e5; replace e6 := hE.g e6; replace e7 := hE.g e7
     replace k := k.env hE
     clear hE
     refine Z00 ?_
     refine Z0f e39 rfl ?_
     refine wp_exit ?_
     refine Z0e ?_
     refine Z0e ?_
     refine Z0r ?_
     refine Z00 ?_
     exact ⟨k, e0, e5, e6, i, e7, hi, hit, (.inr (.inr h3)), O⟩
   refine wp_seq ?_
   refine wp_seq ?_
   refine Z12 (R := Ext) (w0 := w25) [[], [], [1], [0, 1, 2], [0, 1, 2, 3], [0, 1, 2, 3, 4], [0, 1, 2, 3, 4], [0, 1, 2, 3, 4, 6], [0, 1, 2, 3, 4, 5, 6, 7], [0, 1, 2, 3, 4, 5, 6, 7, 8], [0, 1, 2, 3, 4, 5, 6, 7, 8, 9], [0, 1, 2, 3, 4, 5, 6, 7, 8, 9, 10], [0, 1, 2, 3, 4, 5, 6, 7, 8, 9, 10], [0, 1, 2, 3, 4, 5, 6, 7, 8, 9, 10, 11, 12], [0, 1, 2, 3, 4, 5, 6, 7, 8, 9, 10], [0, 1, 2, 3, 4, 5, 6, 7, 8, 9, 10], [0, 1, 2, 3, 4, 5, 6, 7, 8, 9, 10, 14, 15], [0, 1, 2, 3, 4, 5, 6, 7, 8, 9, 10, 11, 12, 13, 14, 15, 16], [0, 1, 2, 3, 4, 5, 6, 7, 8, 9, 10, 11, 12, 13, 14, 15, 16, 17]] [21, 22, 23, 24, 25, 26, 27, 28, 29, 30, 31, 32, 33, 34, 35, 36, 37, 38, 39] Ext.refl (fun _ _ _ => Ext.trans) (Ext.drew _) (by kernel_rfl) ?_
   apply bd 21 k rfl rfl rfl
   case h =>
    intro ax wx hE hR hF
    exact Z02 rfl (hE.g e7)
   apply bd 22 k rfl rfl rfl
   case h =>
    intro ax wx hE hR hF
    exact Z02 rfl (hE.g e0)
   apply bd 23 k rfl rfl rfl
   case h =>
    intro ax wx hE hR hF
    have e22 := zhF hF 1 22 ml0
    exact Z0n Tryd.underlying9 rfl e22
   apply bd 24 k rfl rfl rfl
   case h =>
    intro ax wx hE hR hF
    have e21 := zhF hF 0 21 ml2
    have e23 := zhF hF 2 23 ml0
    exact Z06 (Z0l rfl e21 e23) (decide_eq_true (by omega))
   apply bd 25 k rfl rfl rfl
   case h =>
    intro ax wx hE hR hF
    have e24 := zhF hF 3 24 ml0
    exact Z02 rfl e24
   apply bdg 26 k rfl rfl rfl rfl
   case h =>
    intro ax wx hE hR hF
    have e25 := zhF hF 4 25 ml0
    refine ⟨e25, ?_⟩
    exact Z02 rfl (hE.g e7)
   apply bdg 27 k rfl rfl rfl rfl
   case h =>
    intro ax wx hE hR hF
    have e25 := zhF hF 4 25 ml1
    refine ⟨e25, ?_⟩
    exact Z02 rfl (hE.g e6)
   apply bdg 28 k rfl rfl rfl rfl
   case h =>
    intro ax wx hE hR hF
    have e27 := zhF hF 6 27 ml0
    have e25 := zhF hF 4 25 ml2
    refine ⟨e25, ?_⟩
    exact Z0n Tryd.underlying9 rfl e27
   apply bdg 29 k rfl rfl rfl rfl
   case h =>
    intro ax wx hE hR hF
    have e26 := zhF hF 5 26 ml2
    have e28 := zhF hF 7 28 ml0
    have e25 := zhF hF 4 25 ml3
    refine ⟨e25, ?_⟩
    exact Z06 (Z0l rfl e26 e28) (decide_eq_true (by omega))
   apply bd 30 k rfl rfl rfl
   case h =>
    intro ax wx hE hR hF
    have e25 := zhF hF 4 25 ml4
    have e29 := zhF hF 8 29 ml0
    exact Z07 rfl e25 e29
   apply bd 31 k rfl rfl rfl
   case h =>
    intro ax wx hE hR hF
    have e30 := zhF hF 9 30 ml0
    exact Z02 rfl e30
   apply bdg 32 k rfl rfl rfl rfl
   case h =>
    intro ax wx hE hR hF
    have e31 := zhF hF 10 31 ml0
    refine ⟨e31, ?_⟩
    exact Z02 rfl (hE.g e0)
   apply bdg 33 k rfl rfl rfl rfl
   case h =>
    intro ax wx hE hR hF
    have e31 := zhF hF 10 31 ml1
    refine ⟨e31, ?_⟩
    exact Z02 rfl (hE.g e7)
   apply bdg 34 k rfl rfl rfl rfl
   case h =>
    intro ax wx hE hR hF
    have e32 := zhF hF 11 32 ml1
    have e33 := zhF hF 12 33 ml0
    have e31 := zhF hF 10 31 ml2
    refine ⟨e31, ?_⟩
    exact Z1k (l := l) (j := i) Tryd.underlying9 rfl e32 e33 h1
   apply bdg 35 k rfl rfl rfl rfl
   case h =>
    intro ax wx hE hR hF
    have e31 := zhF hF 10 31 ml3
    refine ⟨e31, ?_⟩
    exact Z02 rfl (hE.g e6)
   apply bdg 36 k rfl rfl rfl rfl
   case h =>
    intro ax wx hE hR hF
    have e31 := zhF hF 10 31 ml4
    refine ⟨e31, ?_⟩
    exact Z02 rfl (hE.g e7)
   apply bdg 37 k rfl rfl rfl rfl
   case h =>
    intro ax wx hE hR hF
    have e35 := zhF hF 14 35 ml1
    have e36 := zhF hF 15 36 ml0
    have e31 := zhF hF 10 31 ml5
    refine ⟨e31, ?_⟩
    exact Z1k (l := t) (j := i) Tryd.underlying9 rfl e35 e36 h2
   apply bdg 38 k rfl rfl rfl rfl
   case h =>
    intro ax wx hE hR hF
    have e34 := zhF hF 13 34 ml3
    have e37 := zhF hF 16 37 ml0
    have e31 := zhF hF 10 31 ml6
    refine ⟨e31, ?_⟩
    exact Z06 (Z13 rfl e34 e37) (decide_eq_true (Z81.2 h3))
   apply bd 39 k rfl rfl rfl
   case h =>
    intro ax wx hE hR hF
    have e31 := zhF hF 10 31 ml7
    have e38 := zhF hF 17 38 ml0
    exact Z07 rfl e31 e38
   apply Build.stop
   refine ⟨by kernel_rfl, .inl ⟨rfl, ?_⟩⟩
   intro a32 w33 hE R hF
   have e39 : a32.eval (.tmp 39) = _ := hF 18 (det 39 _) ml0
   clear hF
   replace O := OwnT.ext O R
   clear R
   replace e0 := hE.g e0; replace e5 := hE.g e5; replace e6 := hE.g e6; replace e7 := hE.g e7
   replace k := k.env hE
   clear hE
   refine Z00 ?_
   refine Z0c e39 rfl ?_
   refine wp_skip ?_
   refine Z00 ?_
   refine wp_block ?_
   refine wp_region_lit ?_
   have hE := Env.refl a32 [40, 41, 7]
   refine sd 40 hE k (Z02 rfl e7) ?_
   intro a34 hE e40 kp
   replace e7 := kt kp e7
   refine sd 41 hE k (Z14 rfl e40 rfl (by omega)) ?_
   intro a35 hE e41 kp
   replace e7 := kt kp e7
   refine sd 7 hE k (Z01 rfl e41) ?_
   intro a36 hE e7 kp
   refine wpList_nil ?_
   replace e0 := hE.g e0; replace e5 := hE.g e5; replace e6 := hE.g e6
   replace k := k.env hE
   clear hE e39
   refine Z0q ?_
   refine Z00 ?_
   refine ⟨⟨k, e0, e5, e6, i + 1, e7, by omega, by omega, O⟩, ?_⟩
   rw [e7, mi]; simp only [intOf]; omega
 · clear k e0 e5 e6 e7 O
   intro a37 w38 h_
   obtain ⟨k, e0, e5, e6, i, e7, hi, hit, hmax, O⟩ := h_
   have hci := Z7i f3 f4 hi hit hmax
   refine wp_seq ?_
   refine wp_seq ?_
   refine wp_region_lit ?_
   have hE := Env.refl a37 [42, 8]
   refine zm 42 hE k e7 ?_
   intro a39 hE e42 kp
   refine sd 8 hE k (Z01 rfl e42) ?_
   intro a40 hE e8 kp
   refine wpList_nil ?_
   replace e0 := hE.g e0; replace e5 := hE.g e5; replace e6 := hE.g e6; replace e7 := hE.g e7
   replace k := k.env hE
   clear hE
   refine Z00 ?_
   refine wp_block ?_
   refine wp_loop (fun a w => Fr 83 a ∧ a.eval (.tmp 0) = .string (sB l) ∧ a.eval (.tmp 5) = .int .i64 ↑q ∧ a.eval (.tmp 6) = .string (sB t) ∧ a.eval (.tmp 7) = .int .i64 ↑i ∧ ∃ (z : Nat), a.eval (.tmp 8) = .int .i64 ↑z ∧ i ≤ z ∧ z ≤ t.length ∧ OwnT W0.heap.size W0 [] w) (fun a w => t.length - (intOf (a.eval (.tmp 8))).toNat) ?_ ?_
   · exact ⟨k, e0, e5, e6, e7, i, e8, Nat.le_refl _, hit, O⟩
   intro a41 w42 hI
   clear k e0 e5 e6 e7
   obtain ⟨k, e0, e5, e6, e7, h_⟩ := hI
   clear O e8
   obtain ⟨z, e8, hz, hzt, O⟩ := h_
   have mz := e8

   by_cases h1 : z < t.length
   · have hsp := fit_sp f3 f4 (by omega) h1
     refine wp_seq ?_
     refine wp_seq ?_
     refine wp_region_lit ?_
     have hE := Env.refl a41 [43, 44, 45, 46]
     refine zm 43 hE k e8 ?_
     intro a43 hE e43 kp
     refine zm 44 hE k e6 ?_
     intro a44 hE e44 kp
     replace e43 := kt kp e43
     refine sd 45 hE k (Z0n Tryd.underlying9 rfl e44) ?_
     intro a45 hE e45 kp
     replace e43 := kt kp e43
     refine sd 46 hE k (Z06 (Z0l rfl e43 e45) (decide_eq_true (by omega))) ?_
     intro a46 hE e46 kp
     refine wpList_nil ?_
     replace e0 := hE.g e0; replace e5 := hE.g e5; replace e6 := hE.g e6; replace e7 := hE.g e7; replace e8 := hE.g e8
     replace k := k.env hE
     clear hE
     refine Z00 ?_
     refine Z0c e46 rfl ?_
     refine wp_skip ?_
     refine Z00 (wp_seq ?_)
     refine wp_block ?_
     refine wp_seq ?_
     refine wp_region_lit ?_
     have hE := Env.refl a46 [49, 50, 51, 52]
     refine zm 49 hE k e6 ?_
     intro a47 hE e49 kp
     refine zm 50 hE k e8 ?_
     intro a48 hE e50 kp
     replace e49 := kt kp e49
     refine sd 51 hE k (Z1k (l := t) (j := z) Tryd.underlying9 rfl e49 e50 h1) ?_
     intro a49 hE e51 kp
     refine sd 52 hE k (Z06 (Z2m rfl e51 rfl) (decide_eq_false (fun h => h (by rw [hsp]; rfl)))) ?_
     intro a50 hE e52 kp
     refine wpList_nil ?_
     replace e0 := hE.g e0; replace e5 := hE.g e5; replace e6 := hE.g e6; replace e7 := hE.g e7; replace e8 := hE.g e8
     replace k := k.env hE
     clear hE e46
     refine Z00 ?_
     refine Z0f e52 rfl ?_
     refine wp_skip ?_
     refine Z0q ?_
     refine Z00 ?_
     refine wp_region_lit ?_
     have hE := Env.refl a50 [47, 48, 8]
     refine sd 47 hE k (Z02 rfl e8) ?_
     intro a51 hE e47 kp
     replace e8 := kt kp e8
     refine sd 48 hE k (Z14 rfl e47 rfl (by omega)) ?_
     intro a52 hE e48 kp
     replace e8 := kt kp e8
     refine sd 8 hE k (Z01 rfl e48) ?_
     intro a53 hE e8 kp
     refine wpList_nil ?_
     replace e0 := hE.g e0; replace e5 := hE.g e5; replace e6 := hE.g e6; replace e7 := hE.g e7
     replace k := k.env hE
     clear hE e52
     refine Z00 ?_
     refine ⟨⟨k, e0, e5, e6, e7, z + 1, e8, by omega, by omega, O⟩, ?_⟩
     rw [e8, mz]; simp only [intOf]; omega
   · skip
     refine wp_seq ?_
     refine wp_seq ?_
     refine wp_region_lit ?_
     have hE := Env.refl a41 [43, 44, 45, 46]
     refine zm 43 hE k e8 ?_
     intro a54 hE e43 kp
     refine zm 44 hE k e6 ?_
     intro a55 hE e44 kp
     replace e43 := kt kp e43
     refine sd 45 hE k (Z0n Tryd.underlying9 rfl e44) ?_
     intro a56 hE e45 kp
     replace e43 := kt kp e43
     refine sd 46 hE k (Z06 (Z0l rfl e43 e45) (decide_eq_false (by omega))) ?_
     intro a57 hE e46 kp
     refine wpList_nil ?_
     replace e0 := hE.g e0; replace e5 := hE.g e5; replace e6 := hE.g e6; replace e7 := hE.g e7; replace e8 := hE.g e8
     replace k := k.env hE
     clear hE
     refine Z00 ?_
     refine Z0f e46 rfl ?_
     refine wp_exit ?_
     refine Z0e ?_
     refine Z0e ?_
     refine Z0r ?_
     refine Z00 ?_
     rcases Nat.lt_trichotomy (widthL l) q with hw | hw | hw
     · have hc := f5 (by omega)
       refine wp_seq ?_
       refine wp_region_lit ?_
       have hE := Env.refl a57 [53, 54, 55, 56, 57, 58, 59, 60, 61, 62, 63, 64, 65, 66, 67, 68, 69, 70, 71, 72, 73, 74, 75, 76, 77, 78, 79, 80, 81, 82, 4]
       refine zm 53 hE k e6 ?_
       intro a58 hE e53 kp
       apply Z08 54 hE k rfl (by rfl) (by rfl) rfl
       case h =>
        simp [go_sem, ↓IntWalk.iteOmega, ev e53]
        with_reducible exact ⟨rfl, rfl⟩
       case hc => exact Z0k t _ (by omega)
       rintro e w60 ⟨he, RE⟩
       replace O := OwnT.ext O RE
       refine ⟨_, he.trans (by rw [f1]), ?_⟩
       intro a59 hE e54 kp
       refine zm 55 hE k e5 ?_
       intro a61 hE e55 kp
       replace e54 := kt kp e54
       refine sd 56 hE k (Z06 (Z13 rfl e54 e55) (decide_eq_true (by omega))) ?_
       intro a62 hE e56 kp
       refine sd 57 hE k (Z02 rfl e56) ?_
       intro a63 hE e57 kp
       apply Z03 58 hE k rfl rfl rfl rfl rfl e57
       case h =>
        exact Z02 rfl (hE.g e0)
       intro a64 hE e58 kp
       replace e57 := kt kp e57
       apply Z0s 59 hE k rfl (by rfl) (by rfl) rfl rfl e57
       case h =>
        simp [go_sem, ↓IntWalk.iteOmega, ev e58]
        with_reducible exact ⟨rfl, rfl⟩
       case hc => exact Z0k l _ (by omega)
       rintro e w66 ⟨rfl, RE⟩
       replace O := OwnT.ext O RE
       refine ⟨_, rfl, ?_⟩
       intro a65 hE e59 kp
       replace e57 := kt kp e57
       apply Z03 60 hE k rfl rfl rfl rfl rfl e57
       case h =>
        exact Z02 rfl (hE.g e5)
       intro a67 hE e60 kp
       replace e57 := kt kp e57; replace e59 := kt kp e59
       apply Z03 61 hE k rfl rfl rfl rfl rfl e57
       case h =>
        exact Z06 (Z0l rfl e59 e60) (decide_eq_true (by omega))
       intro a68 hE e61 kp
       replace e57 := kt kp e57
       apply Z03 62 hE k rfl rfl rfl rfl rfl e57
       case h =>
        exact Z02 rfl e61
       intro a69 hE e62 kp
       replace e57 := kt kp e57
       refine Z04 63 hE k rfl (by rfl) (by rfl) rfl rfl (.inl e62) ?_
       intro a70 hE e63 kp
       replace e57 := kt kp e57; replace e62 := kt kp e62
       refine Z04 64 hE k rfl (by rfl) (by rfl) rfl rfl (.inl e62) ?_
       intro a71 hE e64 kp
       replace e57 := kt kp e57; replace e62 := kt kp e62
       refine Z04 65 hE k rfl (by rfl) (by rfl) rfl rfl (.inl e62) ?_
       intro a72 hE e65 kp
       replace e57 := kt kp e57; replace e62 := kt kp e62; replace e64 := kt kp e64
       refine Z04 66 hE k rfl (by rfl) (by rfl) rfl rfl (.inl e62) ?_
       intro a73 hE e66 kp
       replace e57 := kt kp e57; replace e62 := kt kp e62; replace e64 := kt kp e64
       refine Z04 67 hE k rfl (by rfl) (by rfl) rfl rfl (.inl e62) ?_
       intro a74 hE e67 kp
       replace e57 := kt kp e57; replace e62 := kt kp e62; replace e64 := kt kp e64
       refine Z04 68 hE k rfl (by rfl) (by rfl) rfl rfl (.inl e62) ?_
       intro a75 hE e68 kp
       replace e57 := kt kp e57; replace e62 := kt kp e62
       apply Z03 69 hE k rfl rfl rfl rfl rfl e57
       case h =>
        exact Z07 rfl e62 rfl
       intro a76 hE e69 kp
       replace e57 := kt kp e57
       refine sd 70 hE k (Z07 rfl e57 e69) ?_
       intro a77 hE e70 kp
       refine sd 71 hE k (Z02 rfl e70) ?_
       intro a78 hE e71 kp
       apply Z03 72 hE k rfl rfl rfl rfl rfl e71
       case h =>
        exact Z02 rfl (hE.g e0)
       intro a79 hE e72 kp
       replace e71 := kt kp e71
       apply Z0s 73 hE k rfl (by rfl) (by rfl) rfl rfl e71
       case h =>
        simp [go_sem, ↓IntWalk.iteOmega, ev e72]
        with_reducible exact ⟨rfl, rfl⟩
       case hc => exact Z0k l _ (by omega)
       rintro e w81 ⟨rfl, RE⟩
       replace O := OwnT.ext O RE
       refine ⟨_, rfl, ?_⟩
       intro a80 hE e73 kp
       replace e71 := kt kp e71
       apply Z03 74 hE k rfl rfl rfl rfl rfl e71
       case h =>
        exact Z02 rfl (hE.g e5)
       intro a82 hE e74 kp
       replace e71 := kt kp e71; replace e73 := kt kp e73
       apply Z03 75 hE k rfl rfl rfl rfl rfl e71
       case h =>
        exact Z06 (Z1a rfl e73 e74) (decide_eq_false (by omega))
       intro a83 hE e75 kp
       replace e71 := kt kp e71
       apply Z03 76 hE k rfl rfl rfl rfl rfl e71
       case h =>
        exact Z02 rfl e75
       intro a84 hE e76 kp
       replace e71 := kt kp e71
       apply Z03 77 hE k rfl rfl rfl rfl rfl e76
       case h =>
        exact Z02 rfl (hE.g e7)
       intro a85 hE e77 kp
       replace e71 := kt kp e71; replace e76 := kt kp e76
       apply Z03 78 hE k rfl rfl rfl rfl rfl e76
       case h =>
        exact Z02 rfl (hE.g e0)
       intro a86 hE e78 kp
       replace e71 := kt kp e71; replace e76 := kt kp e76; replace e77 := kt kp e77
       apply Z03 79 hE k rfl rfl rfl rfl rfl e76
       case h =>
        exact Z0n Tryd.underlying9 rfl e78
       intro a87 hE e79 kp
       replace e71 := kt kp e71; replace e76 := kt kp e76; replace e77 := kt kp e77
       apply Z03 80 hE k rfl rfl rfl rfl rfl e76
       case h =>
        exact Z06 (Z13 rfl e77 e79) (decide_eq_true (by omega))
       intro a88 hE e80 kp
       replace e71 := kt kp e71; replace e76 := kt kp e76
       apply Z03 81 hE k rfl rfl rfl rfl rfl e71
       case h =>
        exact Z09 rfl e76 e80
       intro a89 hE e81 kp
       replace e71 := kt kp e71
       refine sd 82 hE k (Z07 rfl e71 e81) ?_
       intro a90 hE e82 kp
       refine sd 4 hE k (Z01 rfl e82) ?_
       intro a91 hE e4 kp
       refine wpList_nil ?_
       replace k := k.env hE
       clear hE e0 e5 e6 e7 e8 e46
       refine Z00 ?_
       refine wp_ret ?_
       refine Z0a rfl k e4 ?_
       exact ⟨rfl, O.below⟩
     · have hc := f5 (by omega)
       have hlen := f2 (by omega)
       refine wp_seq ?_
       refine wp_region_lit ?_
       have hE := Env.refl a57 [53, 54, 55, 56, 57, 58, 59, 60, 61, 62, 63, 64, 65, 66, 67, 68, 69, 70, 71, 72, 73, 74, 75, 76, 77, 78, 79, 80, 81, 82, 4]
       refine zm 53 hE k e6 ?_
       intro a92 hE e53 kp
       apply Z08 54 hE k rfl (by rfl) (by rfl) rfl
       case h =>
        simp [go_sem, ↓IntWalk.iteOmega, ev e53]
        with_reducible exact ⟨rfl, rfl⟩
       case hc => exact Z0k t _ (by omega)
       rintro e w94 ⟨he, RE⟩
       replace O := OwnT.ext O RE
       refine ⟨_, he.trans (by rw [f1]), ?_⟩
       intro a93 hE e54 kp
       refine zm 55 hE k e5 ?_
       intro a95 hE e55 kp
       replace e54 := kt kp e54
       refine sd 56 hE k (Z06 (Z13 rfl e54 e55) (decide_eq_true (by omega))) ?_
       intro a96 hE e56 kp
       refine sd 57 hE k (Z02 rfl e56) ?_
       intro a97 hE e57 kp
       apply Z03 58 hE k rfl rfl rfl rfl rfl e57
       case h =>
        exact Z02 rfl (hE.g e0)
       intro a98 hE e58 kp
       replace e57 := kt kp e57
       apply Z0s 59 hE k rfl (by rfl) (by rfl) rfl rfl e57
       case h =>
        simp [go_sem, ↓IntWalk.iteOmega, ev e58]
        with_reducible exact ⟨rfl, rfl⟩
       case hc => exact Z0k l _ (by omega)
       rintro e w100 ⟨rfl, RE⟩
       replace O := OwnT.ext O RE
       refine ⟨_, rfl, ?_⟩
       intro a99 hE e59 kp
       replace e57 := kt kp e57
       apply Z03 60 hE k rfl rfl rfl rfl rfl e57
       case h =>
        exact Z02 rfl (hE.g e5)
       intro a101 hE e60 kp
       replace e57 := kt kp e57; replace e59 := kt kp e59
       apply Z03 61 hE k rfl rfl rfl rfl rfl e57
       case h =>
        exact Z06 (Z0l rfl e59 e60) (decide_eq_false (by omega))
       intro a102 hE e61 kp
       replace e57 := kt kp e57
       apply Z03 62 hE k rfl rfl rfl rfl rfl e57
       case h =>
        exact Z02 rfl e61
       intro a103 hE e62 kp
       replace e57 := kt kp e57
       apply Z03 63 hE k rfl rfl rfl rfl rfl e62
       case h =>
        exact Z02 rfl (hE.g e6)
       intro a104 hE e63 kp
       replace e57 := kt kp e57; replace e62 := kt kp e62
       apply Z03 64 hE k rfl rfl rfl rfl rfl e62
       case h =>
        exact Z0n Tryd.underlying9 rfl e63
       intro a105 hE e64 kp
       replace e57 := kt kp e57; replace e62 := kt kp e62
       apply Z03 65 hE k rfl rfl rfl rfl rfl e62
       case h =>
        exact Z02 rfl (hE.g e0)
       intro a106 hE e65 kp
       replace e57 := kt kp e57; replace e62 := kt kp e62; replace e64 := kt kp e64
       apply Z03 66 hE k rfl rfl rfl rfl rfl e62
       case h =>
        exact Z0n Tryd.underlying9 rfl e65
       intro a107 hE e66 kp
       replace e57 := kt kp e57; replace e62 := kt kp e62; replace e64 := kt kp e64
       apply Z03 67 hE k rfl rfl rfl rfl rfl e62
       case h =>
        exact Z14 rfl e66 rfl (by omega)
       intro a108 hE e67 kp
       replace e57 := kt kp e57; replace e62 := kt kp e62; replace e64 := kt kp e64
       apply Z03 68 hE k rfl rfl rfl rfl rfl e62
       case h =>
        exact Z06 (Z5p rfl e64 e67) (decide_eq_true (by omega))
       intro a109 hE e68 kp
       replace e57 := kt kp e57; replace e62 := kt kp e62
       apply Z03 69 hE k rfl rfl rfl rfl rfl e57
       case h =>
        exact Z09 rfl e62 e68
       intro a110 hE e69 kp
       replace e57 := kt kp e57
       refine sd 70 hE k (Z07 rfl e57 e69) ?_
       intro a111 hE e70 kp
       refine sd 71 hE k (Z02 rfl e70) ?_
       intro a112 hE e71 kp
       apply Z03 72 hE k rfl rfl rfl rfl rfl e71
       case h =>
        exact Z02 rfl (hE.g e0)
       intro a113 hE e72 kp
       replace e71 := kt kp e71
       apply Z0s 73 hE k rfl (by rfl) (by rfl) rfl rfl e71
       case h =>
        simp [go_sem, ↓IntWalk.iteOmega, ev e72]
        with_reducible exact ⟨rfl, rfl⟩
       case hc => exact Z0k l _ (by omega)
       rintro e w115 ⟨rfl, RE⟩
       replace O := OwnT.ext O RE
       refine ⟨_, rfl, ?_⟩
       intro a114 hE e73 kp
       replace e71 := kt kp e71
       apply Z03 74 hE k rfl rfl rfl rfl rfl e71
       case h =>
        exact Z02 rfl (hE.g e5)
       intro a116 hE e74 kp
       replace e71 := kt kp e71; replace e73 := kt kp e73
       apply Z03 75 hE k rfl rfl rfl rfl rfl e71
       case h =>
        exact Z06 (Z1a rfl e73 e74) (decide_eq_false (by omega))
       intro a117 hE e75 kp
       replace e71 := kt kp e71
       apply Z03 76 hE k rfl rfl rfl rfl rfl e71
       case h =>
        exact Z02 rfl e75
       intro a118 hE e76 kp
       replace e71 := kt kp e71
       apply Z03 77 hE k rfl rfl rfl rfl rfl e76
       case h =>
        exact Z02 rfl (hE.g e7)
       intro a119 hE e77 kp
       replace e71 := kt kp e71; replace e76 := kt kp e76
       apply Z03 78 hE k rfl rfl rfl rfl rfl e76
       case h =>
        exact Z02 rfl (hE.g e0)
       intro a120 hE e78 kp
       replace e71 := kt kp e71; replace e76 := kt kp e76; replace e77 := kt kp e77
       apply Z03 79 hE k rfl rfl rfl rfl rfl e76
       case h =>
        exact Z0n Tryd.underlying9 rfl e78
       intro a121 hE e79 kp
       replace e71 := kt kp e71; replace e76 := kt kp e76; replace e77 := kt kp e77
       apply Z03 80 hE k rfl rfl rfl rfl rfl e76
       case h =>
        exact Z06 (Z13 rfl e77 e79) (decide_eq_true (by omega))
       intro a122 hE e80 kp
       replace e71 := kt kp e71; replace e76 := kt kp e76
       apply Z03 81 hE k rfl rfl rfl rfl rfl e71
       case h =>
        exact Z09 rfl e76 e80
       intro a123 hE e81 kp
       replace e71 := kt kp e71
       refine sd 82 hE k (Z07 rfl e71 e81) ?_
       intro a124 hE e82 kp
       refine sd 4 hE k (Z01 rfl e82) ?_
       intro a125 hE e4 kp
       refine wpList_nil ?_
       replace k := k.env hE
       clear hE e0 e5 e6 e7 e8 e46
       refine Z00 ?_
       refine wp_ret ?_
       refine Z0a rfl k e4 ?_
       exact ⟨rfl, O.below⟩
     · have hlen := f2 (by omega)
       refine wp_seq ?_
       refine wp_region_lit ?_
       have hE := Env.refl a57 [53, 54, 55, 56, 57, 58, 59, 60, 61, 62, 63, 64, 65, 66, 67, 68, 69, 70, 71, 72, 73, 74, 75, 76, 77, 78, 79, 80, 81, 82, 4]
       refine zm 53 hE k e6 ?_
       intro a126 hE e53 kp
       apply Z08 54 hE k rfl (by rfl) (by rfl) rfl
       case h =>
        simp [go_sem, ↓IntWalk.iteOmega, ev e53]
        with_reducible exact ⟨rfl, rfl⟩
       case hc => exact Z0k t _ (by omega)
       rintro e w128 ⟨he, RE⟩
       replace O := OwnT.ext O RE
       refine ⟨_, he.trans (by rw [f1]), ?_⟩
       intro a127 hE e54 kp
       refine zm 55 hE k e5 ?_
       intro a129 hE e55 kp
       replace e54 := kt kp e54
       refine sd 56 hE k (Z06 (Z13 rfl e54 e55) (decide_eq_true (by omega))) ?_
       intro a130 hE e56 kp
       refine sd 57 hE k (Z02 rfl e56) ?_
       intro a131 hE e57 kp
       apply Z03 58 hE k rfl rfl rfl rfl rfl e57
       case h =>
        exact Z02 rfl (hE.g e0)
       intro a132 hE e58 kp
       replace e57 := kt kp e57
       apply Z0s 59 hE k rfl (by rfl) (by rfl) rfl rfl e57
       case h =>
        simp [go_sem, ↓IntWalk.iteOmega, ev e58]
        with_reducible exact ⟨rfl, rfl⟩
       case hc => exact Z0k l _ (by omega)
       rintro e w134 ⟨rfl, RE⟩
       replace O := OwnT.ext O RE
       refine ⟨_, rfl, ?_⟩
       intro a133 hE e59 kp
       replace e57 := kt kp e57
       apply Z03 60 hE k rfl rfl rfl rfl rfl e57
       case h =>
        exact Z02 rfl (hE.g e5)
       intro a135 hE e60 kp
       replace e57 := kt kp e57; replace e59 := kt kp e59
       apply Z03 61 hE k rfl rfl rfl rfl rfl e57
       case h =>
        exact Z06 (Z0l rfl e59 e60) (decide_eq_false (by omega))
       intro a136 hE e61 kp
       replace e57 := kt kp e57
       apply Z03 62 hE k rfl rfl rfl rfl rfl e57
       case h =>
        exact Z02 rfl e61
       intro a137 hE e62 kp
       replace e57 := kt kp e57
       apply Z03 63 hE k rfl rfl rfl rfl rfl e62
       case h =>
        exact Z02 rfl (hE.g e6)
       intro a138 hE e63 kp
       replace e57 := kt kp e57; replace e62 := kt kp e62
       apply Z03 64 hE k rfl rfl rfl rfl rfl e62
       case h =>
        exact Z0n Tryd.underlying9 rfl e63
       intro a139 hE e64 kp
       replace e57 := kt kp e57; replace e62 := kt kp e62
       apply Z03 65 hE k rfl rfl rfl rfl rfl e62
       case h =>
        exact Z02 rfl (hE.g e0)
       intro a140 hE e65 kp
       replace e57 := kt kp e57; replace e62 := kt kp e62; replace e64 := kt kp e64
       apply Z03 66 hE k rfl rfl rfl rfl rfl e62
       case h =>
        exact Z0n Tryd.underlying9 rfl e65
       intro a141 hE e66 kp
       replace e57 := kt kp e57; replace e62 := kt kp e62; replace e64 := kt kp e64
       apply Z03 67 hE k rfl rfl rfl rfl rfl e62
       case h =>
        exact Z14 rfl e66 rfl (by omega)
       intro a142 hE e67 kp
       replace e57 := kt kp e57; replace e62 := kt kp e62; replace e64 := kt kp e64
       apply Z03 68 hE k rfl rfl rfl rfl rfl e62
       case h =>
        exact Z06 (Z5p rfl e64 e67) (decide_eq_true (by omega))
       intro a143 hE e68 kp
       replace e57 := kt kp e57; replace e62 := kt kp e62
       apply Z03 69 hE k rfl rfl rfl rfl rfl e57
       case h =>
        exact Z09 rfl e62 e68
       intro a144 hE e69 kp
       replace e57 := kt kp e57
       refine sd 70 hE k (Z07 rfl e57 e69) ?_
       intro a145 hE e70 kp
       refine sd 71 hE k (Z02 rfl e70) ?_
       intro a146 hE e71 kp
       apply Z03 72 hE k rfl rfl rfl rfl rfl e71
       case h =>
        exact Z02 rfl (hE.g e0)
       intro a147 hE e72 kp
       replace e71 := kt kp e71
       apply Z0s 73 hE k rfl (by rfl) (by rfl) rfl rfl e71
       case h =>
        simp [go_sem, ↓IntWalk.iteOmega, ev e72]
        with_reducible exact ⟨rfl, rfl⟩
       case hc => exact Z0k l _ (by omega)
       rintro e w149 ⟨rfl, RE⟩
       replace O := OwnT.ext O RE
       refine ⟨_, rfl, ?_⟩
       intro a148 hE e73 kp
       replace e71 := kt kp e71
       apply Z03 74 hE k rfl rfl rfl rfl rfl e71
       case h =>
        exact Z02 rfl (hE.g e5)
       intro a150 hE e74 kp
       replace e71 := kt kp e71; replace e73 := kt kp e73
       apply Z03 75 hE k rfl rfl rfl rfl rfl e71
       case h =>
        exact Z06 (Z1a rfl e73 e74) (decide_eq_true (by omega))
       intro a151 hE e75 kp
       replace e71 := kt kp e71
       apply Z03 76 hE k rfl rfl rfl rfl rfl e71
       case h =>
        exact Z02 rfl e75
       intro a152 hE e76 kp
       replace e71 := kt kp e71
       refine Z04 77 hE k rfl (by rfl) (by rfl) rfl rfl (.inl e76) ?_
       intro a153 hE e77 kp
       replace e71 := kt kp e71; replace e76 := kt kp e76
       refine Z04 78 hE k rfl (by rfl) (by rfl) rfl rfl (.inl e76) ?_
       intro a154 hE e78 kp
       replace e71 := kt kp e71; replace e76 := kt kp e76; replace e77 := kt kp e77
       refine Z04 79 hE k rfl (by rfl) (by rfl) rfl rfl (.inl e76) ?_
       intro a155 hE e79 kp
       replace e71 := kt kp e71; replace e76 := kt kp e76; replace e77 := kt kp e77
       refine Z04 80 hE k rfl (by rfl) (by rfl) rfl rfl (.inl e76) ?_
       intro a156 hE e80 kp
       replace e71 := kt kp e71; replace e76 := kt kp e76
       apply Z03 81 hE k rfl rfl rfl rfl rfl e71
       case h =>
        exact Z07 rfl e76 rfl
       intro a157 hE e81 kp
       replace e71 := kt kp e71
       refine sd 82 hE k (Z07 rfl e71 e81) ?_
       intro a158 hE e82 kp
       refine sd 4 hE k (Z01 rfl e82) ?_
       intro a159 hE e4 kp
       refine wpList_nil ?_
       replace k := k.env hE
       clear hE e0 e5 e6 e7 e8 e46
       refine Z00 ?_
       refine wp_ret ?_
       refine Z0a rfl k e4 ?_
       exact ⟨rfl, O.below⟩
theorem gridFits_walk (w : World) (v0 v1 : Value) (h0 : Arg Tryd.prog w 9 v0) (h1 : Arg Tryd.prog w 3 v1) (hv : VarW w) :
 Calls Tryd.prog 6 #[v0, v1] w fun e w' => e = .returned (.bool true) ∧ Below w.heap.size w w' := by
 obtain ⟨s, rfl, _⟩ := Z4k Tryd.underlying9 h0
 obtain ⟨x, rfl, _⟩ := Z7v Tryd.underlying3 h1
 rw [← Z62 s]
 exact Z2x _ x w hv
section
open Go.ChangeShapes Go.WideShapes Go.ChangeAt
theorem Arg.mk_ {P : Program} {w : World} {t : TypeId} {v : Value} {H : Type} {enc : TypeId × Value → H} {d : DataW H} {p : List MemPlace} {r : Reach} {base : Nat} (h : DataW.Trod enc P w 0 (fun _ => true) true t v d p) (hv : Value.okWide P w r base t v) : Arg P w t v := by
  obtain ⟨fuel, hf⟩ := h
  exact ⟨⟨H, enc, fuel, _, hf⟩, r, base, hv⟩
end
end Go.Proofs.YtgdlnfljfiageaaDoor
