/- maps' reference: Place, Chunk, Good (printed by XMgA.gen.py). -/
import Derived.Test.YtngehbhhpkkijaaKMapsGood32
namespace Go.Proofs.Ytngehbhhpkkijaa
attribute [local simp] BigFrame.eval_const BigFrame.eval_global BigFrame.eval_func
set_option linter.unusedVariables false
set_option linter.unusedSimpArgs false
open Go.RowKit Go.Maps


/-- The places, the chunks of entries, as rows. -/
def encA (x : En) : List Value := [.int .i64 x.1]
def encK (x : En) : List Value := [.int .i64 x.2]
theorem Z76 {W0 w : World} {B : Option Addr} {es : List En} (h : Row W0 B 1 encA es) (hb : Below W0.heap.size W0 w) {i : Nat} (hi : i < es.length) : ∃ b o, B = some ⟨b, o, none⟩ ∧ w.cell? ⟨b, o + i, none⟩ = some (.int .i64 (atE es i)) := by
 obtain ⟨b, o, e, _, hc⟩ := (h.below hb) i _ (List.getElem?_eq_getElem hi)
 have e1 : atE es i = es[i].1 := by simp [atE, List.getD, hi]
 refine ⟨b, o, e, ?_⟩
 rw [e1]; have := hc 0 _ rfl; simpa using this
theorem Z74 {W0 w : World} {B : Option Addr} {es : List En} (h : Row W0 B 1 encK es) (hb : Below W0.heap.size W0 w) {i : Nat} (hi : i < es.length) : ∃ b o, B = some ⟨b, o, none⟩ ∧ w.cell? ⟨b, o + i, none⟩ = some (.int .i64 (chE es i)) := by
 obtain ⟨b, o, e, _, hc⟩ := (h.below hb) i _ (List.getElem?_eq_getElem hi)
 have e1 : chE es i = es[i].2 := by simp [chE, List.getD, hi]
 refine ⟨b, o, e, ?_⟩
 rw [e1]; have := hc 0 _ rfl; simpa using this

set_option maxRecDepth 100000 in
set_option maxHeartbeats 4000000 in
theorem Z6d (n : Int) (W0 : World) : Calls Try.prog 35 #[.int .i64 n] W0 fun e w' => e = .returned (.bool (decide (0 ≤ n ∧ n < 64))) ∧ Ext W0 w' := by
 have O := OwnT.start W0
 obtain ⟨b, hb⟩ : ∃ b, decide (0 ≤ n ∧ n < 64) = b := ⟨_, rfl⟩
 rw [hb]
 refine Z0c Try.func35 rfl 9 rfl (by rfl) ?_
 intro a1 k hargs
 have e0 : a1.eval (.tmp 0) = .int .i64 n := hargs 0 _ rfl
 clear hargs
 by_cases h1 : 0 ≤ n
 · have h2 : decide (n < 64) = b := by rw [← hb, decide_eq_decide]; omega
   refine wp_seq ?_
   refine wp_region_lit ?_
   have hE := Env.refl a1 [2]
   refine sd 2 hE k (Z00 rfl rfl) ?_
   intro a2 hE e2 kp
   refine wpList_nil ?_
   replace e0 := hE.g e0
   replace k := k.env hE
   clear hE e2
   refine Z01 (wp_seq ?_)
   refine wp_region_lit ?_
   have hE := Env.refl a2 [3, 4, 5, 6, 7, 8, 2]
   refine sm 3 hE k e0 ?_
   intro a3 hE e3 kp
   refine sd 4 hE k (Z06 (Z1e rfl e3 rfl) (decide_eq_true h1)) ?_
   intro a4 hE e4 kp
   refine sd 5 hE k (Z02 rfl e4) ?_
   intro a5 hE e5 kp
   apply Z04 6 hE k rfl rfl rfl rfl rfl e5
   case h =>
    exact Z02 rfl (hE.g e0)
   intro a6 hE e6 kp
   replace e5 := kt kp e5
   apply Z04 7 hE k rfl rfl rfl rfl rfl e5
   case h =>
    exact Z0y rfl e6 rfl
   intro a7 hE e7 kp
   replace e5 := kt kp e5
   replace e7 := e7.trans (congrArg Value.bool h2)
   refine sd 8 hE k (Z08 rfl e5 e7) ?_
   intro a8 hE e8 kp
   refine sd 2 hE k (Z00 rfl e8) ?_
   intro a9 hE e2 kp
   refine wpList_nil ?_
   replace k := k.env hE
   clear hE e0
   refine Z01 ?_
   refine wp_ret ?_
   refine Z0h rfl k e2 ?_
   exact ⟨rfl, O.below⟩
 · have h2 : b = false := by rw [← hb]; exact decide_eq_false (fun h => h1 h.1)
   subst h2
   refine wp_seq ?_
   refine wp_region_lit ?_
   have hE := Env.refl a1 [2]
   refine sd 2 hE k (Z00 rfl rfl) ?_
   intro a10 hE e2 kp
   refine wpList_nil ?_
   replace e0 := hE.g e0
   replace k := k.env hE
   clear hE e2
   refine Z01 (wp_seq ?_)
   refine wp_region_lit ?_
   have hE := Env.refl a10 [3, 4, 5, 6, 7, 8, 2]
   refine sm 3 hE k e0 ?_
   intro a11 hE e3 kp
   refine sd 4 hE k (Z06 (Z1e rfl e3 rfl) (decide_eq_false h1)) ?_
   intro a12 hE e4 kp
   refine sd 5 hE k (Z02 rfl e4) ?_
   intro a13 hE e5 kp
   refine Z0e 6 hE k rfl (by rfl) (by rfl) rfl rfl (.inl e5) ?_
   intro a14 hE e6 kp
   replace e5 := kt kp e5
   refine Z0e 7 hE k rfl (by rfl) (by rfl) rfl rfl (.inl e5) ?_
   intro a15 hE e7 kp
   replace e5 := kt kp e5
   refine sd 8 hE k (Z05 rfl e5 rfl) ?_
   intro a16 hE e8 kp
   refine sd 2 hE k (Z00 rfl e8) ?_
   intro a17 hE e2 kp
   refine wpList_nil ?_
   replace k := k.env hE
   clear hE e0
   refine Z01 ?_
   refine wp_ret ?_
   refine Z0h rfl k e2 ?_
   exact ⟨rfl, O.below⟩
theorem Z1z {n : Int} {b : Bool} (h : decide (0 ≤ n ∧ n < 64) = b) (W0 : World) : Calls Try.prog 35 #[.int .i64 n] W0 fun e w' => e = .returned (.bool b) ∧ Ext W0 w' := h ▸ Z6d n W0
set_option maxRecDepth 100000 in
set_option maxHeartbeats 4000000 in
theorem Z6e (n : Int) (W0 : World) : Calls Try.prog 38 #[.int .i64 n] W0 fun e w' => e = .returned (.bool (decide (1 ≤ n ∧ n ≤ 1023))) ∧ Ext W0 w' := by
 have O := OwnT.start W0
 obtain ⟨b, hb⟩ : ∃ b, decide (1 ≤ n ∧ n ≤ 1023) = b := ⟨_, rfl⟩
 rw [hb]
 refine Z0c Try.func38 rfl 9 rfl (by rfl) ?_
 intro a1 k hargs
 have e0 : a1.eval (.tmp 0) = .int .i64 n := hargs 0 _ rfl
 clear hargs
 by_cases h1 : 1 ≤ n
 · have h2 : decide (n ≤ 1023) = b := by rw [← hb, decide_eq_decide]; omega
   refine wp_seq ?_
   refine wp_region_lit ?_
   have hE := Env.refl a1 [2]
   refine sd 2 hE k (Z00 rfl rfl) ?_
   intro a2 hE e2 kp
   refine wpList_nil ?_
   replace e0 := hE.g e0
   replace k := k.env hE
   clear hE e2
   refine Z01 (wp_seq ?_)
   refine wp_region_lit ?_
   have hE := Env.refl a2 [3, 4, 5, 6, 7, 8, 2]
   refine sm 3 hE k e0 ?_
   intro a3 hE e3 kp
   refine sd 4 hE k (Z06 (Z1e rfl e3 rfl) (decide_eq_true h1)) ?_
   intro a4 hE e4 kp
   refine sd 5 hE k (Z02 rfl e4) ?_
   intro a5 hE e5 kp
   apply Z04 6 hE k rfl rfl rfl rfl rfl e5
   case h =>
    exact Z02 rfl (hE.g e0)
   intro a6 hE e6 kp
   replace e5 := kt kp e5
   apply Z04 7 hE k rfl rfl rfl rfl rfl e5
   case h =>
    exact Z6q rfl e6 rfl
   intro a7 hE e7 kp
   replace e5 := kt kp e5
   replace e7 := e7.trans (congrArg Value.bool h2)
   refine sd 8 hE k (Z08 rfl e5 e7) ?_
   intro a8 hE e8 kp
   refine sd 2 hE k (Z00 rfl e8) ?_
   intro a9 hE e2 kp
   refine wpList_nil ?_
   replace k := k.env hE
   clear hE e0
   refine Z01 ?_
   refine wp_ret ?_
   refine Z0h rfl k e2 ?_
   exact ⟨rfl, O.below⟩
 · have h2 : b = false := by rw [← hb]; exact decide_eq_false (fun h => h1 h.1)
   subst h2
   refine wp_seq ?_
   refine wp_region_lit ?_
   have hE := Env.refl a1 [2]
   refine sd 2 hE k (Z00 rfl rfl) ?_
   intro a10 hE e2 kp
   refine wpList_nil ?_
   replace e0 := hE.g e0
   replace k := k.env hE
   clear hE e2
   refine Z01 (wp_seq ?_)
   refine wp_region_lit ?_
   have hE := Env.refl a10 [3, 4, 5, 6, 7, 8, 2]
   refine sm 3 hE k e0 ?_
   intro a11 hE e3 kp
   refine sd 4 hE k (Z06 (Z1e rfl e3 rfl) (decide_eq_false h1)) ?_
   intro a12 hE e4 kp
   refine sd 5 hE k (Z02 rfl e4) ?_
   intro a13 hE e5 kp
   refine Z0e 6 hE k rfl (by rfl) (by rfl) rfl rfl (.inl e5) ?_
   intro a14 hE e6 kp
   replace e5 := kt kp e5
   refine Z0e 7 hE k rfl (by rfl) (by rfl) rfl rfl (.inl e5) ?_
   intro a15 hE e7 kp
   replace e5 := kt kp e5
   refine sd 8 hE k (Z05 rfl e5 rfl) ?_
   intro a16 hE e8 kp
   refine sd 2 hE k (Z00 rfl e8) ?_
   intro a17 hE e2 kp
   refine wpList_nil ?_
   replace k := k.env hE
   clear hE e0
   refine Z01 ?_
   refine wp_ret ?_
   refine Z0h rfl k e2 ?_
   exact ⟨rfl, O.below⟩
theorem Z2p {n : Int} {b : Bool} (h : decide (1 ≤ n ∧ n ≤ 1023) = b) (W0 : World) : Calls Try.prog 38 #[.int .i64 n] W0 fun e w' => e = .returned (.bool b) ∧ Ext W0 w' := h ▸ Z6e n W0
set_option maxRecDepth 100000 in
set_option maxHeartbeats 4000000 in
theorem Z68 {B1 B2 : Option Addr} {n c1 c2 : Nat} (size : Int) (es : List En) (W0 : World) (hl : es.length = n) (hr1 : Row W0 B1 1 encA es) (hr2 : Row W0 B2 1 encK es) (hn : n ≤ 1000000) : Calls Try.prog 30 #[.slice B1 n c1, .slice B2 n c2, .int .i64 size] W0 fun e w' => e = .returned (.bool (goodE size es)) ∧ Ext W0 w' := by
 have O := OwnT.start W0
 refine Z0c Try.func30 rfl 52 rfl (by rfl) ?_
 intro a1 k hargs
 have e0 : a1.eval (.tmp 0) = .slice B1 n c1 := hargs 0 _ rfl
 have e1 : a1.eval (.tmp 1) = .slice B2 n c2 := hargs 1 _ rfl
 have e2 : a1.eval (.tmp 2) = .int .i64 size := hargs 2 _ rfl
 clear hargs
 refine wp_seq ?_
 refine wp_region_lit ?_
 have hE := Env.refl a1 [6]
 refine sd 6 hE k (Z00 rfl rfl) ?_
 intro a2 hE e6 kp
 refine wpList_nil ?_
 replace e0 := hE.g e0; replace e1 := hE.g e1; replace e2 := hE.g e2
 replace k := k.env hE
 clear hE e6
 refine Z01 (wp_seq ?_)
 refine wp_seq ?_
 refine wp_region_lit ?_
 have hE := Env.refl a2 [7]
 refine sd 7 hE k (Z00 rfl rfl) ?_
 intro a3 hE e7 kp
 refine wpList_nil ?_
 replace e0 := hE.g e0; replace e1 := hE.g e1; replace e2 := hE.g e2
 replace k := k.env hE
 clear hE
 refine Z01 ?_
 refine wp_block ?_
 refine wp_loop (fun a w => Fr 52 a ∧ a.eval (.tmp 0) = .slice B1 n c1 ∧ a.eval (.tmp 1) = .slice B2 n c2 ∧ a.eval (.tmp 2) = .int .i64 size ∧ ∃ (i : Nat), a.eval (.tmp 7) = .int .i64 ↑i ∧ i ≤ n ∧ (∀ j, j < i → OkE size es j) ∧ OwnT W0.heap.size W0 [] w) (fun a w => n - (intOf (a.eval (.tmp 7))).toNat) ?_ ?_
 · exact ⟨k, e0, e1, e2, 0, e7, Nat.zero_le _, (fun j h => absurd h (Nat.not_lt_zero _)), O⟩
 intro a4 w5 hI
 clear k e0 e1 e2
 obtain ⟨k, e0, e1, e2, h_⟩ := hI
 clear O e7
 obtain ⟨i, e7, hi, hall, O⟩ := h_
 have mi := e7
 by_cases hlt : i < n
 · have hltI : (i : Int) < (n : Int) := by omega
   obtain ⟨b, o, rfl, -⟩ := Z76 hr1 O.below (i := i) (by omega)
   obtain ⟨b2, o2, rfl, -⟩ := Z74 hr2 O.below (i := i) (by omega)
   have hcA : ∀ W, Below W0.heap.size W0 W → ∀ j, j < n → W.cell? ⟨b, o + j, none⟩ = some (.int .i64 (atE es j)) := fun W hW j hj => by
    obtain ⟨b', o', e, h1⟩ := Z76 hr1 hW (i := j) (by omega)
    injection e with e
    injection e with e e'
    subst e e'
    exact h1
   have hcK : ∀ W, Below W0.heap.size W0 W → ∀ j, j < n → W.cell? ⟨b2, o2 + j, none⟩ = some (.int .i64 (chE es j)) := fun W hW j hj => by
    obtain ⟨b', o', e, h1⟩ := Z74 hr2 hW (i := j) (by omega)
    injection e with e
    injection e with e e'
    subst e e'
    exact h1
   obtain ⟨x, hx⟩ : ∃ x, atE es i = x := ⟨_, rfl⟩
   obtain ⟨c, hc⟩ : ∃ c, chE es i = c := ⟨_, rfl⟩

   refine wp_seq ?_
   refine wp_seq ?_
   refine wp_region_lit ?_
   have hE := Env.refl a4 [8, 9, 10, 11]
   refine sm 8 hE k e7 ?_
   intro a6 hE e8 kp
   refine sm 9 hE k e0 ?_
   intro a7 hE e9 kp
   replace e8 := kt kp e8
   refine sd 10 hE k (Z0i Try.underlying51 rfl e9) ?_
   intro a8 hE e10 kp
   replace e8 := kt kp e8
   refine sd 11 hE k (Z06 (Z0y rfl e8 e10) (decide_eq_true (by omega))) ?_
   intro a9 hE e11 kp
   refine wpList_nil ?_
   replace e0 := hE.g e0; replace e1 := hE.g e1; replace e2 := hE.g e2; replace e7 := hE.g e7
   replace k := k.env hE
   clear hE
   refine Z01 ?_
   refine Z0f e11 rfl ?_
   refine wp_skip ?_
   refine Z01 (wp_seq ?_)
   refine wp_block ?_
   by_cases h1 : 0 ≤ x ∧ x < 64
   rotate_left
   · skip
     refine wp_seq ?_
     refine Z0a (R := Ext) (w0 := w5) [[], [], [0, 1], [0, 1, 2], [0, 1, 2, 3], [0, 1, 2, 3, 4], [0, 1, 2, 3, 4, 5], [0, 1, 2, 3, 4, 5, 6], [0, 1, 2, 3, 4, 5, 6], [0, 1, 2, 3, 4, 5, 6, 7, 8], [0, 1, 2, 3, 4, 5, 6, 7, 8, 9], [0, 1, 2, 3, 4, 5, 6], [0, 1, 2, 3, 4, 5, 6, 7, 8, 9, 10, 11], [0, 1, 2, 3, 4, 5, 6, 7, 8, 9, 10, 11, 12], [0, 1, 2, 3, 4, 5, 6, 7, 8, 9, 10, 11, 12, 13], [0, 1, 2, 3, 4, 5, 6, 7, 8, 9, 10, 11, 12, 13, 14], [0, 1, 2, 3, 4, 5, 6, 7, 8, 9, 10, 11, 12, 13, 14], [0, 1, 2, 3, 4, 5, 6, 7, 8, 9, 10, 11, 12, 13, 14, 15, 16], [0, 1, 2, 3, 4, 5, 6, 7, 8, 9, 10, 11, 12, 13, 14, 15, 16, 17], [0, 1, 2, 3, 4, 5, 6, 7, 8, 9, 10, 11, 12, 13, 14, 15, 16, 17, 18], [0, 1, 2, 3, 4, 5, 6, 7, 8, 9, 10, 11, 12, 13, 14, 15, 16, 17, 18, 19], [0, 1, 2, 3, 4, 5, 6, 7, 8, 9, 10, 11, 12, 13, 14, 15, 16, 17, 18, 19, 20], [0, 1, 2, 3, 4, 5, 6, 7, 8, 9, 10, 11, 12, 13, 14, 15, 16, 17, 18, 19, 20, 21], [0, 1, 2, 3, 4, 5, 6, 7, 8, 9, 10, 11, 12, 13, 14, 15, 16, 17, 18, 19, 20, 21, 22], [0, 1, 2, 3, 4, 5, 6, 7, 8, 9, 10, 11, 12, 13, 14, 15, 16, 17, 18, 19, 20, 21, 22, 23], [0, 1, 2, 3, 4, 5, 6, 7, 8, 9, 10, 11, 12, 13, 14, 15, 16, 17, 18, 19, 20, 21, 22, 23, 24], [0, 1, 2, 3, 4, 5, 6, 7, 8, 9, 10, 11, 12, 13, 14, 15, 16, 17, 18, 19, 20, 21, 22, 23, 24, 25], [0, 1, 2, 3, 4, 5, 6, 7, 8, 9, 10, 11, 12, 13, 14, 15, 16, 17, 18, 19, 20, 21, 22, 23, 24, 25], [0, 1, 2, 3, 4, 5, 6, 7, 8, 9, 10, 11, 12, 13, 14, 15, 16, 17, 18, 19, 20, 21, 22, 23, 24, 25, 27], [0, 1, 2, 3, 4, 5, 6, 7, 8, 9, 10, 11, 12, 13, 14, 15, 16, 17, 18, 19, 20, 21, 22, 23, 24, 25, 26, 27, 28], [0, 1, 2, 3, 4, 5, 6, 7, 8, 9, 10, 11, 12, 13, 14, 15, 16, 17, 18, 19, 20, 21, 22, 23, 24, 25, 26, 27, 28, 29], [0, 1, 2, 3, 4, 5, 6, 7, 8, 9, 10, 11, 12, 13, 14, 15, 16, 17, 18, 19, 20, 21, 22, 23, 24, 25], [0, 1, 2, 3, 4, 5, 6, 7, 8, 9, 10, 11, 12, 13, 14, 15, 16, 17, 18, 19, 20, 21, 22, 23, 24, 25], [0, 1, 2, 3, 4, 5, 6, 7, 8, 9, 10, 11, 12, 13, 14, 15, 16, 17, 18, 19, 20, 21, 22, 23, 24, 25, 31, 32], [0, 1, 2, 3, 4, 5, 6, 7, 8, 9, 10, 11, 12, 13, 14, 15, 16, 17, 18, 19, 20, 21, 22, 23, 24, 25, 31, 32, 33], [0, 1, 2, 3, 4, 5, 6, 7, 8, 9, 10, 11, 12, 13, 14, 15, 16, 17, 18, 19, 20, 21, 22, 23, 24, 25, 26, 27, 28, 29, 30, 31, 32, 33, 34], [0, 1, 2, 3, 4, 5, 6, 7, 8, 9, 10, 11, 12, 13, 14, 15, 16, 17, 18, 19, 20, 21, 22, 23, 24, 25, 26, 27, 28, 29, 30, 31, 32, 33, 34, 35], [0, 1, 2, 3, 4, 5, 6, 7, 8, 9, 10, 11, 12, 13, 14, 15, 16, 17, 18, 19, 20, 21, 22, 23, 24, 25, 26, 27, 28, 29, 30, 31, 32, 33, 34, 35, 36]] [14, 15, 16, 17, 18, 19, 20, 21, 22, 23, 24, 25, 26, 27, 28, 29, 30, 31, 32, 33, 34, 35, 36, 37, 38, 39, 40, 41, 42, 43, 44, 45, 46, 47, 48, 49, 50, 51] Ext.refl (fun _ _ _ => Ext.trans) (Ext.drew _) (by kernel_rfl) ?_
     apply bd 14 k rfl rfl rfl
     case h =>
      intro ax wx hE hR hF
      exact Z02 rfl (hE.g e0)
     apply bd 15 k rfl rfl rfl
     case h =>
      intro ax wx hE hR hF
      exact Z02 rfl (hE.g e7)
     apply bd 16 k rfl rfl rfl
     case h =>
      intro ax wx hE hR hF
      have e14 := zhF hF 0 14 ml1
      have e15 := zhF hF 1 15 ml0
      simp [go_sem, ↓IntWalk.iteOmega, ev e14, ev e15]
      with_reducible rfl
     apply bd 17 k rfl rfl rfl
     case h =>
      intro ax wx hE hR hF
      have e16 := zhF hF 2 16 ml0
      have d0 := hcA wx (OwnT.ext O hR).below i hlt; rw [hx] at d0
      simp [go_sem, ↓IntWalk.iteOmega, ev e16, d0]
      with_reducible rfl
     apply Build.call 18 Ext.refl (by rfl) (by rw [k.size]; rfl) rfl
     case h =>
      intro ax wx hE hR hF
      have e17 := zhF hF 3 17 ml0
      simp [go_sem, ↓IntWalk.iteOmega, ev e17]
      with_reducible exact ⟨rfl, rfl⟩
     case hc => intro wx hR; exact Z1z (show decide (0 ≤ x ∧ x < 64) = false from decide_eq_false h1) wx
     apply bd 19 k rfl rfl rfl
     case h =>
      intro ax wx hE hR hF
      have e18 := zhF hF 4 18 ml0
      exact Z0v rfl e18
     apply bd 20 k rfl rfl rfl
     case h =>
      intro ax wx hE hR hF
      have e19 := zhF hF 5 19 ml0
      exact Z02 rfl e19
     refine Build.skip 21 (by rfl) (by rw [k.size]; rfl) rfl rfl ?_ ?_
     · intro ax wx hE hR hF
       have e20 := zhF hF 6 20 ml0
       exact e20
     refine Build.skip 22 (by rfl) (by rw [k.size]; rfl) rfl rfl ?_ ?_
     · intro ax wx hE hR hF
       have e20 := zhF hF 6 20 ml1
       exact e20
     refine Build.skip 23 (by rfl) (by rw [k.size]; rfl) rfl rfl ?_ ?_
     · intro ax wx hE hR hF
       have e20 := zhF hF 6 20 ml2
       exact e20
     refine Build.skip 24 (by rfl) (by rw [k.size]; rfl) rfl rfl ?_ ?_
     · intro ax wx hE hR hF
       have e20 := zhF hF 6 20 ml3
       exact e20
     refine Build.skip 25 (by rfl) (by rw [k.size]; rfl) rfl rfl ?_ ?_
     · intro ax wx hE hR hF
       have e20 := zhF hF 6 20 ml4
       exact e20
     refine Build.skip 26 (by rfl) (by rw [k.size]; rfl) rfl rfl ?_ ?_
     · intro ax wx hE hR hF
       have e20 := zhF hF 6 20 ml5
       exact e20
     apply bd 27 k rfl rfl rfl
     case h =>
      intro ax wx hE hR hF
      have e20 := zhF hF 6 20 ml6
      have e26 := zhF hF 12 26 ml0
      exact Z08 rfl e20 rfl
     apply bd 28 k rfl rfl rfl
     case h =>
      intro ax wx hE hR hF
      have e27 := zhF hF 13 27 ml0
      exact Z02 rfl e27
     refine Build.skip 29 (by rfl) (by rw [k.size]; rfl) rfl rfl ?_ ?_
     · intro ax wx hE hR hF
       have e28 := zhF hF 14 28 ml0
       exact e28
     refine Build.skip 30 (by rfl) (by rw [k.size]; rfl) rfl rfl ?_ ?_
     · intro ax wx hE hR hF
       have e28 := zhF hF 14 28 ml1
       exact e28
     refine Build.skip 31 (by rfl) (by rw [k.size]; rfl) rfl rfl ?_ ?_
     · intro ax wx hE hR hF
       have e28 := zhF hF 14 28 ml2
       exact e28
     refine Build.skip 32 (by rfl) (by rw [k.size]; rfl) rfl rfl ?_ ?_
     · intro ax wx hE hR hF
       have e28 := zhF hF 14 28 ml3
       exact e28
     refine Build.skip 33 (by rfl) (by rw [k.size]; rfl) rfl rfl ?_ ?_
     · intro ax wx hE hR hF
       have e28 := zhF hF 14 28 ml4
       exact e28
     refine Build.skip 34 (by rfl) (by rw [k.size]; rfl) rfl rfl ?_ ?_
     · intro ax wx hE hR hF
       have e28 := zhF hF 14 28 ml5
       exact e28
     apply bd 35 k rfl rfl rfl
     case h =>
      intro ax wx hE hR hF
      have e28 := zhF hF 14 28 ml6
      have e34 := zhF hF 20 34 ml0
      exact Z08 rfl e28 rfl
     apply bd 36 k rfl rfl rfl
     case h =>
      intro ax wx hE hR hF
      have e35 := zhF hF 21 35 ml0
      exact Z02 rfl e35
     refine Build.skip 37 (by rfl) (by rw [k.size]; rfl) rfl rfl ?_ ?_
     · intro ax wx hE hR hF
       have e36 := zhF hF 22 36 ml0
       exact e36
     refine Build.skip 38 (by rfl) (by rw [k.size]; rfl) rfl rfl ?_ ?_
     · intro ax wx hE hR hF
       have e36 := zhF hF 22 36 ml1
       exact e36
     refine Build.skip 39 (by rfl) (by rw [k.size]; rfl) rfl rfl ?_ ?_
     · intro ax wx hE hR hF
       have e36 := zhF hF 22 36 ml2
       exact e36
     refine Build.skipu 40 (by rfl) (by rw [k.size]; rfl) rfl rfl ?_ ?_
     · intro ax wx hE hR hF
       have e39 := zhF hF 25 39 ml0
       exact e39
     refine Build.skipu 41 (by rfl) (by rw [k.size]; rfl) rfl rfl ?_ ?_
     · intro ax wx hE hR hF
       have e39 := zhF hF 25 39 ml1
       exact e39
     refine Build.skipu 42 (by rfl) (by rw [k.size]; rfl) rfl rfl ?_ ?_
     · intro ax wx hE hR hF
       have e39 := zhF hF 25 39 ml2
       exact e39
     refine Build.skipu 43 (by rfl) (by rw [k.size]; rfl) rfl rfl ?_ ?_
     · intro ax wx hE hR hF
       have e39 := zhF hF 25 39 ml3
       exact e39
     refine Build.skipu 44 (by rfl) (by rw [k.size]; rfl) rfl rfl ?_ ?_
     · intro ax wx hE hR hF
       have e39 := zhF hF 25 39 ml4
       exact e39
     refine Build.skipu 45 (by rfl) (by rw [k.size]; rfl) rfl rfl ?_ ?_
     · intro ax wx hE hR hF
       have e39 := zhF hF 25 39 ml5
       exact e39
     refine Build.skipu 46 (by rfl) (by rw [k.size]; rfl) rfl rfl ?_ ?_
     · intro ax wx hE hR hF
       have e39 := zhF hF 25 39 ml6
       exact e39
     refine Build.skipu 47 (by rfl) (by rw [k.size]; rfl) rfl rfl ?_ ?_
     · intro ax wx hE hR hF
       have e39 := zhF hF 25 39 ml7
       exact e39
     refine Build.skipu 48 (by rfl) (by rw [k.size]; rfl) rfl rfl ?_ ?_
     · intro ax wx hE hR hF
       have e39 := zhF hF 25 39 ml8
       exact e39
     refine Build.skipu 49 (by rfl) (by rw [k.size]; rfl) rfl rfl ?_ ?_
     · intro ax wx hE hR hF
       have e39 := zhF hF 25 39 ml9
       exact e39
     refine Build.skip 50 (by rfl) (by rw [k.size]; rfl) rfl rfl ?_ ?_
     · intro ax wx hE hR hF
       have e36 := zhF hF 22 36 ml13
       exact e36
     apply bd 51 k rfl rfl rfl
     case h =>
      intro ax wx hE hR hF
      have e36 := zhF hF 22 36 ml14
      have e50 := zhF hF 36 50 ml0
      exact Z08 rfl e36 rfl
     apply Build.stop
     refine ⟨by kernel_rfl, .inl ⟨rfl, ?_⟩⟩
     intro a10 w11 hE R hF
     have e51 : a10.eval (.tmp 51) = _ := hF 37 (det 51 _) ml0
     clear hF
     replace O := OwnT.ext O R
     clear R
     replace e0 := hE.g e0; replace e1 := hE.g e1; replace e2 := hE.g e2; replace e7 := hE.g e7
     replace k := k.env hE
     clear hE e11
     refine Z01 ?_
     refine Z0f e51 rfl ?_
     refine wp_seq ?_
     refine wp_region_lit ?_
     have hE := Env.refl a10 [6]
     refine sd 6 hE k (Z00 rfl rfl) ?_
     intro a12 hE e6 kp
     refine wpList_nil ?_
     replace k := k.env hE
     clear hE e0 e1 e2 e7 e51
     refine Z01 ?_
     refine wp_ret ?_
     refine Z0j ?_
     refine Z09 ?_
     refine Z09 ?_
     refine Z0j ?_
     refine Z09 ?_
     refine Z0h rfl k e6 ?_
     exact ⟨by rw [show goodE size es = false from decide_eq_false (fun h => by have h0 := h i (by omega); unfold OkE at h0; rw [hx, hc] at h0; exact h1 h0.1)]; rfl, O.below⟩
   by_cases h2 : x < size
   rotate_left
   · skip
     refine wp_seq ?_
     refine Z0a (R := Ext) (w0 := w5) [[], [], [0, 1], [0, 1, 2], [0, 1, 2, 3], [0, 1, 2, 3, 4], [0, 1, 2, 3, 4, 5], [0, 1, 2, 3, 4, 5, 6], [0, 1, 2, 3, 4, 5, 6], [0, 1, 2, 3, 4, 5, 6, 7, 8], [0, 1, 2, 3, 4, 5, 6, 7, 8, 9], [0, 1, 2, 3, 4, 5, 6], [0, 1, 2, 3, 4, 5, 6, 7, 8, 9, 10, 11], [0, 1, 2, 3, 4, 5, 6, 7, 8, 9, 10, 11, 12], [0, 1, 2, 3, 4, 5, 6, 7, 8, 9, 10, 11, 12, 13], [0, 1, 2, 3, 4, 5, 6, 7, 8, 9, 10, 11, 12, 13, 14], [0, 1, 2, 3, 4, 5, 6, 7, 8, 9, 10, 11, 12, 13, 14], [0, 1, 2, 3, 4, 5, 6, 7, 8, 9, 10, 11, 12, 13, 14, 15, 16], [0, 1, 2, 3, 4, 5, 6, 7, 8, 9, 10, 11, 12, 13, 14, 15, 16, 17], [0, 1, 2, 3, 4, 5, 6, 7, 8, 9, 10, 11, 12, 13, 14, 15, 16, 17, 18], [0, 1, 2, 3, 4, 5, 6, 7, 8, 9, 10, 11, 12, 13, 14, 15, 16, 17, 18, 19], [0, 1, 2, 3, 4, 5, 6, 7, 8, 9, 10, 11, 12, 13, 14, 15, 16, 17, 18, 19, 20], [0, 1, 2, 3, 4, 5, 6, 7, 8, 9, 10, 11, 12, 13, 14, 15, 16, 17, 18, 19, 20, 21], [0, 1, 2, 3, 4, 5, 6, 7, 8, 9, 10, 11, 12, 13, 14, 15, 16, 17, 18, 19, 20, 21, 22], [0, 1, 2, 3, 4, 5, 6, 7, 8, 9, 10, 11, 12, 13, 14, 15, 16, 17, 18, 19, 20, 21, 22, 23], [0, 1, 2, 3, 4, 5, 6, 7, 8, 9, 10, 11, 12, 13, 14, 15, 16, 17, 18, 19, 20, 21, 22, 23, 24], [0, 1, 2, 3, 4, 5, 6, 7, 8, 9, 10, 11, 12, 13, 14, 15, 16, 17, 18, 19, 20, 21, 22, 23, 24, 25], [0, 1, 2, 3, 4, 5, 6, 7, 8, 9, 10, 11, 12, 13, 14, 15, 16, 17, 18, 19, 20, 21, 22, 23, 24, 25], [0, 1, 2, 3, 4, 5, 6, 7, 8, 9, 10, 11, 12, 13, 14, 15, 16, 17, 18, 19, 20, 21, 22, 23, 24, 25, 27], [0, 1, 2, 3, 4, 5, 6, 7, 8, 9, 10, 11, 12, 13, 14, 15, 16, 17, 18, 19, 20, 21, 22, 23, 24, 25, 26, 27, 28], [0, 1, 2, 3, 4, 5, 6, 7, 8, 9, 10, 11, 12, 13, 14, 15, 16, 17, 18, 19, 20, 21, 22, 23, 24, 25, 26, 27, 28, 29], [0, 1, 2, 3, 4, 5, 6, 7, 8, 9, 10, 11, 12, 13, 14, 15, 16, 17, 18, 19, 20, 21, 22, 23, 24, 25], [0, 1, 2, 3, 4, 5, 6, 7, 8, 9, 10, 11, 12, 13, 14, 15, 16, 17, 18, 19, 20, 21, 22, 23, 24, 25], [0, 1, 2, 3, 4, 5, 6, 7, 8, 9, 10, 11, 12, 13, 14, 15, 16, 17, 18, 19, 20, 21, 22, 23, 24, 25, 31, 32], [0, 1, 2, 3, 4, 5, 6, 7, 8, 9, 10, 11, 12, 13, 14, 15, 16, 17, 18, 19, 20, 21, 22, 23, 24, 25, 31, 32, 33], [0, 1, 2, 3, 4, 5, 6, 7, 8, 9, 10, 11, 12, 13, 14, 15, 16, 17, 18, 19, 20, 21, 22, 23, 24, 25, 26, 27, 28, 29, 30, 31, 32, 33, 34], [0, 1, 2, 3, 4, 5, 6, 7, 8, 9, 10, 11, 12, 13, 14, 15, 16, 17, 18, 19, 20, 21, 22, 23, 24, 25, 26, 27, 28, 29, 30, 31, 32, 33, 34, 35], [0, 1, 2, 3, 4, 5, 6, 7, 8, 9, 10, 11, 12, 13, 14, 15, 16, 17, 18, 19, 20, 21, 22, 23, 24, 25, 26, 27, 28, 29, 30, 31, 32, 33, 34, 35, 36]] [14, 15, 16, 17, 18, 19, 20, 21, 22, 23, 24, 25, 26, 27, 28, 29, 30, 31, 32, 33, 34, 35, 36, 37, 38, 39, 40, 41, 42, 43, 44, 45, 46, 47, 48, 49, 50, 51] Ext.refl (fun _ _ _ => Ext.trans) (Ext.drew _) (by kernel_rfl) ?_
     apply bd 14 k rfl rfl rfl
     case h =>
      intro ax wx hE hR hF
      exact Z02 rfl (hE.g e0)
     apply bd 15 k rfl rfl rfl
     case h =>
      intro ax wx hE hR hF
      exact Z02 rfl (hE.g e7)
     apply bd 16 k rfl rfl rfl
     case h =>
      intro ax wx hE hR hF
      have e14 := zhF hF 0 14 ml1
      have e15 := zhF hF 1 15 ml0
      simp [go_sem, ↓IntWalk.iteOmega, ev e14, ev e15]
      with_reducible rfl
     apply bd 17 k rfl rfl rfl
     case h =>
      intro ax wx hE hR hF
      have e16 := zhF hF 2 16 ml0
      have d0 := hcA wx (OwnT.ext O hR).below i hlt; rw [hx] at d0
      simp [go_sem, ↓IntWalk.iteOmega, ev e16, d0]
      with_reducible rfl
     apply Build.call 18 Ext.refl (by rfl) (by rw [k.size]; rfl) rfl
     case h =>
      intro ax wx hE hR hF
      have e17 := zhF hF 3 17 ml0
      simp [go_sem, ↓IntWalk.iteOmega, ev e17]
      with_reducible exact ⟨rfl, rfl⟩
     case hc => intro wx hR; exact Z1z (show decide (0 ≤ x ∧ x < 64) = true from decide_eq_true h1) wx
     apply bd 19 k rfl rfl rfl
     case h =>
      intro ax wx hE hR hF
      have e18 := zhF hF 4 18 ml0
      exact Z0v rfl e18
     apply bd 20 k rfl rfl rfl
     case h =>
      intro ax wx hE hR hF
      have e19 := zhF hF 5 19 ml0
      exact Z02 rfl e19
     apply bdg 21 k rfl rfl rfl rfl
     case h =>
      intro ax wx hE hR hF
      have e20 := zhF hF 6 20 ml0
      refine ⟨e20, ?_⟩
      exact Z02 rfl (hE.g e0)
     apply bdg 22 k rfl rfl rfl rfl
     case h =>
      intro ax wx hE hR hF
      have e20 := zhF hF 6 20 ml1
      refine ⟨e20, ?_⟩
      exact Z02 rfl (hE.g e7)
     apply bdg 23 k rfl rfl rfl rfl
     case h =>
      intro ax wx hE hR hF
      have e21 := zhF hF 7 21 ml1
      have e22 := zhF hF 8 22 ml0
      have e20 := zhF hF 6 20 ml2
      refine ⟨e20, ?_⟩
      simp [go_sem, ↓IntWalk.iteOmega, ev e21, ev e22]
      with_reducible rfl
     apply bdg 24 k rfl rfl rfl rfl
     case h =>
      intro ax wx hE hR hF
      have e23 := zhF hF 9 23 ml0
      have e20 := zhF hF 6 20 ml3
      refine ⟨e20, ?_⟩
      have d0 := hcA wx (OwnT.ext O hR).below i hlt; rw [hx] at d0
      simp [go_sem, ↓IntWalk.iteOmega, ev e23, d0]
      with_reducible rfl
     apply bdg 25 k rfl rfl rfl rfl
     case h =>
      intro ax wx hE hR hF
      have e20 := zhF hF 6 20 ml4
      refine ⟨e20, ?_⟩
      exact Z02 rfl (hE.g e2)
     apply bdg 26 k rfl rfl rfl rfl
     case h =>
      intro ax wx hE hR hF
      have e24 := zhF hF 10 24 ml1
      have e25 := zhF hF 11 25 ml0
      have e20 := zhF hF 6 20 ml5
      refine ⟨e20, ?_⟩
      exact Z06 (Z1e rfl e24 e25) (decide_eq_true (by omega))
     apply bd 27 k rfl rfl rfl
     case h =>
      intro ax wx hE hR hF
      have e20 := zhF hF 6 20 ml6
      have e26 := zhF hF 12 26 ml0
      exact Z05 rfl e20 e26
     apply bd 28 k rfl rfl rfl
     case h =>
      intro ax wx hE hR hF
      have e27 := zhF hF 13 27 ml0
      exact Z02 rfl e27
     refine Build.skip 29 (by rfl) (by rw [k.size]; rfl) rfl rfl ?_ ?_
     · intro ax wx hE hR hF
       have e28 := zhF hF 14 28 ml0
       exact e28
     refine Build.skip 30 (by rfl) (by rw [k.size]; rfl) rfl rfl ?_ ?_
     · intro ax wx hE hR hF
       have e28 := zhF hF 14 28 ml1
       exact e28
     refine Build.skip 31 (by rfl) (by rw [k.size]; rfl) rfl rfl ?_ ?_
     · intro ax wx hE hR hF
       have e28 := zhF hF 14 28 ml2
       exact e28
     refine Build.skip 32 (by rfl) (by rw [k.size]; rfl) rfl rfl ?_ ?_
     · intro ax wx hE hR hF
       have e28 := zhF hF 14 28 ml3
       exact e28
     refine Build.skip 33 (by rfl) (by rw [k.size]; rfl) rfl rfl ?_ ?_
     · intro ax wx hE hR hF
       have e28 := zhF hF 14 28 ml4
       exact e28
     refine Build.skip 34 (by rfl) (by rw [k.size]; rfl) rfl rfl ?_ ?_
     · intro ax wx hE hR hF
       have e28 := zhF hF 14 28 ml5
       exact e28
     apply bd 35 k rfl rfl rfl
     case h =>
      intro ax wx hE hR hF
      have e28 := zhF hF 14 28 ml6
      have e34 := zhF hF 20 34 ml0
      exact Z08 rfl e28 rfl
     apply bd 36 k rfl rfl rfl
     case h =>
      intro ax wx hE hR hF
      have e35 := zhF hF 21 35 ml0
      exact Z02 rfl e35
     refine Build.skip 37 (by rfl) (by rw [k.size]; rfl) rfl rfl ?_ ?_
     · intro ax wx hE hR hF
       have e36 := zhF hF 22 36 ml0
       exact e36
     refine Build.skip 38 (by rfl) (by rw [k.size]; rfl) rfl rfl ?_ ?_
     · intro ax wx hE hR hF
       have e36 := zhF hF 22 36 ml1
       exact e36
     refine Build.skip 39 (by rfl) (by rw [k.size]; rfl) rfl rfl ?_ ?_
     · intro ax wx hE hR hF
       have e36 := zhF hF 22 36 ml2
       exact e36
     refine Build.skipu 40 (by rfl) (by rw [k.size]; rfl) rfl rfl ?_ ?_
     · intro ax wx hE hR hF
       have e39 := zhF hF 25 39 ml0
       exact e39
     refine Build.skipu 41 (by rfl) (by rw [k.size]; rfl) rfl rfl ?_ ?_
     · intro ax wx hE hR hF
       have e39 := zhF hF 25 39 ml1
       exact e39
     refine Build.skipu 42 (by rfl) (by rw [k.size]; rfl) rfl rfl ?_ ?_
     · intro ax wx hE hR hF
       have e39 := zhF hF 25 39 ml2
       exact e39
     refine Build.skipu 43 (by rfl) (by rw [k.size]; rfl) rfl rfl ?_ ?_
     · intro ax wx hE hR hF
       have e39 := zhF hF 25 39 ml3
       exact e39
     refine Build.skipu 44 (by rfl) (by rw [k.size]; rfl) rfl rfl ?_ ?_
     · intro ax wx hE hR hF
       have e39 := zhF hF 25 39 ml4
       exact e39
     refine Build.skipu 45 (by rfl) (by rw [k.size]; rfl) rfl rfl ?_ ?_
     · intro ax wx hE hR hF
       have e39 := zhF hF 25 39 ml5
       exact e39
     refine Build.skipu 46 (by rfl) (by rw [k.size]; rfl) rfl rfl ?_ ?_
     · intro ax wx hE hR hF
       have e39 := zhF hF 25 39 ml6
       exact e39
     refine Build.skipu 47 (by rfl) (by rw [k.size]; rfl) rfl rfl ?_ ?_
     · intro ax wx hE hR hF
       have e39 := zhF hF 25 39 ml7
       exact e39
     refine Build.skipu 48 (by rfl) (by rw [k.size]; rfl) rfl rfl ?_ ?_
     · intro ax wx hE hR hF
       have e39 := zhF hF 25 39 ml8
       exact e39
     refine Build.skipu 49 (by rfl) (by rw [k.size]; rfl) rfl rfl ?_ ?_
     · intro ax wx hE hR hF
       have e39 := zhF hF 25 39 ml9
       exact e39
     refine Build.skip 50 (by rfl) (by rw [k.size]; rfl) rfl rfl ?_ ?_
     · intro ax wx hE hR hF
       have e36 := zhF hF 22 36 ml13
       exact e36
     apply bd 51 k rfl rfl rfl
     case h =>
      intro ax wx hE hR hF
      have e36 := zhF hF 22 36 ml14
      have e50 := zhF hF 36 50 ml0
      exact Z08 rfl e36 rfl
     apply Build.stop
     refine ⟨by kernel_rfl, .inl ⟨rfl, ?_⟩⟩
     intro a13 w14 hE R hF
     have e51 : a13.eval (.tmp 51) = _ := hF 37 (det 51 _) ml0
     clear hF
     replace O := OwnT.ext O R
     clear R
     replace e0 := hE.g e0; replace e1 := hE.g e1; replace e2 := hE.g e2; replace e7 := hE.g e7
     replace k := k.env hE
     clear hE e11
     refine Z01 ?_
     refine Z0f e51 rfl ?_
     refine wp_seq ?_
     refine wp_region_lit ?_
     have hE := Env.refl a13 [6]
     refine sd 6 hE k (Z00 rfl rfl) ?_
     intro a15 hE e6 kp
     refine wpList_nil ?_
     replace k := k.env hE
     clear hE e0 e1 e2 e7 e51
     refine Z01 ?_
     refine wp_ret ?_
     refine Z0j ?_
     refine Z09 ?_
     refine Z09 ?_
     refine Z0j ?_
     refine Z09 ?_
     refine Z0h rfl k e6 ?_
     exact ⟨by rw [show goodE size es = false from decide_eq_false (fun h => by have h0 := h i (by omega); unfold OkE at h0; rw [hx, hc] at h0; exact h2 h0.2.1)]; rfl, O.below⟩
   by_cases h3 : 1 ≤ c ∧ c ≤ 1023
   rotate_left
   · skip
     refine wp_seq ?_
     refine Z0a (R := Ext) (w0 := w5) [[], [], [0, 1], [0, 1, 2], [0, 1, 2, 3], [0, 1, 2, 3, 4], [0, 1, 2, 3, 4, 5], [0, 1, 2, 3, 4, 5, 6], [0, 1, 2, 3, 4, 5, 6], [0, 1, 2, 3, 4, 5, 6, 7, 8], [0, 1, 2, 3, 4, 5, 6, 7, 8, 9], [0, 1, 2, 3, 4, 5, 6], [0, 1, 2, 3, 4, 5, 6, 7, 8, 9, 10, 11], [0, 1, 2, 3, 4, 5, 6, 7, 8, 9, 10, 11, 12], [0, 1, 2, 3, 4, 5, 6, 7, 8, 9, 10, 11, 12, 13], [0, 1, 2, 3, 4, 5, 6, 7, 8, 9, 10, 11, 12, 13, 14], [0, 1, 2, 3, 4, 5, 6, 7, 8, 9, 10, 11, 12, 13, 14], [0, 1, 2, 3, 4, 5, 6, 7, 8, 9, 10, 11, 12, 13, 14, 15, 16], [0, 1, 2, 3, 4, 5, 6, 7, 8, 9, 10, 11, 12, 13, 14, 15, 16, 17], [0, 1, 2, 3, 4, 5, 6, 7, 8, 9, 10, 11, 12, 13, 14, 15, 16, 17, 18], [0, 1, 2, 3, 4, 5, 6, 7, 8, 9, 10, 11, 12, 13, 14, 15, 16, 17, 18, 19], [0, 1, 2, 3, 4, 5, 6, 7, 8, 9, 10, 11, 12, 13, 14, 15, 16, 17, 18, 19, 20], [0, 1, 2, 3, 4, 5, 6, 7, 8, 9, 10, 11, 12, 13, 14, 15, 16, 17, 18, 19, 20, 21], [0, 1, 2, 3, 4, 5, 6, 7, 8, 9, 10, 11, 12, 13, 14, 15, 16, 17, 18, 19, 20, 21, 22], [0, 1, 2, 3, 4, 5, 6, 7, 8, 9, 10, 11, 12, 13, 14, 15, 16, 17, 18, 19, 20, 21, 22, 23], [0, 1, 2, 3, 4, 5, 6, 7, 8, 9, 10, 11, 12, 13, 14, 15, 16, 17, 18, 19, 20, 21, 22, 23, 24], [0, 1, 2, 3, 4, 5, 6, 7, 8, 9, 10, 11, 12, 13, 14, 15, 16, 17, 18, 19, 20, 21, 22, 23, 24, 25], [0, 1, 2, 3, 4, 5, 6, 7, 8, 9, 10, 11, 12, 13, 14, 15, 16, 17, 18, 19, 20, 21, 22, 23, 24, 25], [0, 1, 2, 3, 4, 5, 6, 7, 8, 9, 10, 11, 12, 13, 14, 15, 16, 17, 18, 19, 20, 21, 22, 23, 24, 25, 27], [0, 1, 2, 3, 4, 5, 6, 7, 8, 9, 10, 11, 12, 13, 14, 15, 16, 17, 18, 19, 20, 21, 22, 23, 24, 25, 26, 27, 28], [0, 1, 2, 3, 4, 5, 6, 7, 8, 9, 10, 11, 12, 13, 14, 15, 16, 17, 18, 19, 20, 21, 22, 23, 24, 25, 26, 27, 28, 29], [0, 1, 2, 3, 4, 5, 6, 7, 8, 9, 10, 11, 12, 13, 14, 15, 16, 17, 18, 19, 20, 21, 22, 23, 24, 25], [0, 1, 2, 3, 4, 5, 6, 7, 8, 9, 10, 11, 12, 13, 14, 15, 16, 17, 18, 19, 20, 21, 22, 23, 24, 25], [0, 1, 2, 3, 4, 5, 6, 7, 8, 9, 10, 11, 12, 13, 14, 15, 16, 17, 18, 19, 20, 21, 22, 23, 24, 25, 31, 32], [0, 1, 2, 3, 4, 5, 6, 7, 8, 9, 10, 11, 12, 13, 14, 15, 16, 17, 18, 19, 20, 21, 22, 23, 24, 25, 31, 32, 33], [0, 1, 2, 3, 4, 5, 6, 7, 8, 9, 10, 11, 12, 13, 14, 15, 16, 17, 18, 19, 20, 21, 22, 23, 24, 25, 26, 27, 28, 29, 30, 31, 32, 33, 34], [0, 1, 2, 3, 4, 5, 6, 7, 8, 9, 10, 11, 12, 13, 14, 15, 16, 17, 18, 19, 20, 21, 22, 23, 24, 25, 26, 27, 28, 29, 30, 31, 32, 33, 34, 35], [0, 1, 2, 3, 4, 5, 6, 7, 8, 9, 10, 11, 12, 13, 14, 15, 16, 17, 18, 19, 20, 21, 22, 23, 24, 25, 26, 27, 28, 29, 30, 31, 32, 33, 34, 35, 36]] [14, 15, 16, 17, 18, 19, 20, 21, 22, 23, 24, 25, 26, 27, 28, 29, 30, 31, 32, 33, 34, 35, 36, 37, 38, 39, 40, 41, 42, 43, 44, 45, 46, 47, 48, 49, 50, 51] Ext.refl (fun _ _ _ => Ext.trans) (Ext.drew _) (by kernel_rfl) ?_
     apply bd 14 k rfl rfl rfl
     case h =>
      intro ax wx hE hR hF
      exact Z02 rfl (hE.g e0)
     apply bd 15 k rfl rfl rfl
     case h =>
      intro ax wx hE hR hF
      exact Z02 rfl (hE.g e7)
     apply bd 16 k rfl rfl rfl
     case h =>
      intro ax wx hE hR hF
      have e14 := zhF hF 0 14 ml1
      have e15 := zhF hF 1 15 ml0
      simp [go_sem, ↓IntWalk.iteOmega, ev e14, ev e15]
      with_reducible rfl
     apply bd 17 k rfl rfl rfl
     case h =>
      intro ax wx hE hR hF
      have e16 := zhF hF 2 16 ml0
      have d0 := hcA wx (OwnT.ext O hR).below i hlt; rw [hx] at d0
      simp [go_sem, ↓IntWalk.iteOmega, ev e16, d0]
      with_reducible rfl
     apply Build.call 18 Ext.refl (by rfl) (by rw [k.size]; rfl) rfl
     case h =>
      intro ax wx hE hR hF
      have e17 := zhF hF 3 17 ml0
      simp [go_sem, ↓IntWalk.iteOmega, ev e17]
      with_reducible exact ⟨rfl, rfl⟩
     case hc => intro wx hR; exact Z1z (show decide (0 ≤ x ∧ x < 64) = true from decide_eq_true h1) wx
     apply bd 19 k rfl rfl rfl
     case h =>
      intro ax wx hE hR hF
      have e18 := zhF hF 4 18 ml0
      exact Z0v rfl e18
     apply bd 20 k rfl rfl rfl
     case h =>
      intro ax wx hE hR hF
      have e19 := zhF hF 5 19 ml0
      exact Z02 rfl e19
     apply bdg 21 k rfl rfl rfl rfl
     case h =>
      intro ax wx hE hR hF
      have e20 := zhF hF 6 20 ml0
      refine ⟨e20, ?_⟩
      exact Z02 rfl (hE.g e0)
     apply bdg 22 k rfl rfl rfl rfl
     case h =>
      intro ax wx hE hR hF
      have e20 := zhF hF 6 20 ml1
      refine ⟨e20, ?_⟩
      exact Z02 rfl (hE.g e7)
     apply bdg 23 k rfl rfl rfl rfl
     case h =>
      intro ax wx hE hR hF
      have e21 := zhF hF 7 21 ml1
      have e22 := zhF hF 8 22 ml0
      have e20 := zhF hF 6 20 ml2
      refine ⟨e20, ?_⟩
      simp [go_sem, ↓IntWalk.iteOmega, ev e21, ev e22]
      with_reducible rfl
     apply bdg 24 k rfl rfl rfl rfl
     case h =>
      intro ax wx hE hR hF
      have e23 := zhF hF 9 23 ml0
      have e20 := zhF hF 6 20 ml3
      refine ⟨e20, ?_⟩
      have d0 := hcA wx (OwnT.ext O hR).below i hlt; rw [hx] at d0
      simp [go_sem, ↓IntWalk.iteOmega, ev e23, d0]
      with_reducible rfl
     apply bdg 25 k rfl rfl rfl rfl
     case h =>
      intro ax wx hE hR hF
      have e20 := zhF hF 6 20 ml4
      refine ⟨e20, ?_⟩
      exact Z02 rfl (hE.g e2)
     apply bdg 26 k rfl rfl rfl rfl
     case h =>
      intro ax wx hE hR hF
      have e24 := zhF hF 10 24 ml1
      have e25 := zhF hF 11 25 ml0
      have e20 := zhF hF 6 20 ml5
      refine ⟨e20, ?_⟩
      exact Z06 (Z1e rfl e24 e25) (decide_eq_false (by omega))
     apply bd 27 k rfl rfl rfl
     case h =>
      intro ax wx hE hR hF
      have e20 := zhF hF 6 20 ml6
      have e26 := zhF hF 12 26 ml0
      exact Z05 rfl e20 e26
     apply bd 28 k rfl rfl rfl
     case h =>
      intro ax wx hE hR hF
      have e27 := zhF hF 13 27 ml0
      exact Z02 rfl e27
     apply bdg 29 k rfl rfl rfl rfl
     case h =>
      intro ax wx hE hR hF
      have e28 := zhF hF 14 28 ml0
      refine ⟨e28, ?_⟩
      exact Z02 rfl (hE.g e1)
     apply bdg 30 k rfl rfl rfl rfl
     case h =>
      intro ax wx hE hR hF
      have e28 := zhF hF 14 28 ml1
      refine ⟨e28, ?_⟩
      exact Z02 rfl (hE.g e7)
     apply bdg 31 k rfl rfl rfl rfl
     case h =>
      intro ax wx hE hR hF
      have e29 := zhF hF 15 29 ml1
      have e30 := zhF hF 16 30 ml0
      have e28 := zhF hF 14 28 ml2
      refine ⟨e28, ?_⟩
      simp [go_sem, ↓IntWalk.iteOmega, ev e29, ev e30]
      with_reducible rfl
     apply bdg 32 k rfl rfl rfl rfl
     case h =>
      intro ax wx hE hR hF
      have e31 := zhF hF 17 31 ml0
      have e28 := zhF hF 14 28 ml3
      refine ⟨e28, ?_⟩
      have d1 := hcK wx (OwnT.ext O hR).below i hlt; rw [hc] at d1
      simp [go_sem, ↓IntWalk.iteOmega, ev e31, d1]
      with_reducible rfl
     apply Build.callg 33 Ext.refl (by rfl) (by rw [k.size]; rfl) rfl rfl
     case h =>
      intro ax wx hE hR hF
      have e32 := zhF hF 18 32 ml0
      have e28 := zhF hF 14 28 ml4
      refine ⟨e28, ?_⟩
      simp [go_sem, ↓IntWalk.iteOmega, ev e32]
      with_reducible exact ⟨rfl, rfl⟩
     case hc => intro wx hR; exact Z2p (show decide (1 ≤ c ∧ c ≤ 1023) = false from decide_eq_false h3) wx
     apply bdg 34 k rfl rfl rfl rfl
     case h =>
      intro ax wx hE hR hF
      have e33 := zhF hF 19 33 ml0
      have e28 := zhF hF 14 28 ml5
      refine ⟨e28, ?_⟩
      exact Z0v rfl e33
     apply bd 35 k rfl rfl rfl
     case h =>
      intro ax wx hE hR hF
      have e28 := zhF hF 14 28 ml6
      have e34 := zhF hF 20 34 ml0
      exact Z05 rfl e28 e34
     apply bd 36 k rfl rfl rfl
     case h =>
      intro ax wx hE hR hF
      have e35 := zhF hF 21 35 ml0
      exact Z02 rfl e35
     refine Build.skip 37 (by rfl) (by rw [k.size]; rfl) rfl rfl ?_ ?_
     · intro ax wx hE hR hF
       have e36 := zhF hF 22 36 ml0
       exact e36
     refine Build.skip 38 (by rfl) (by rw [k.size]; rfl) rfl rfl ?_ ?_
     · intro ax wx hE hR hF
       have e36 := zhF hF 22 36 ml1
       exact e36
     refine Build.skip 39 (by rfl) (by rw [k.size]; rfl) rfl rfl ?_ ?_
     · intro ax wx hE hR hF
       have e36 := zhF hF 22 36 ml2
       exact e36
     refine Build.skipu 40 (by rfl) (by rw [k.size]; rfl) rfl rfl ?_ ?_
     · intro ax wx hE hR hF
       have e39 := zhF hF 25 39 ml0
       exact e39
     refine Build.skipu 41 (by rfl) (by rw [k.size]; rfl) rfl rfl ?_ ?_
     · intro ax wx hE hR hF
       have e39 := zhF hF 25 39 ml1
       exact e39
     refine Build.skipu 42 (by rfl) (by rw [k.size]; rfl) rfl rfl ?_ ?_
     · intro ax wx hE hR hF
       have e39 := zhF hF 25 39 ml2
       exact e39
     refine Build.skipu 43 (by rfl) (by rw [k.size]; rfl) rfl rfl ?_ ?_
     · intro ax wx hE hR hF
       have e39 := zhF hF 25 39 ml3
       exact e39
     refine Build.skipu 44 (by rfl) (by rw [k.size]; rfl) rfl rfl ?_ ?_
     · intro ax wx hE hR hF
       have e39 := zhF hF 25 39 ml4
       exact e39
     refine Build.skipu 45 (by rfl) (by rw [k.size]; rfl) rfl rfl ?_ ?_
     · intro ax wx hE hR hF
       have e39 := zhF hF 25 39 ml5
       exact e39
     refine Build.skipu 46 (by rfl) (by rw [k.size]; rfl) rfl rfl ?_ ?_
     · intro ax wx hE hR hF
       have e39 := zhF hF 25 39 ml6
       exact e39
     refine Build.skipu 47 (by rfl) (by rw [k.size]; rfl) rfl rfl ?_ ?_
     · intro ax wx hE hR hF
       have e39 := zhF hF 25 39 ml7
       exact e39
     refine Build.skipu 48 (by rfl) (by rw [k.size]; rfl) rfl rfl ?_ ?_
     · intro ax wx hE hR hF
       have e39 := zhF hF 25 39 ml8
       exact e39
     refine Build.skipu 49 (by rfl) (by rw [k.size]; rfl) rfl rfl ?_ ?_
     · intro ax wx hE hR hF
       have e39 := zhF hF 25 39 ml9
       exact e39
     refine Build.skip 50 (by rfl) (by rw [k.size]; rfl) rfl rfl ?_ ?_
     · intro ax wx hE hR hF
       have e36 := zhF hF 22 36 ml13
       exact e36
     apply bd 51 k rfl rfl rfl
     case h =>
      intro ax wx hE hR hF
      have e36 := zhF hF 22 36 ml14
      have e50 := zhF hF 36 50 ml0
      exact Z08 rfl e36 rfl
     apply Build.stop
     refine ⟨by kernel_rfl, .inl ⟨rfl, ?_⟩⟩
     intro a16 w17 hE R hF
     have e51 : a16.eval (.tmp 51) = _ := hF 37 (det 51 _) ml0
     clear hF
     replace O := OwnT.ext O R
     clear R
     replace e0 := hE.g e0; replace e1 := hE.g e1; replace e2 := hE.g e2; replace e7 := hE.g e7
     replace k := k.env hE
     clear hE e11
     refine Z01 ?_
     refine Z0f e51 rfl ?_
     refine wp_seq ?_
     refine wp_region_lit ?_
     have hE := Env.refl a16 [6]
     refine sd 6 hE k (Z00 rfl rfl) ?_
     intro a18 hE e6 kp
     refine wpList_nil ?_
     replace k := k.env hE
     clear hE e0 e1 e2 e7 e51
     refine Z01 ?_
     refine wp_ret ?_
     refine Z0j ?_
     refine Z09 ?_
     refine Z09 ?_
     refine Z0j ?_
     refine Z09 ?_
     refine Z0h rfl k e6 ?_
     exact ⟨by rw [show goodE size es = false from decide_eq_false (fun h => by have h0 := h i (by omega); unfold OkE at h0; rw [hx, hc] at h0; exact h3 h0.2.2.1)]; rfl, O.below⟩
   rcases Nat.eq_zero_or_pos i with hi0 | hi0
   · skip
     refine wp_seq ?_
     refine Z0a (R := Ext) (w0 := w5) [[], [], [0, 1], [0, 1, 2], [0, 1, 2, 3], [0, 1, 2, 3, 4], [0, 1, 2, 3, 4, 5], [0, 1, 2, 3, 4, 5, 6], [0, 1, 2, 3, 4, 5, 6], [0, 1, 2, 3, 4, 5, 6, 7, 8], [0, 1, 2, 3, 4, 5, 6, 7, 8, 9], [0, 1, 2, 3, 4, 5, 6], [0, 1, 2, 3, 4, 5, 6, 7, 8, 9, 10, 11], [0, 1, 2, 3, 4, 5, 6, 7, 8, 9, 10, 11, 12], [0, 1, 2, 3, 4, 5, 6, 7, 8, 9, 10, 11, 12, 13], [0, 1, 2, 3, 4, 5, 6, 7, 8, 9, 10, 11, 12, 13, 14], [0, 1, 2, 3, 4, 5, 6, 7, 8, 9, 10, 11, 12, 13, 14], [0, 1, 2, 3, 4, 5, 6, 7, 8, 9, 10, 11, 12, 13, 14, 15, 16], [0, 1, 2, 3, 4, 5, 6, 7, 8, 9, 10, 11, 12, 13, 14, 15, 16, 17], [0, 1, 2, 3, 4, 5, 6, 7, 8, 9, 10, 11, 12, 13, 14, 15, 16, 17, 18], [0, 1, 2, 3, 4, 5, 6, 7, 8, 9, 10, 11, 12, 13, 14, 15, 16, 17, 18, 19], [0, 1, 2, 3, 4, 5, 6, 7, 8, 9, 10, 11, 12, 13, 14, 15, 16, 17, 18, 19, 20], [0, 1, 2, 3, 4, 5, 6, 7, 8, 9, 10, 11, 12, 13, 14, 15, 16, 17, 18, 19, 20, 21], [0, 1, 2, 3, 4, 5, 6, 7, 8, 9, 10, 11, 12, 13, 14, 15, 16, 17, 18, 19, 20, 21, 22], [0, 1, 2, 3, 4, 5, 6, 7, 8, 9, 10, 11, 12, 13, 14, 15, 16, 17, 18, 19, 20, 21, 22, 23], [0, 1, 2, 3, 4, 5, 6, 7, 8, 9, 10, 11, 12, 13, 14, 15, 16, 17, 18, 19, 20, 21, 22, 23, 24], [0, 1, 2, 3, 4, 5, 6, 7, 8, 9, 10, 11, 12, 13, 14, 15, 16, 17, 18, 19, 20, 21, 22, 23, 24, 25], [0, 1, 2, 3, 4, 5, 6, 7, 8, 9, 10, 11, 12, 13, 14, 15, 16, 17, 18, 19, 20, 21, 22, 23, 24, 25], [0, 1, 2, 3, 4, 5, 6, 7, 8, 9, 10, 11, 12, 13, 14, 15, 16, 17, 18, 19, 20, 21, 22, 23, 24, 25, 27], [0, 1, 2, 3, 4, 5, 6, 7, 8, 9, 10, 11, 12, 13, 14, 15, 16, 17, 18, 19, 20, 21, 22, 23, 24, 25, 26, 27, 28], [0, 1, 2, 3, 4, 5, 6, 7, 8, 9, 10, 11, 12, 13, 14, 15, 16, 17, 18, 19, 20, 21, 22, 23, 24, 25, 26, 27, 28, 29], [0, 1, 2, 3, 4, 5, 6, 7, 8, 9, 10, 11, 12, 13, 14, 15, 16, 17, 18, 19, 20, 21, 22, 23, 24, 25], [0, 1, 2, 3, 4, 5, 6, 7, 8, 9, 10, 11, 12, 13, 14, 15, 16, 17, 18, 19, 20, 21, 22, 23, 24, 25], [0, 1, 2, 3, 4, 5, 6, 7, 8, 9, 10, 11, 12, 13, 14, 15, 16, 17, 18, 19, 20, 21, 22, 23, 24, 25, 31, 32], [0, 1, 2, 3, 4, 5, 6, 7, 8, 9, 10, 11, 12, 13, 14, 15, 16, 17, 18, 19, 20, 21, 22, 23, 24, 25, 31, 32, 33], [0, 1, 2, 3, 4, 5, 6, 7, 8, 9, 10, 11, 12, 13, 14, 15, 16, 17, 18, 19, 20, 21, 22, 23, 24, 25, 26, 27, 28, 29, 30, 31, 32, 33, 34], [0, 1, 2, 3, 4, 5, 6, 7, 8, 9, 10, 11, 12, 13, 14, 15, 16, 17, 18, 19, 20, 21, 22, 23, 24, 25, 26, 27, 28, 29, 30, 31, 32, 33, 34, 35], [0, 1, 2, 3, 4, 5, 6, 7, 8, 9, 10, 11, 12, 13, 14, 15, 16, 17, 18, 19, 20, 21, 22, 23, 24, 25, 26, 27, 28, 29, 30, 31, 32, 33, 34, 35, 36]] [14, 15, 16, 17, 18, 19, 20, 21, 22, 23, 24, 25, 26, 27, 28, 29, 30, 31, 32, 33, 34, 35, 36, 37, 38, 39, 40, 41, 42, 43, 44, 45, 46, 47, 48, 49, 50, 51] Ext.refl (fun _ _ _ => Ext.trans) (Ext.drew _) (by kernel_rfl) ?_
     apply bd 14 k rfl rfl rfl
     case h =>
      intro ax wx hE hR hF
      exact Z02 rfl (hE.g e0)
     apply bd 15 k rfl rfl rfl
     case h =>
      intro ax wx hE hR hF
      exact Z02 rfl (hE.g e7)
     apply bd 16 k rfl rfl rfl
     case h =>
      intro ax wx hE hR hF
      have e14 := zhF hF 0 14 ml1
      have e15 := zhF hF 1 15 ml0
      simp [go_sem, ↓IntWalk.iteOmega, ev e14, ev e15]
      with_reducible rfl
     apply bd 17 k rfl rfl rfl
     case h =>
      intro ax wx hE hR hF
      have e16 := zhF hF 2 16 ml0
      have d0 := hcA wx (OwnT.ext O hR).below i hlt; rw [hx] at d0
      simp [go_sem, ↓IntWalk.iteOmega, ev e16, d0]
      with_reducible rfl
     apply Build.call 18 Ext.refl (by rfl) (by rw [k.size]; rfl) rfl
     case h =>
      intro ax wx hE hR hF
      have e17 := zhF hF 3 17 ml0
      simp [go_sem, ↓IntWalk.iteOmega, ev e17]
      with_reducible exact ⟨rfl, rfl⟩
     case hc => intro wx hR; exact Z1z (show decide (0 ≤ x ∧ x < 64) = true from decide_eq_true h1) wx
     apply bd 19 k rfl rfl rfl
     case h =>
      intro ax wx hE hR hF
      have e18 := zhF hF 4 18 ml0
      exact Z0v rfl e18
     apply bd 20 k rfl rfl rfl
     case h =>
      intro ax wx hE hR hF
      have e19 := zhF hF 5 19 ml0
      exact Z02 rfl e19
     apply bdg 21 k rfl rfl rfl rfl
     case h =>
      intro ax wx hE hR hF
      have e20 := zhF hF 6 20 ml0
      refine ⟨e20, ?_⟩
      exact Z02 rfl (hE.g e0)
     apply bdg 22 k rfl rfl rfl rfl
     case h =>
      intro ax wx hE hR hF
      have e20 := zhF hF 6 20 ml1
      refine ⟨e20, ?_⟩
      exact Z02 rfl (hE.g e7)
     apply bdg 23 k rfl rfl rfl rfl
     case h =>
      intro ax wx hE hR hF
      have e21 := zhF hF 7 21 ml1
      have e22 := zhF hF 8 22 ml0
      have e20 := zhF hF 6 20 ml2
      refine ⟨e20, ?_⟩
      simp [go_sem, ↓IntWalk.iteOmega, ev e21, ev e22]
      with_reducible rfl
     apply bdg 24 k rfl rfl rfl rfl
     case h =>
      intro ax wx hE hR hF
      have e23 := zhF hF 9 23 ml0
      have e20 := zhF hF 6 20 ml3
      refine ⟨e20, ?_⟩
      have d0 := hcA wx (OwnT.ext O hR).below i hlt; rw [hx] at d0
      simp [go_sem, ↓IntWalk.iteOmega, ev e23, d0]
      with_reducible rfl
     apply bdg 25 k rfl rfl rfl rfl
     case h =>
      intro ax wx hE hR hF
      have e20 := zhF hF 6 20 ml4
      refine ⟨e20, ?_⟩
      exact Z02 rfl (hE.g e2)
     apply bdg 26 k rfl rfl rfl rfl
     case h =>
      intro ax wx hE hR hF
      have e24 := zhF hF 10 24 ml1
      have e25 := zhF hF 11 25 ml0
      have e20 := zhF hF 6 20 ml5
      refine ⟨e20, ?_⟩
      exact Z06 (Z1e rfl e24 e25) (decide_eq_false (by omega))
     apply bd 27 k rfl rfl rfl
     case h =>
      intro ax wx hE hR hF
      have e20 := zhF hF 6 20 ml6
      have e26 := zhF hF 12 26 ml0
      exact Z05 rfl e20 e26
     apply bd 28 k rfl rfl rfl
     case h =>
      intro ax wx hE hR hF
      have e27 := zhF hF 13 27 ml0
      exact Z02 rfl e27
     apply bdg 29 k rfl rfl rfl rfl
     case h =>
      intro ax wx hE hR hF
      have e28 := zhF hF 14 28 ml0
      refine ⟨e28, ?_⟩
      exact Z02 rfl (hE.g e1)
     apply bdg 30 k rfl rfl rfl rfl
     case h =>
      intro ax wx hE hR hF
      have e28 := zhF hF 14 28 ml1
      refine ⟨e28, ?_⟩
      exact Z02 rfl (hE.g e7)
     apply bdg 31 k rfl rfl rfl rfl
     case h =>
      intro ax wx hE hR hF
      have e29 := zhF hF 15 29 ml1
      have e30 := zhF hF 16 30 ml0
      have e28 := zhF hF 14 28 ml2
      refine ⟨e28, ?_⟩
      simp [go_sem, ↓IntWalk.iteOmega, ev e29, ev e30]
      with_reducible rfl
     apply bdg 32 k rfl rfl rfl rfl
     case h =>
      intro ax wx hE hR hF
      have e31 := zhF hF 17 31 ml0
      have e28 := zhF hF 14 28 ml3
      refine ⟨e28, ?_⟩
      have d1 := hcK wx (OwnT.ext O hR).below i hlt; rw [hc] at d1
      simp [go_sem, ↓IntWalk.iteOmega, ev e31, d1]
      with_reducible rfl
     apply Build.callg 33 Ext.refl (by rfl) (by rw [k.size]; rfl) rfl rfl
     case h =>
      intro ax wx hE hR hF
      have e32 := zhF hF 18 32 ml0
      have e28 := zhF hF 14 28 ml4
      refine ⟨e28, ?_⟩
      simp [go_sem, ↓IntWalk.iteOmega, ev e32]
      with_reducible exact ⟨rfl, rfl⟩
     case hc => intro wx hR; exact Z2p (show decide (1 ≤ c ∧ c ≤ 1023) = true from decide_eq_true h3) wx
     apply bdg 34 k rfl rfl rfl rfl
     case h =>
      intro ax wx hE hR hF
      have e33 := zhF hF 19 33 ml0
      have e28 := zhF hF 14 28 ml5
      refine ⟨e28, ?_⟩
      exact Z0v rfl e33
     apply bd 35 k rfl rfl rfl
     case h =>
      intro ax wx hE hR hF
      have e28 := zhF hF 14 28 ml6
      have e34 := zhF hF 20 34 ml0
      exact Z05 rfl e28 e34
     apply bd 36 k rfl rfl rfl
     case h =>
      intro ax wx hE hR hF
      have e35 := zhF hF 21 35 ml0
      exact Z02 rfl e35
     apply bdg 37 k rfl rfl rfl rfl
     case h =>
      intro ax wx hE hR hF
      have e36 := zhF hF 22 36 ml0
      refine ⟨e36, ?_⟩
      exact Z02 rfl (hE.g e7)
     apply bdg 38 k rfl rfl rfl rfl
     case h =>
      intro ax wx hE hR hF
      have e37 := zhF hF 23 37 ml0
      have e36 := zhF hF 22 36 ml1
      refine ⟨e36, ?_⟩
      exact Z06 (Z19 rfl e37 rfl) (decide_eq_false (by omega))
     apply bdg 39 k rfl rfl rfl rfl
     case h =>
      intro ax wx hE hR hF
      have e38 := zhF hF 24 38 ml0
      have e36 := zhF hF 22 36 ml2
      refine ⟨e36, ?_⟩
      exact Z02 rfl e38
     refine Build.skip 40 (by rfl) (by rw [k.size]; rfl) rfl rfl ?_ ?_
     · intro ax wx hE hR hF
       have e39 := zhF hF 25 39 ml0
       exact e39
     refine Build.skip 41 (by rfl) (by rw [k.size]; rfl) rfl rfl ?_ ?_
     · intro ax wx hE hR hF
       have e39 := zhF hF 25 39 ml1
       exact e39
     refine Build.skip 42 (by rfl) (by rw [k.size]; rfl) rfl rfl ?_ ?_
     · intro ax wx hE hR hF
       have e39 := zhF hF 25 39 ml2
       exact e39
     refine Build.skip 43 (by rfl) (by rw [k.size]; rfl) rfl rfl ?_ ?_
     · intro ax wx hE hR hF
       have e39 := zhF hF 25 39 ml3
       exact e39
     refine Build.skip 44 (by rfl) (by rw [k.size]; rfl) rfl rfl ?_ ?_
     · intro ax wx hE hR hF
       have e39 := zhF hF 25 39 ml4
       exact e39
     refine Build.skip 45 (by rfl) (by rw [k.size]; rfl) rfl rfl ?_ ?_
     · intro ax wx hE hR hF
       have e39 := zhF hF 25 39 ml5
       exact e39
     refine Build.skip 46 (by rfl) (by rw [k.size]; rfl) rfl rfl ?_ ?_
     · intro ax wx hE hR hF
       have e39 := zhF hF 25 39 ml6
       exact e39
     refine Build.skip 47 (by rfl) (by rw [k.size]; rfl) rfl rfl ?_ ?_
     · intro ax wx hE hR hF
       have e39 := zhF hF 25 39 ml7
       exact e39
     refine Build.skip 48 (by rfl) (by rw [k.size]; rfl) rfl rfl ?_ ?_
     · intro ax wx hE hR hF
       have e39 := zhF hF 25 39 ml8
       exact e39
     refine Build.skip 49 (by rfl) (by rw [k.size]; rfl) rfl rfl ?_ ?_
     · intro ax wx hE hR hF
       have e39 := zhF hF 25 39 ml9
       exact e39
     apply bdg 50 k rfl rfl rfl rfl
     case h =>
      intro ax wx hE hR hF
      have e39 := zhF hF 25 39 ml10
      have e49 := zhF hF 35 49 ml0
      have e36 := zhF hF 22 36 ml13
      refine ⟨e36, ?_⟩
      exact Z05 rfl e39 rfl
     apply bd 51 k rfl rfl rfl
     case h =>
      intro ax wx hE hR hF
      have e36 := zhF hF 22 36 ml14
      have e50 := zhF hF 36 50 ml0
      exact Z05 rfl e36 e50
     apply Build.stop
     refine ⟨by kernel_rfl, .inl ⟨rfl, ?_⟩⟩
     intro a19 w20 hE R hF
     have e51 : a19.eval (.tmp 51) = _ := hF 37 (det 51 _) ml0
     clear hF
     replace O := OwnT.ext O R
     clear R
     replace e0 := hE.g e0; replace e1 := hE.g e1; replace e2 := hE.g e2; replace e7 := hE.g e7
     replace k := k.env hE
     clear hE e11
     refine Z01 ?_
     refine Z07 e51 rfl ?_
     refine wp_skip ?_
     refine Z0m ?_
     refine Z01 ?_
     refine wp_region_lit ?_
     have hE := Env.refl a19 [12, 13, 7]
     refine sd 12 hE k (Z02 rfl e7) ?_
     intro a21 hE e12 kp
     replace e7 := kt kp e7
     refine sd 13 hE k (Z0x rfl e12 rfl (by omega)) ?_
     intro a22 hE e13 kp
     replace e7 := kt kp e7
     refine sd 7 hE k (Z00 rfl e13) ?_
     intro a23 hE e7 kp
     refine wpList_nil ?_
     replace e0 := hE.g e0; replace e1 := hE.g e1; replace e2 := hE.g e2
     replace k := k.env hE
     clear hE e51
     refine Z01 ?_
     refine ⟨⟨k, e0, e1, e2, i + 1, e7, by omega, fun j hj => ?_, O⟩, ?_⟩
     · by_cases e : j = i
       · rw [e]; unfold OkE; rw [hx, hc]; exact ⟨h1, h2, h3, fun h => absurd h (by omega)⟩
       · exact hall j (by omega)
     · rw [e7, mi]; simp only [intOf]; omega
   · obtain ⟨p, hp⟩ : ∃ p, i - 1 = p := ⟨_, rfl⟩
     obtain ⟨y, hy⟩ : ∃ y, atE es p = y := ⟨_, rfl⟩
     have hpI : (p : Int) < (n : Int) := by omega
     by_cases h4 : y < x
     · skip
       refine wp_seq ?_
       refine Z0a (R := Ext) (w0 := w5) [[], [], [0, 1], [0, 1, 2], [0, 1, 2, 3], [0, 1, 2, 3, 4], [0, 1, 2, 3, 4, 5], [0, 1, 2, 3, 4, 5, 6], [0, 1, 2, 3, 4, 5, 6], [0, 1, 2, 3, 4, 5, 6, 7, 8], [0, 1, 2, 3, 4, 5, 6, 7, 8, 9], [0, 1, 2, 3, 4, 5, 6], [0, 1, 2, 3, 4, 5, 6, 7, 8, 9, 10, 11], [0, 1, 2, 3, 4, 5, 6, 7, 8, 9, 10, 11, 12], [0, 1, 2, 3, 4, 5, 6, 7, 8, 9, 10, 11, 12, 13], [0, 1, 2, 3, 4, 5, 6, 7, 8, 9, 10, 11, 12, 13, 14], [0, 1, 2, 3, 4, 5, 6, 7, 8, 9, 10, 11, 12, 13, 14], [0, 1, 2, 3, 4, 5, 6, 7, 8, 9, 10, 11, 12, 13, 14, 15, 16], [0, 1, 2, 3, 4, 5, 6, 7, 8, 9, 10, 11, 12, 13, 14, 15, 16, 17], [0, 1, 2, 3, 4, 5, 6, 7, 8, 9, 10, 11, 12, 13, 14, 15, 16, 17, 18], [0, 1, 2, 3, 4, 5, 6, 7, 8, 9, 10, 11, 12, 13, 14, 15, 16, 17, 18, 19], [0, 1, 2, 3, 4, 5, 6, 7, 8, 9, 10, 11, 12, 13, 14, 15, 16, 17, 18, 19, 20], [0, 1, 2, 3, 4, 5, 6, 7, 8, 9, 10, 11, 12, 13, 14, 15, 16, 17, 18, 19, 20, 21], [0, 1, 2, 3, 4, 5, 6, 7, 8, 9, 10, 11, 12, 13, 14, 15, 16, 17, 18, 19, 20, 21, 22], [0, 1, 2, 3, 4, 5, 6, 7, 8, 9, 10, 11, 12, 13, 14, 15, 16, 17, 18, 19, 20, 21, 22, 23], [0, 1, 2, 3, 4, 5, 6, 7, 8, 9, 10, 11, 12, 13, 14, 15, 16, 17, 18, 19, 20, 21, 22, 23, 24], [0, 1, 2, 3, 4, 5, 6, 7, 8, 9, 10, 11, 12, 13, 14, 15, 16, 17, 18, 19, 20, 21, 22, 23, 24, 25], [0, 1, 2, 3, 4, 5, 6, 7, 8, 9, 10, 11, 12, 13, 14, 15, 16, 17, 18, 19, 20, 21, 22, 23, 24, 25], [0, 1, 2, 3, 4, 5, 6, 7, 8, 9, 10, 11, 12, 13, 14, 15, 16, 17, 18, 19, 20, 21, 22, 23, 24, 25, 27], [0, 1, 2, 3, 4, 5, 6, 7, 8, 9, 10, 11, 12, 13, 14, 15, 16, 17, 18, 19, 20, 21, 22, 23, 24, 25, 26, 27, 28], [0, 1, 2, 3, 4, 5, 6, 7, 8, 9, 10, 11, 12, 13, 14, 15, 16, 17, 18, 19, 20, 21, 22, 23, 24, 25, 26, 27, 28, 29], [0, 1, 2, 3, 4, 5, 6, 7, 8, 9, 10, 11, 12, 13, 14, 15, 16, 17, 18, 19, 20, 21, 22, 23, 24, 25], [0, 1, 2, 3, 4, 5, 6, 7, 8, 9, 10, 11, 12, 13, 14, 15, 16, 17, 18, 19, 20, 21, 22, 23, 24, 25], [0, 1, 2, 3, 4, 5, 6, 7, 8, 9, 10, 11, 12, 13, 14, 15, 16, 17, 18, 19, 20, 21, 22, 23, 24, 25, 31, 32], [0, 1, 2, 3, 4, 5, 6, 7, 8, 9, 10, 11, 12, 13, 14, 15, 16, 17, 18, 19, 20, 21, 22, 23, 24, 25, 31, 32, 33], [0, 1, 2, 3, 4, 5, 6, 7, 8, 9, 10, 11, 12, 13, 14, 15, 16, 17, 18, 19, 20, 21, 22, 23, 24, 25, 26, 27, 28, 29, 30, 31, 32, 33, 34], [0, 1, 2, 3, 4, 5, 6, 7, 8, 9, 10, 11, 12, 13, 14, 15, 16, 17, 18, 19, 20, 21, 22, 23, 24, 25, 26, 27, 28, 29, 30, 31, 32, 33, 34, 35], [0, 1, 2, 3, 4, 5, 6, 7, 8, 9, 10, 11, 12, 13, 14, 15, 16, 17, 18, 19, 20, 21, 22, 23, 24, 25, 26, 27, 28, 29, 30, 31, 32, 33, 34, 35, 36]] [14, 15, 16, 17, 18, 19, 20, 21, 22, 23, 24, 25, 26, 27, 28, 29, 30, 31, 32, 33, 34, 35, 36, 37, 38, 39, 40, 41, 42, 43, 44, 45, 46, 47, 48, 49, 50, 51] Ext.refl (fun _ _ _ => Ext.trans) (Ext.drew _) (by kernel_rfl) ?_
       apply bd 14 k rfl rfl rfl
       case h =>
        intro ax wx hE hR hF
        exact Z02 rfl (hE.g e0)
       apply bd 15 k rfl rfl rfl
       case h =>
        intro ax wx hE hR hF
        exact Z02 rfl (hE.g e7)
       apply bd 16 k rfl rfl rfl
       case h =>
        intro ax wx hE hR hF
        have e14 := zhF hF 0 14 ml1
        have e15 := zhF hF 1 15 ml0
        simp [go_sem, ↓IntWalk.iteOmega, ev e14, ev e15]
        with_reducible rfl
       apply bd 17 k rfl rfl rfl
       case h =>
        intro ax wx hE hR hF
        have e16 := zhF hF 2 16 ml0
        have d0 := hcA wx (OwnT.ext O hR).below i hlt; rw [hx] at d0
        simp [go_sem, ↓IntWalk.iteOmega, ev e16, d0]
        with_reducible rfl
       apply Build.call 18 Ext.refl (by rfl) (by rw [k.size]; rfl) rfl
       case h =>
        intro ax wx hE hR hF
        have e17 := zhF hF 3 17 ml0
        simp [go_sem, ↓IntWalk.iteOmega, ev e17]
        with_reducible exact ⟨rfl, rfl⟩
       case hc => intro wx hR; exact Z1z (show decide (0 ≤ x ∧ x < 64) = true from decide_eq_true h1) wx
       apply bd 19 k rfl rfl rfl
       case h =>
        intro ax wx hE hR hF
        have e18 := zhF hF 4 18 ml0
        exact Z0v rfl e18
       apply bd 20 k rfl rfl rfl
       case h =>
        intro ax wx hE hR hF
        have e19 := zhF hF 5 19 ml0
        exact Z02 rfl e19
       apply bdg 21 k rfl rfl rfl rfl
       case h =>
        intro ax wx hE hR hF
        have e20 := zhF hF 6 20 ml0
        refine ⟨e20, ?_⟩
        exact Z02 rfl (hE.g e0)
       apply bdg 22 k rfl rfl rfl rfl
       case h =>
        intro ax wx hE hR hF
        have e20 := zhF hF 6 20 ml1
        refine ⟨e20, ?_⟩
        exact Z02 rfl (hE.g e7)
       apply bdg 23 k rfl rfl rfl rfl
       case h =>
        intro ax wx hE hR hF
        have e21 := zhF hF 7 21 ml1
        have e22 := zhF hF 8 22 ml0
        have e20 := zhF hF 6 20 ml2
        refine ⟨e20, ?_⟩
        simp [go_sem, ↓IntWalk.iteOmega, ev e21, ev e22]
        with_reducible rfl
       apply bdg 24 k rfl rfl rfl rfl
       case h =>
        intro ax wx hE hR hF
        have e23 := zhF hF 9 23 ml0
        have e20 := zhF hF 6 20 ml3
        refine ⟨e20, ?_⟩
        have d0 := hcA wx (OwnT.ext O hR).below i hlt; rw [hx] at d0
        simp [go_sem, ↓IntWalk.iteOmega, ev e23, d0]
        with_reducible rfl
       apply bdg 25 k rfl rfl rfl rfl
       case h =>
        intro ax wx hE hR hF
        have e20 := zhF hF 6 20 ml4
        refine ⟨e20, ?_⟩
        exact Z02 rfl (hE.g e2)
       apply bdg 26 k rfl rfl rfl rfl
       case h =>
        intro ax wx hE hR hF
        have e24 := zhF hF 10 24 ml1
        have e25 := zhF hF 11 25 ml0
        have e20 := zhF hF 6 20 ml5
        refine ⟨e20, ?_⟩
        exact Z06 (Z1e rfl e24 e25) (decide_eq_false (by omega))
       apply bd 27 k rfl rfl rfl
       case h =>
        intro ax wx hE hR hF
        have e20 := zhF hF 6 20 ml6
        have e26 := zhF hF 12 26 ml0
        exact Z05 rfl e20 e26
       apply bd 28 k rfl rfl rfl
       case h =>
        intro ax wx hE hR hF
        have e27 := zhF hF 13 27 ml0
        exact Z02 rfl e27
       apply bdg 29 k rfl rfl rfl rfl
       case h =>
        intro ax wx hE hR hF
        have e28 := zhF hF 14 28 ml0
        refine ⟨e28, ?_⟩
        exact Z02 rfl (hE.g e1)
       apply bdg 30 k rfl rfl rfl rfl
       case h =>
        intro ax wx hE hR hF
        have e28 := zhF hF 14 28 ml1
        refine ⟨e28, ?_⟩
        exact Z02 rfl (hE.g e7)
       apply bdg 31 k rfl rfl rfl rfl
       case h =>
        intro ax wx hE hR hF
        have e29 := zhF hF 15 29 ml1
        have e30 := zhF hF 16 30 ml0
        have e28 := zhF hF 14 28 ml2
        refine ⟨e28, ?_⟩
        simp [go_sem, ↓IntWalk.iteOmega, ev e29, ev e30]
        with_reducible rfl
       apply bdg 32 k rfl rfl rfl rfl
       case h =>
        intro ax wx hE hR hF
        have e31 := zhF hF 17 31 ml0
        have e28 := zhF hF 14 28 ml3
        refine ⟨e28, ?_⟩
        have d1 := hcK wx (OwnT.ext O hR).below i hlt; rw [hc] at d1
        simp [go_sem, ↓IntWalk.iteOmega, ev e31, d1]
        with_reducible rfl
       apply Build.callg 33 Ext.refl (by rfl) (by rw [k.size]; rfl) rfl rfl
       case h =>
        intro ax wx hE hR hF
        have e32 := zhF hF 18 32 ml0
        have e28 := zhF hF 14 28 ml4
        refine ⟨e28, ?_⟩
        simp [go_sem, ↓IntWalk.iteOmega, ev e32]
        with_reducible exact ⟨rfl, rfl⟩
       case hc => intro wx hR; exact Z2p (show decide (1 ≤ c ∧ c ≤ 1023) = true from decide_eq_true h3) wx
       apply bdg 34 k rfl rfl rfl rfl
       case h =>
        intro ax wx hE hR hF
        have e33 := zhF hF 19 33 ml0
        have e28 := zhF hF 14 28 ml5
        refine ⟨e28, ?_⟩
        exact Z0v rfl e33
       apply bd 35 k rfl rfl rfl
       case h =>
        intro ax wx hE hR hF
        have e28 := zhF hF 14 28 ml6
        have e34 := zhF hF 20 34 ml0
        exact Z05 rfl e28 e34
       apply bd 36 k rfl rfl rfl
       case h =>
        intro ax wx hE hR hF
        have e35 := zhF hF 21 35 ml0
        exact Z02 rfl e35
       apply bdg 37 k rfl rfl rfl rfl
       case h =>
        intro ax wx hE hR hF
        have e36 := zhF hF 22 36 ml0
        refine ⟨e36, ?_⟩
        exact Z02 rfl (hE.g e7)
       apply bdg 38 k rfl rfl rfl rfl
       case h =>
        intro ax wx hE hR hF
        have e37 := zhF hF 23 37 ml0
        have e36 := zhF hF 22 36 ml1
        refine ⟨e36, ?_⟩
        exact Z06 (Z19 rfl e37 rfl) (decide_eq_true (by omega))
       apply bdg 39 k rfl rfl rfl rfl
       case h =>
        intro ax wx hE hR hF
        have e38 := zhF hF 24 38 ml0
        have e36 := zhF hF 22 36 ml2
        refine ⟨e36, ?_⟩
        exact Z02 rfl e38
       apply bdg 40 k rfl rfl rfl rfl
       case h =>
        intro ax wx hE hR hF
        have e39 := zhF hF 25 39 ml0
        refine ⟨e39, ?_⟩
        exact Z02 rfl (hE.g e0)
       apply bdg 41 k rfl rfl rfl rfl
       case h =>
        intro ax wx hE hR hF
        have e39 := zhF hF 25 39 ml1
        refine ⟨e39, ?_⟩
        exact Z02 rfl (hE.g e7)
       apply bdg 42 k rfl rfl rfl rfl
       case h =>
        intro ax wx hE hR hF
        have e41 := zhF hF 27 41 ml0
        have e39 := zhF hF 25 39 ml2
        refine ⟨e39, ?_⟩
        exact Z18 (v := .int .i64 (p : Int)) (Z2v rfl e41 rfl (by omega)) (Z0r (by omega))
       apply bdg 43 k rfl rfl rfl rfl
       case h =>
        intro ax wx hE hR hF
        have e40 := zhF hF 26 40 ml2
        have e42 := zhF hF 28 42 ml0
        have e39 := zhF hF 25 39 ml3
        refine ⟨e39, ?_⟩
        simp [go_sem, ↓IntWalk.iteOmega, ev e40, ev e42]
        with_reducible rfl
       apply bdg 44 k rfl rfl rfl rfl
       case h =>
        intro ax wx hE hR hF
        have e43 := zhF hF 29 43 ml0
        have e39 := zhF hF 25 39 ml4
        refine ⟨e39, ?_⟩
        have d0 := hcA wx (OwnT.ext O hR).below p (by omega); rw [hy] at d0
        simp [go_sem, ↓IntWalk.iteOmega, ev e43, d0]
        with_reducible rfl
       apply bdg 45 k rfl rfl rfl rfl
       case h =>
        intro ax wx hE hR hF
        have e39 := zhF hF 25 39 ml5
        refine ⟨e39, ?_⟩
        exact Z02 rfl (hE.g e0)
       apply bdg 46 k rfl rfl rfl rfl
       case h =>
        intro ax wx hE hR hF
        have e39 := zhF hF 25 39 ml6
        refine ⟨e39, ?_⟩
        exact Z02 rfl (hE.g e7)
       apply bdg 47 k rfl rfl rfl rfl
       case h =>
        intro ax wx hE hR hF
        have e45 := zhF hF 31 45 ml1
        have e46 := zhF hF 32 46 ml0
        have e39 := zhF hF 25 39 ml7
        refine ⟨e39, ?_⟩
        simp [go_sem, ↓IntWalk.iteOmega, ev e45, ev e46]
        with_reducible rfl
       apply bdg 48 k rfl rfl rfl rfl
       case h =>
        intro ax wx hE hR hF
        have e47 := zhF hF 33 47 ml0
        have e39 := zhF hF 25 39 ml8
        refine ⟨e39, ?_⟩
        have d0 := hcA wx (OwnT.ext O hR).below i hlt; rw [hx] at d0
        simp [go_sem, ↓IntWalk.iteOmega, ev e47, d0]
        with_reducible rfl
       apply bdg 49 k rfl rfl rfl rfl
       case h =>
        intro ax wx hE hR hF
        have e44 := zhF hF 30 44 ml4
        have e48 := zhF hF 34 48 ml0
        have e39 := zhF hF 25 39 ml9
        refine ⟨e39, ?_⟩
        exact Z06 (Z1e rfl e44 e48) (decide_eq_false (by omega))
       apply bdg 50 k rfl rfl rfl rfl
       case h =>
        intro ax wx hE hR hF
        have e39 := zhF hF 25 39 ml10
        have e49 := zhF hF 35 49 ml0
        have e36 := zhF hF 22 36 ml13
        refine ⟨e36, ?_⟩
        exact Z08 rfl e39 e49
       apply bd 51 k rfl rfl rfl
       case h =>
        intro ax wx hE hR hF
        have e36 := zhF hF 22 36 ml14
        have e50 := zhF hF 36 50 ml0
        exact Z05 rfl e36 e50
       apply Build.stop
       refine ⟨by kernel_rfl, .inl ⟨rfl, ?_⟩⟩
       intro a24 w25 hE R hF
       have e51 : a24.eval (.tmp 51) = _ := hF 37 (det 51 _) ml0
       clear hF
       replace O := OwnT.ext O R
       clear R
       replace e0 := hE.g e0; replace e1 := hE.g e1; replace e2 := hE.g e2; replace e7 := hE.g e7
       replace k := k.env hE
       clear hE e11
       refine Z01 ?_
       refine Z07 e51 rfl ?_
       refine wp_skip ?_
       refine Z0m ?_
       refine Z01 ?_
       refine wp_region_lit ?_
       have hE := Env.refl a24 [12, 13, 7]
       refine sd 12 hE k (Z02 rfl e7) ?_
       intro a26 hE e12 kp
       replace e7 := kt kp e7
       refine sd 13 hE k (Z0x rfl e12 rfl (by omega)) ?_
       intro a27 hE e13 kp
       replace e7 := kt kp e7
       refine sd 7 hE k (Z00 rfl e13) ?_
       intro a28 hE e7 kp
       refine wpList_nil ?_
       replace e0 := hE.g e0; replace e1 := hE.g e1; replace e2 := hE.g e2
       replace k := k.env hE
       clear hE e51
       refine Z01 ?_
       refine ⟨⟨k, e0, e1, e2, i + 1, e7, by omega, fun j hj => ?_, O⟩, ?_⟩
       · by_cases e : j = i
         · rw [e]; unfold OkE; rw [hx, hc]; exact ⟨h1, h2, h3, fun _ => by rw [hp, hy]; exact h4⟩
         · exact hall j (by omega)
       · rw [e7, mi]; simp only [intOf]; omega
     · skip
       refine wp_seq ?_
       refine Z0a (R := Ext) (w0 := w5) [[], [], [0, 1], [0, 1, 2], [0, 1, 2, 3], [0, 1, 2, 3, 4], [0, 1, 2, 3, 4, 5], [0, 1, 2, 3, 4, 5, 6], [0, 1, 2, 3, 4, 5, 6], [0, 1, 2, 3, 4, 5, 6, 7, 8], [0, 1, 2, 3, 4, 5, 6, 7, 8, 9], [0, 1, 2, 3, 4, 5, 6], [0, 1, 2, 3, 4, 5, 6, 7, 8, 9, 10, 11], [0, 1, 2, 3, 4, 5, 6, 7, 8, 9, 10, 11, 12], [0, 1, 2, 3, 4, 5, 6, 7, 8, 9, 10, 11, 12, 13], [0, 1, 2, 3, 4, 5, 6, 7, 8, 9, 10, 11, 12, 13, 14], [0, 1, 2, 3, 4, 5, 6, 7, 8, 9, 10, 11, 12, 13, 14], [0, 1, 2, 3, 4, 5, 6, 7, 8, 9, 10, 11, 12, 13, 14, 15, 16], [0, 1, 2, 3, 4, 5, 6, 7, 8, 9, 10, 11, 12, 13, 14, 15, 16, 17], [0, 1, 2, 3, 4, 5, 6, 7, 8, 9, 10, 11, 12, 13, 14, 15, 16, 17, 18], [0, 1, 2, 3, 4, 5, 6, 7, 8, 9, 10, 11, 12, 13, 14, 15, 16, 17, 18, 19], [0, 1, 2, 3, 4, 5, 6, 7, 8, 9, 10, 11, 12, 13, 14, 15, 16, 17, 18, 19, 20], [0, 1, 2, 3, 4, 5, 6, 7, 8, 9, 10, 11, 12, 13, 14, 15, 16, 17, 18, 19, 20, 21], [0, 1, 2, 3, 4, 5, 6, 7, 8, 9, 10, 11, 12, 13, 14, 15, 16, 17, 18, 19, 20, 21, 22], [0, 1, 2, 3, 4, 5, 6, 7, 8, 9, 10, 11, 12, 13, 14, 15, 16, 17, 18, 19, 20, 21, 22, 23], [0, 1, 2, 3, 4, 5, 6, 7, 8, 9, 10, 11, 12, 13, 14, 15, 16, 17, 18, 19, 20, 21, 22, 23, 24], [0, 1, 2, 3, 4, 5, 6, 7, 8, 9, 10, 11, 12, 13, 14, 15, 16, 17, 18, 19, 20, 21, 22, 23, 24, 25], [0, 1, 2, 3, 4, 5, 6, 7, 8, 9, 10, 11, 12, 13, 14, 15, 16, 17, 18, 19, 20, 21, 22, 23, 24, 25], [0, 1, 2, 3, 4, 5, 6, 7, 8, 9, 10, 11, 12, 13, 14, 15, 16, 17, 18, 19, 20, 21, 22, 23, 24, 25, 27], [0, 1, 2, 3, 4, 5, 6, 7, 8, 9, 10, 11, 12, 13, 14, 15, 16, 17, 18, 19, 20, 21, 22, 23, 24, 25, 26, 27, 28], [0, 1, 2, 3, 4, 5, 6, 7, 8, 9, 10, 11, 12, 13, 14, 15, 16, 17, 18, 19, 20, 21, 22, 23, 24, 25, 26, 27, 28, 29], [0, 1, 2, 3, 4, 5, 6, 7, 8, 9, 10, 11, 12, 13, 14, 15, 16, 17, 18, 19, 20, 21, 22, 23, 24, 25], [0, 1, 2, 3, 4, 5, 6, 7, 8, 9, 10, 11, 12, 13, 14, 15, 16, 17, 18, 19, 20, 21, 22, 23, 24, 25], [0, 1, 2, 3, 4, 5, 6, 7, 8, 9, 10, 11, 12, 13, 14, 15, 16, 17, 18, 19, 20, 21, 22, 23, 24, 25, 31, 32], [0, 1, 2, 3, 4, 5, 6, 7, 8, 9, 10, 11, 12, 13, 14, 15, 16, 17, 18, 19, 20, 21, 22, 23, 24, 25, 31, 32, 33], [0, 1, 2, 3, 4, 5, 6, 7, 8, 9, 10, 11, 12, 13, 14, 15, 16, 17, 18, 19, 20, 21, 22, 23, 24, 25, 26, 27, 28, 29, 30, 31, 32, 33, 34], [0, 1, 2, 3, 4, 5, 6, 7, 8, 9, 10, 11, 12, 13, 14, 15, 16, 17, 18, 19, 20, 21, 22, 23, 24, 25, 26, 27, 28, 29, 30, 31, 32, 33, 34, 35], [0, 1, 2, 3, 4, 5, 6, 7, 8, 9, 10, 11, 12, 13, 14, 15, 16, 17, 18, 19, 20, 21, 22, 23, 24, 25, 26, 27, 28, 29, 30, 31, 32, 33, 34, 35, 36]] [14, 15, 16, 17, 18, 19, 20, 21, 22, 23, 24, 25, 26, 27, 28, 29, 30, 31, 32, 33, 34, 35, 36, 37, 38, 39, 40, 41, 42, 43, 44, 45, 46, 47, 48, 49, 50, 51] Ext.refl (fun _ _ _ => Ext.trans) (Ext.drew _) (by kernel_rfl) ?_
       apply bd 14 k rfl rfl rfl
       case h =>
        intro ax wx hE hR hF
        exact Z02 rfl (hE.g e0)
       apply bd 15 k rfl rfl rfl
       case h =>
        intro ax wx hE hR hF
        exact Z02 rfl (hE.g e7)
       apply bd 16 k rfl rfl rfl
       case h =>
        intro ax wx hE hR hF
        have e14 := zhF hF 0 14 ml1
        have e15 := zhF hF 1 15 ml0
        simp [go_sem, ↓IntWalk.iteOmega, ev e14, ev e15]
        with_reducible rfl
       apply bd 17 k rfl rfl rfl
       case h =>
        intro ax wx hE hR hF
        have e16 := zhF hF 2 16 ml0
        have d0 := hcA wx (OwnT.ext O hR).below i hlt; rw [hx] at d0
        simp [go_sem, ↓IntWalk.iteOmega, ev e16, d0]
        with_reducible rfl
       apply Build.call 18 Ext.refl (by rfl) (by rw [k.size]; rfl) rfl
       case h =>
        intro ax wx hE hR hF
        have e17 := zhF hF 3 17 ml0
        simp [go_sem, ↓IntWalk.iteOmega, ev e17]
        with_reducible exact ⟨rfl, rfl⟩
       case hc => intro wx hR; exact Z1z (show decide (0 ≤ x ∧ x < 64) = true from decide_eq_true h1) wx
       apply bd 19 k rfl rfl rfl
       case h =>
        intro ax wx hE hR hF
        have e18 := zhF hF 4 18 ml0
        exact Z0v rfl e18
       apply bd 20 k rfl rfl rfl
       case h =>
        intro ax wx hE hR hF
        have e19 := zhF hF 5 19 ml0
        exact Z02 rfl e19
       apply bdg 21 k rfl rfl rfl rfl
       case h =>
        intro ax wx hE hR hF
        have e20 := zhF hF 6 20 ml0
        refine ⟨e20, ?_⟩
        exact Z02 rfl (hE.g e0)
       apply bdg 22 k rfl rfl rfl rfl
       case h =>
        intro ax wx hE hR hF
        have e20 := zhF hF 6 20 ml1
        refine ⟨e20, ?_⟩
        exact Z02 rfl (hE.g e7)
       apply bdg 23 k rfl rfl rfl rfl
       case h =>
        intro ax wx hE hR hF
        have e21 := zhF hF 7 21 ml1
        have e22 := zhF hF 8 22 ml0
        have e20 := zhF hF 6 20 ml2
        refine ⟨e20, ?_⟩
        simp [go_sem, ↓IntWalk.iteOmega, ev e21, ev e22]
        with_reducible rfl
       apply bdg 24 k rfl rfl rfl rfl
       case h =>
        intro ax wx hE hR hF
        have e23 := zhF hF 9 23 ml0
        have e20 := zhF hF 6 20 ml3
        refine ⟨e20, ?_⟩
        have d0 := hcA wx (OwnT.ext O hR).below i hlt; rw [hx] at d0
        simp [go_sem, ↓IntWalk.iteOmega, ev e23, d0]
        with_reducible rfl
       apply bdg 25 k rfl rfl rfl rfl
       case h =>
        intro ax wx hE hR hF
        have e20 := zhF hF 6 20 ml4
        refine ⟨e20, ?_⟩
        exact Z02 rfl (hE.g e2)
       apply bdg 26 k rfl rfl rfl rfl
       case h =>
        intro ax wx hE hR hF
        have e24 := zhF hF 10 24 ml1
        have e25 := zhF hF 11 25 ml0
        have e20 := zhF hF 6 20 ml5
        refine ⟨e20, ?_⟩
        exact Z06 (Z1e rfl e24 e25) (decide_eq_false (by omega))
       apply bd 27 k rfl rfl rfl
       case h =>
        intro ax wx hE hR hF
        have e20 := zhF hF 6 20 ml6
        have e26 := zhF hF 12 26 ml0
        exact Z05 rfl e20 e26
       apply bd 28 k rfl rfl rfl
       case h =>
        intro ax wx hE hR hF
        have e27 := zhF hF 13 27 ml0
        exact Z02 rfl e27
       apply bdg 29 k rfl rfl rfl rfl
       case h =>
        intro ax wx hE hR hF
        have e28 := zhF hF 14 28 ml0
        refine ⟨e28, ?_⟩
        exact Z02 rfl (hE.g e1)
       apply bdg 30 k rfl rfl rfl rfl
       case h =>
        intro ax wx hE hR hF
        have e28 := zhF hF 14 28 ml1
        refine ⟨e28, ?_⟩
        exact Z02 rfl (hE.g e7)
       apply bdg 31 k rfl rfl rfl rfl
       case h =>
        intro ax wx hE hR hF
        have e29 := zhF hF 15 29 ml1
        have e30 := zhF hF 16 30 ml0
        have e28 := zhF hF 14 28 ml2
        refine ⟨e28, ?_⟩
        simp [go_sem, ↓IntWalk.iteOmega, ev e29, ev e30]
        with_reducible rfl
       apply bdg 32 k rfl rfl rfl rfl
       case h =>
        intro ax wx hE hR hF
        have e31 := zhF hF 17 31 ml0
        have e28 := zhF hF 14 28 ml3
        refine ⟨e28, ?_⟩
        have d1 := hcK wx (OwnT.ext O hR).below i hlt; rw [hc] at d1
        simp [go_sem, ↓IntWalk.iteOmega, ev e31, d1]
        with_reducible rfl
       apply Build.callg 33 Ext.refl (by rfl) (by rw [k.size]; rfl) rfl rfl
       case h =>
        intro ax wx hE hR hF
        have e32 := zhF hF 18 32 ml0
        have e28 := zhF hF 14 28 ml4
        refine ⟨e28, ?_⟩
        simp [go_sem, ↓IntWalk.iteOmega, ev e32]
        with_reducible exact ⟨rfl, rfl⟩
       case hc => intro wx hR; exact Z2p (show decide (1 ≤ c ∧ c ≤ 1023) = true from decide_eq_true h3) wx
       apply bdg 34 k rfl rfl rfl rfl
       case h =>
        intro ax wx hE hR hF
        have e33 := zhF hF 19 33 ml0
        have e28 := zhF hF 14 28 ml5
        refine ⟨e28, ?_⟩
        exact Z0v rfl e33
       apply bd 35 k rfl rfl rfl
       case h =>
        intro ax wx hE hR hF
        have e28 := zhF hF 14 28 ml6
        have e34 := zhF hF 20 34 ml0
        exact Z05 rfl e28 e34
       apply bd 36 k rfl rfl rfl
       case h =>
        intro ax wx hE hR hF
        have e35 := zhF hF 21 35 ml0
        exact Z02 rfl e35
       apply bdg 37 k rfl rfl rfl rfl
       case h =>
        intro ax wx hE hR hF
        have e36 := zhF hF 22 36 ml0
        refine ⟨e36, ?_⟩
        exact Z02 rfl (hE.g e7)
       apply bdg 38 k rfl rfl rfl rfl
       case h =>
        intro ax wx hE hR hF
        have e37 := zhF hF 23 37 ml0
        have e36 := zhF hF 22 36 ml1
        refine ⟨e36, ?_⟩
        exact Z06 (Z19 rfl e37 rfl) (decide_eq_true (by omega))
       apply bdg 39 k rfl rfl rfl rfl
       case h =>
        intro ax wx hE hR hF
        have e38 := zhF hF 24 38 ml0
        have e36 := zhF hF 22 36 ml2
        refine ⟨e36, ?_⟩
        exact Z02 rfl e38
       apply bdg 40 k rfl rfl rfl rfl
       case h =>
        intro ax wx hE hR hF
        have e39 := zhF hF 25 39 ml0
        refine ⟨e39, ?_⟩
        exact Z02 rfl (hE.g e0)
       apply bdg 41 k rfl rfl rfl rfl
       case h =>
        intro ax wx hE hR hF
        have e39 := zhF hF 25 39 ml1
        refine ⟨e39, ?_⟩
        exact Z02 rfl (hE.g e7)
       apply bdg 42 k rfl rfl rfl rfl
       case h =>
        intro ax wx hE hR hF
        have e41 := zhF hF 27 41 ml0
        have e39 := zhF hF 25 39 ml2
        refine ⟨e39, ?_⟩
        exact Z18 (v := .int .i64 (p : Int)) (Z2v rfl e41 rfl (by omega)) (Z0r (by omega))
       apply bdg 43 k rfl rfl rfl rfl
       case h =>
        intro ax wx hE hR hF
        have e40 := zhF hF 26 40 ml2
        have e42 := zhF hF 28 42 ml0
        have e39 := zhF hF 25 39 ml3
        refine ⟨e39, ?_⟩
        simp [go_sem, ↓IntWalk.iteOmega, ev e40, ev e42]
        with_reducible rfl
       apply bdg 44 k rfl rfl rfl rfl
       case h =>
        intro ax wx hE hR hF
        have e43 := zhF hF 29 43 ml0
        have e39 := zhF hF 25 39 ml4
        refine ⟨e39, ?_⟩
        have d0 := hcA wx (OwnT.ext O hR).below p (by omega); rw [hy] at d0
        simp [go_sem, ↓IntWalk.iteOmega, ev e43, d0]
        with_reducible rfl
       apply bdg 45 k rfl rfl rfl rfl
       case h =>
        intro ax wx hE hR hF
        have e39 := zhF hF 25 39 ml5
        refine ⟨e39, ?_⟩
        exact Z02 rfl (hE.g e0)
       apply bdg 46 k rfl rfl rfl rfl
       case h =>
        intro ax wx hE hR hF
        have e39 := zhF hF 25 39 ml6
        refine ⟨e39, ?_⟩
        exact Z02 rfl (hE.g e7)
       apply bdg 47 k rfl rfl rfl rfl
       case h =>
        intro ax wx hE hR hF
        have e45 := zhF hF 31 45 ml1
        have e46 := zhF hF 32 46 ml0
        have e39 := zhF hF 25 39 ml7
        refine ⟨e39, ?_⟩
        simp [go_sem, ↓IntWalk.iteOmega, ev e45, ev e46]
        with_reducible rfl
       apply bdg 48 k rfl rfl rfl rfl
       case h =>
        intro ax wx hE hR hF
        have e47 := zhF hF 33 47 ml0
        have e39 := zhF hF 25 39 ml8
        refine ⟨e39, ?_⟩
        have d0 := hcA wx (OwnT.ext O hR).below i hlt; rw [hx] at d0
        simp [go_sem, ↓IntWalk.iteOmega, ev e47, d0]
        with_reducible rfl
       apply bdg 49 k rfl rfl rfl rfl
       case h =>
        intro ax wx hE hR hF
        have e44 := zhF hF 30 44 ml4
        have e48 := zhF hF 34 48 ml0
        have e39 := zhF hF 25 39 ml9
        refine ⟨e39, ?_⟩
        exact Z06 (Z1e rfl e44 e48) (decide_eq_true (by omega))
       apply bdg 50 k rfl rfl rfl rfl
       case h =>
        intro ax wx hE hR hF
        have e39 := zhF hF 25 39 ml10
        have e49 := zhF hF 35 49 ml0
        have e36 := zhF hF 22 36 ml13
        refine ⟨e36, ?_⟩
        exact Z08 rfl e39 e49
       apply bd 51 k rfl rfl rfl
       case h =>
        intro ax wx hE hR hF
        have e36 := zhF hF 22 36 ml14
        have e50 := zhF hF 36 50 ml0
        exact Z05 rfl e36 e50
       apply Build.stop
       refine ⟨by kernel_rfl, .inl ⟨rfl, ?_⟩⟩
       intro a29 w30 hE R hF
       have e51 : a29.eval (.tmp 51) = _ := hF 37 (det 51 _) ml0
       clear hF
       replace O := OwnT.ext O R
       clear R
       replace e0 := hE.g e0; replace e1 := hE.g e1; replace e2 := hE.g e2; replace e7 := hE.g e7
       replace k := k.env hE
       clear hE e11
       refine Z01 ?_
       refine Z0f e51 rfl ?_
       refine wp_seq ?_
       refine wp_region_lit ?_
       have hE := Env.refl a29 [6]
       refine sd 6 hE k (Z00 rfl rfl) ?_
       intro a31 hE e6 kp
       refine wpList_nil ?_
       replace k := k.env hE
       clear hE e0 e1 e2 e7 e51
       refine Z01 ?_
       refine wp_ret ?_
       refine Z0j ?_
       refine Z09 ?_
       refine Z09 ?_
       refine Z0j ?_
       refine Z09 ?_
       refine Z0h rfl k e6 ?_
       exact ⟨by rw [show goodE size es = false from decide_eq_false (fun h => by have h0 := h i (by omega); unfold OkE at h0; rw [hx, hc] at h0; exact h4 (by have := h0.2.2.2 hi0; rw [hp, hy] at this; exact this))]; rfl, O.below⟩
 · skip
   refine wp_seq ?_
   refine wp_seq ?_
   refine wp_region_lit ?_
   have hE := Env.refl a4 [8, 9, 10, 11]
   refine sm 8 hE k e7 ?_
   intro a32 hE e8 kp
   refine sm 9 hE k e0 ?_
   intro a33 hE e9 kp
   replace e8 := kt kp e8
   refine sd 10 hE k (Z0i Try.underlying51 rfl e9) ?_
   intro a34 hE e10 kp
   replace e8 := kt kp e8
   refine sd 11 hE k (Z06 (Z0y rfl e8 e10) (decide_eq_false (by omega))) ?_
   intro a35 hE e11 kp
   refine wpList_nil ?_
   replace e0 := hE.g e0; replace e1 := hE.g e1; replace e2 := hE.g e2; replace e7 := hE.g e7
   replace k := k.env hE
   clear hE
   refine Z01 ?_
   refine Z07 e11 rfl ?_
   refine wp_exit ?_
   refine Z0z ?_
   refine Z0z ?_
   refine Z1g ?_
   refine Z01 (wp_seq ?_)
   refine wp_region_lit ?_
   have hE := Env.refl a35 [6]
   refine sd 6 hE k (Z00 rfl rfl) ?_
   intro a36 hE e6 kp
   refine wpList_nil ?_
   replace k := k.env hE
   clear hE e0 e1 e2 e7 e11
   refine Z01 ?_
   refine wp_ret ?_
   refine Z0h rfl k e6 ?_
   exact ⟨by rw [show goodE size es = true from decide_eq_true (fun j hj => hall j (by omega))]; rfl, O.below⟩
end Go.Proofs.Ytngehbhhpkkijaa
