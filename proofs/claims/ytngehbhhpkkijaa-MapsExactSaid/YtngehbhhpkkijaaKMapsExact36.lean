/- maps' law: a row of 64 numbers; same (printed by XMgB.gen.py). -/
import Derived.Test.YtngehbhhpkkijaaKMapsExact35
namespace Go.Proofs.Ytngehbhhpkkijaa
attribute [local simp] BigFrame.eval_const BigFrame.eval_global BigFrame.eval_func
set_option linter.unusedVariables false
set_option linter.unusedSimpArgs false
open Go.RowKit Go.Maps


/-- 64 numbers in a row. -/
def rwA (u : Nat → Nat) : Array Value := ((List.range 64).map fun i => Value.int .i64 (u i : Nat)).toArray
theorem Z1h (u : Nat → Nat) : (rwA u).size = 64 := by simp [rwA]
theorem Z29 (u : Nat → Nat) {i : Nat} (hi : i < 64) : (rwA u)[i]? = some (.int .i64 (u i : Nat)) := by
 unfold rwA
 rw [List.getElem?_toArray, List.getElem?_map, List.getElem?_range hi]
 rfl
theorem Z41 (u : Nat → Nat) : (rwA u).all (·.oneCell') = true := by
 rw [Array.all_eq_true]
 intro i hi
 have h := Z29 u (i := i) (by rw [Z1h] at hi; exact hi)
 rw [Array.getElem?_eq_getElem hi] at h
 injection h with h
 rw [h]
 rfl
/-- The pairs of a row stand in it. -/
def Rw (P : List Pr) (u : Nat → Nat) : Prop := ∀ i, i < 64 → u i = (lookP i P).getD 0
theorem Rw.no {P : List Pr} {u : Nat → Nat} (h : Rw P u) (hok : P.all enOk = true) {i : Nat} (hi : i < 64) (h0 : u i = 0) : ∀ y ∈ P, y.1 ≠ i := by
 refine Z26.1 ?_
 have h1 := h i hi
 cases e : lookP i P with
 | none => rfl
 | some v =>
  rw [e] at h1
  have hv : v = 0 := by rw [← h0, h1]; rfl
  obtain ⟨y, hy, hk⟩ := Z5n.1 (show (lookP i P).isSome = true by rw [e]; rfl)
  unfold lookP at e
  cases e2 : P.find? fun y => decide (y.1 = i) with
  | none => rw [e2] at e; cases e
  | some z =>
   rw [e2] at e
   injection e with e
   have hz := List.mem_of_find?_eq_some e2
   have h3 : z.1 < 64 ∧ 1 ≤ z.2 ∧ z.2 ≤ 1023 := of_decide_eq_true (List.all_eq_true.1 hok z hz)
   have h4 : z.2 = v := e
   omega
theorem Rw.yes {P : List Pr} {u : Nat → Nat} (h : Rw P u) {i : Nat} (hi : i < 64) (h0 : u i ≠ 0) : ∃ j : Nat, P[j]? = some (i, u i) := by
 have h1 := h i hi
 unfold lookP at h1
 cases e2 : P.find? fun y => decide (y.1 = i) with
 | none => rw [e2] at h1; exact absurd h1 h0
 | some z =>
  rw [e2] at h1
  have hz := List.mem_of_find?_eq_some e2
  have hk : z.1 = i := by have hf := List.find?_some e2; simpa using hf
  obtain ⟨j, hj⟩ := List.getElem?_of_mem hz
  refine ⟨j, ?_⟩
  rw [hj]
  obtain ⟨z1, z2⟩ := z
  have hk : z1 = i := hk
  have h1 : u i = z2 := h1
  rw [hk, h1]
/-- How far a row is seen: those below i stand ahead of k. -/
def Seen (P : List Pr) (i k : Nat) : Prop := k ≤ P.length ∧ ∀ (j : Nat) (y : Pr), P[j]? = some y → (j < k ↔ y.1 < i)
theorem Seen.start (P : List Pr) : Seen P 0 0 := ⟨Nat.zero_le _, fun j y _ => by omega⟩
theorem Seen.skip {P : List Pr} {i k : Nat} (h : Seen P i k) (hn : ∀ y ∈ P, y.1 ≠ i) : Seen P (i + 1) k :=
 ⟨h.1, fun j y hj => by
  have h1 := h.2 j y hj
  have h2 := hn y (List.mem_of_getElem? hj)
  omega⟩
theorem Z6i {P : List Pr} (hu : Up P) {a b : Nat} {x y : Pr} (hx : P[a]? = some x) (hy : P[b]? = some y) (h : a < b) : x.1 < y.1 := by
 obtain ⟨a1, rfl⟩ := List.getElem?_eq_some_iff.1 hx
 obtain ⟨a2, rfl⟩ := List.getElem?_eq_some_iff.1 hy
 exact List.pairwise_iff_getElem.1 hu a b a1 a2 h
theorem Seen.next {P : List Pr} {i k v j : Nat} (h : Seen P i k) (hu : Up P) (hj : P[j]? = some (i, v)) : j = k ∧ Seen P (i + 1) (k + 1) := by
 have hjl := (List.getElem?_eq_some_iff.1 hj).1
 have h1 := h.2 j _ hj
 have h1' : ¬ j < k := fun h' => by have := h1.1 h'; exact absurd this (Nat.lt_irrefl _)
 have e : j = k := by
  rcases Nat.lt_trichotomy j k with h2 | h2 | h2
  · exact absurd h2 h1'
  · exact h2
  · exfalso
    obtain ⟨y, hy⟩ : ∃ y, P[k]? = some y := ⟨_, List.getElem?_eq_getElem (by omega)⟩
    have h3 := h.2 k y hy
    have h4 := Z6i hu hy hj h2
    have h4 : y.1 < i := h4
    omega
 subst e
 refine ⟨rfl, by omega, fun q y hq => ?_⟩
 rcases Nat.lt_trichotomy q j with h2 | h2 | h2
 · have := Z6i hu hq hj h2
   have : y.1 < i := this
   omega
 · subst h2
   rw [hj] at hq
   injection hq with hq
   subst hq
   exact ⟨fun _ => Nat.lt_succ_self _, fun _ => Nat.lt_succ_self _⟩
 · have := Z6i hu hj hq h2
   have : i < y.1 := this
   omega
theorem Seen.done {P : List Pr} {k : Nat} (h : Seen P 64 k) (hok : P.all enOk = true) : k = P.length := by
 have hk := h.1
 rcases Nat.lt_or_ge k P.length with h1 | h1
 · exfalso
   obtain ⟨y, hy⟩ : ∃ y, P[k]? = some y := ⟨_, List.getElem?_eq_getElem h1⟩
   have h2 := h.2 k y hy
   have h3 : y.1 < 64 ∧ 1 ≤ y.2 ∧ y.2 ≤ 1023 := of_decide_eq_true (List.all_eq_true.1 hok y (List.mem_of_getElem? hy))
   omega
 · omega
section
variable {w : World} {o : Oper} {ρ : Operand → Value} {x : Operand} {Z : Array Value} {T : TypeId}
theorem x_boxA (ho : o.op = .box T x) (hx : ρ x = .agg Z) : (execOp ρ o).run Try.prog w = .ok (.value (.pointer (some ⟨w.heap.size, 0, none⟩))) (w.alloc (.cells Z T)) := by
 unfold execOp
 simp [go_sem, ho, hx]
end

set_option maxRecDepth 100000 in
set_option maxHeartbeats 4000000 in
theorem msame {B : Option Addr} {n cap : Nat} (P : List Pr) (u : Nat → Nat) (W0 : World) (hl : P.length = n) (hrow : Row W0 B 2 enC P) (hu : Up P) (hok : P.all enOk = true) (hU : Rw P u) (hn : n ≤ 1000) : Calls Try.prog 32 #[.slice B n cap, .agg (rwA u)] W0 fun e w' => e = .returned (.bool true) ∧ Ext W0 w' := by
 have O := OwnT.start W0
 refine Z0d Try.func32 rfl 37 rfl (by rfl) ?_
 intro a1 k hargs
 have e0 : a1.eval (.tmp 0) = .slice B n cap := hargs 0 _ rfl
 have e1 : a1.eval (.tmp 1) = .agg (rwA u) := hargs 1 _ rfl
 clear hargs
 refine wp_seq ?_
 refine wp_region_lit ?_
 have hE := Env.refl a1 [3, 4]
 apply Z1n 3 hE k rfl (by rfl) (by rfl) rfl
 case h =>
  exact x_boxA rfl (hE.g e1)
 intro a2 hE e3 kp
 obtain ⟨ub, hub⟩ : ∃ b, W0.heap.size = b := ⟨_, rfl⟩
 replace O := OwnT.new O 71 (rwA u)
 generalize hW1 : W0.alloc (.cells (rwA u) 71) = w1 at O ⊢
 clear hW1
 rw [hub] at e3
 replace O : OwnT W0.heap.size W0 [tBlk ub 71 (rwA u)] w1 := by rw [← hub]; exact O
 clear hub
 refine sd 4 hE k (Z00 rfl rfl) ?_
 intro a3 hE e4 kp
 replace e3 := kt kp e3
 refine wpList_nil ?_
 replace e0 := hE.g e0
 replace k := k.env hE
 clear hE e1 e4
 refine Z01 (wp_seq ?_)
 refine wp_region_lit ?_
 have hE := Env.refl a3 [5]
 refine sd 5 hE k (Z00 rfl rfl) ?_
 intro a4 hE e5 kp
 refine wpList_nil ?_
 replace e0 := hE.g e0; replace e3 := hE.g e3
 replace k := k.env hE
 clear hE
 refine Z01 (wp_seq ?_)
 refine wp_seq ?_
 refine wp_region_lit ?_
 have hE := Env.refl a4 [6]
 refine sd 6 hE k (Z00 rfl rfl) ?_
 intro a5 hE e6 kp
 refine wpList_nil ?_
 replace e0 := hE.g e0; replace e3 := hE.g e3; replace e5 := hE.g e5
 replace k := k.env hE
 clear hE
 refine Z01 ?_
 refine wp_block ?_
 refine wp_loop (fun a w => Fr 37 a ∧ a.eval (.tmp 0) = .slice B n cap ∧ a.eval (.tmp 3) = .pointer (some ⟨ub, 0, none⟩) ∧ ∃ (i k_ : Nat), a.eval (.tmp 5) = .int .i64 ↑k_ ∧ a.eval (.tmp 6) = .int .i64 ↑i ∧ i ≤ 64 ∧ Seen P i k_ ∧ OwnT W0.heap.size W0 ([tBlk ub 71 (rwA u)]) w) (fun a w => 64 - (intOf (a.eval (.tmp 6))).toNat) ?_ ?_
 · exact ⟨k, e0, e3, 0, 0, e5, e6, Nat.zero_le _, Seen.start P, O⟩
 intro a6 w7 hI
 clear k e0 e3
 obtain ⟨k, e0, e3, h_⟩ := hI
 clear O e5 e6
 obtain ⟨i, k_, e5, e6, hi, hS, O⟩ := h_
 have mi := e6
 have hkl := hS.1
 by_cases hlt : i < 64
 · have hltI : (i : Int) < 64 := by omega
   have hcu : ∀ W, OwnT W0.heap.size W0 [tBlk ub 71 (rwA u)] W → W.cell? ⟨ub, i, none⟩ = some (.int .i64 (u i : Nat)) := fun W O => by
    rw [O.b0.cell, Z29 u hlt]
   have d0 := hcu _ O
   obtain ⟨z, hz⟩ : ∃ z, u i = z := ⟨_, rfl⟩
   rw [hz] at d0
   simp only [hz] at hcu

   refine wp_seq ?_
   refine wp_seq ?_
   refine wp_region_lit ?_
   have hE := Env.refl a6 [7, 8]
   refine sm 7 hE k e6 ?_
   intro a8 hE e7 kp
   refine sd 8 hE k (Z06 (Z0x rfl e7 rfl) (decide_eq_true (by omega))) ?_
   intro a9 hE e8 kp
   refine wpList_nil ?_
   replace e0 := hE.g e0; replace e3 := hE.g e3; replace e5 := hE.g e5; replace e6 := hE.g e6
   replace k := k.env hE
   clear hE
   refine Z01 ?_
   refine Z0b e8 rfl ?_
   refine wp_skip ?_
   refine Z01 (wp_seq ?_)
   refine wp_block ?_
   by_cases h0 : z = 0
   · skip
     refine wp_seq ?_
     refine wp_seq ?_
     refine wp_region_lit ?_
     have hE := Env.refl a9 [11, 12, 13, 14]
     refine sm 11 hE k e6 ?_
     intro a10 hE e11 kp
     apply Z02 12 hE k rfl rfl rfl rfl
     case h =>
      simp [go_sem, ↓IntWalk.iteOmega, ev (hE.g e3), ev e11]
      with_reducible rfl
     intro a11 hE e12 kp
     apply Z02 13 hE k rfl rfl rfl rfl
     case h =>
      simp [go_sem, ↓IntWalk.iteOmega, ev e12, d0]
      with_reducible rfl
     intro a12 hE e13 kp
     refine sd 14 hE k (Z06 (Z0k rfl e13 rfl) (decide_eq_true (by omega))) ?_
     intro a13 hE e14 kp
     refine wpList_nil ?_
     replace e0 := hE.g e0; replace e3 := hE.g e3; replace e5 := hE.g e5; replace e6 := hE.g e6
     replace k := k.env hE
     clear hE e8
     refine Z01 ?_
     refine Z0b e14 rfl ?_
     refine wp_exit ?_
     refine Z0o ?_
     refine Z15 ?_
     refine Z01 ?_
     refine wp_region_lit ?_
     have hE := Env.refl a13 [9, 10, 6]
     refine sd 9 hE k (Z03 rfl e6) ?_
     intro a14 hE e9 kp
     replace e6 := kt kp e6
     refine sd 10 hE k (Z12 rfl e9 rfl (by omega)) ?_
     intro a15 hE e10 kp
     replace e6 := kt kp e6
     refine sd 6 hE k (Z00 rfl e10) ?_
     intro a16 hE e6 kp
     refine wpList_nil ?_
     replace e0 := hE.g e0; replace e3 := hE.g e3; replace e5 := hE.g e5
     replace k := k.env hE
     clear hE e14
     refine Z01 ?_
     refine ⟨⟨k, e0, e3, i + 1, k_, e5, e6, by omega, hS.skip (hU.no hok hlt (by rw [hz, h0])), O⟩, ?_⟩
     rw [e6, mi]; simp only [intOf]; omega
   · obtain ⟨j, hj⟩ := hU.yes hlt (by rw [hz]; exact h0)
     rw [hz] at hj
     obtain ⟨hjk, hS2⟩ := hS.next hu hj
     subst hjk
     have hjl := (List.getElem?_eq_some_iff.1 hj).1
     have hjI : (j : Int) < (n : Int) := by omega
     obtain ⟨b, o, rfl, -, -⟩ := (hrow.below O.below) j _ hj

     refine wp_seq ?_
     refine wp_seq ?_
     refine wp_region_lit ?_
     have hE := Env.refl a9 [11, 12, 13, 14]
     refine sm 11 hE k e6 ?_
     intro a17 hE e11 kp
     apply Z02 12 hE k rfl rfl rfl rfl
     case h =>
      simp [go_sem, ↓IntWalk.iteOmega, ev (hE.g e3), ev e11]
      with_reducible rfl
     intro a18 hE e12 kp
     apply Z02 13 hE k rfl rfl rfl rfl
     case h =>
      simp [go_sem, ↓IntWalk.iteOmega, ev e12, d0]
      with_reducible rfl
     intro a19 hE e13 kp
     refine sd 14 hE k (Z06 (Z0k rfl e13 rfl) (decide_eq_false (by omega))) ?_
     intro a20 hE e14 kp
     refine wpList_nil ?_
     replace e0 := hE.g e0; replace e3 := hE.g e3; replace e5 := hE.g e5; replace e6 := hE.g e6
     replace k := k.env hE
     clear hE e8
     refine Z01 ?_
     refine Z05 e14 rfl ?_
     refine wp_skip ?_
     refine Z01 (wp_seq ?_)
     refine wp_seq ?_
     refine Z0f (R := Ext) (w0 := w7) [[], [], [1], [0, 1, 2], [0, 1, 2, 3], [0, 1, 2, 3, 4], [0, 1, 2, 3, 4], [0, 1, 2, 3, 4, 5, 6], [0, 1, 2, 3, 4, 5, 6, 7], [0, 1, 2, 3, 4], [0, 1, 2, 3, 4], [0, 1, 2, 3, 4, 10], [0, 1, 2, 3, 4, 10, 11], [0, 1, 2, 3, 4, 9, 10, 11, 12], [0, 1, 2, 3, 4, 5, 6, 7, 8, 9, 10, 11, 12, 13], [0, 1, 2, 3, 4, 5, 6, 7, 8, 9, 10, 11, 12, 13, 14]] [15, 16, 17, 18, 19, 20, 21, 22, 23, 24, 25, 26, 27, 28, 29, 30] Ext.refl (fun _ _ _ => Ext.trans) (Ext.drew _) (by kernel_rfl) ?_
     apply bd 15 k rfl rfl rfl
     case h =>
      intro ax wx hE hR hF
      exact Z03 rfl (hE.g e5)
     apply bd 16 k rfl rfl rfl
     case h =>
      intro ax wx hE hR hF
      exact Z03 rfl (hE.g e0)
     apply bd 17 k rfl rfl rfl
     case h =>
      intro ax wx hE hR hF
      have e16 := zhF hF 1 16 ml0
      exact Z0j Try.underlying65 rfl e16
     apply bd 18 k rfl rfl rfl
     case h =>
      intro ax wx hE hR hF
      have e15 := zhF hF 0 15 ml2
      have e17 := zhF hF 2 17 ml0
      exact Z06 (Z1z rfl e15 e17) (decide_eq_false (by omega))
     apply bd 19 k rfl rfl rfl
     case h =>
      intro ax wx hE hR hF
      have e18 := zhF hF 3 18 ml0
      exact Z03 rfl e18
     apply bdg 20 k rfl rfl rfl rfl
     case h =>
      intro ax wx hE hR hF
      have e19 := zhF hF 4 19 ml0
      refine ⟨e19, ?_⟩
      exact Z03 rfl (hE.g e0)
     apply bdg 21 k rfl rfl rfl rfl
     case h =>
      intro ax wx hE hR hF
      have e19 := zhF hF 4 19 ml1
      refine ⟨e19, ?_⟩
      exact Z03 rfl (hE.g e5)
     apply bdg 22 k rfl rfl rfl rfl
     case h =>
      intro ax wx hE hR hF
      have e20 := zhF hF 5 20 ml1
      have e21 := zhF hF 6 21 ml0
      have e19 := zhF hF 4 19 ml2
      refine ⟨e19, ?_⟩
      simp [go_sem, ↓IntWalk.iteOmega, ev e20, ev e21]
      with_reducible rfl
     apply bdg 23 k rfl rfl rfl rfl
     case h =>
      intro ax wx hE hR hF
      have e22 := zhF hF 7 22 ml0
      have e19 := zhF hF 4 19 ml3
      refine ⟨e19, ?_⟩
      obtain ⟨b', o', e, _, hc⟩ := (hrow.below (OwnT.ext O hR).below) j _ hj; injection e with e; injection e with e e'; subst e e'; have c0 := hc 0 _ rfl; have c1 := hc 1 _ rfl; simp only [Nat.add_zero] at c0; clear hc
      simp [go_sem, ↓IntWalk.iteOmega, ev e22, c0, c1]
      with_reducible rfl
     apply bdg 24 k rfl rfl rfl rfl
     case h =>
      intro ax wx hE hR hF
      have e19 := zhF hF 4 19 ml4
      refine ⟨e19, ?_⟩
      exact Z03 rfl (hE.g e6)
     apply bdg 25 k rfl rfl rfl rfl
     case h =>
      intro ax wx hE hR hF
      have e19 := zhF hF 4 19 ml5
      refine ⟨e19, ?_⟩
      exact Z03 rfl (hE.g e6)
     apply bdg 26 k rfl rfl rfl rfl
     case h =>
      intro ax wx hE hR hF
      have e25 := zhF hF 10 25 ml0
      have e19 := zhF hF 4 19 ml6
      refine ⟨e19, ?_⟩
      simp [go_sem, ↓IntWalk.iteOmega, ev (hE.g e3), ev e25]
      with_reducible rfl
     apply bdg 27 k rfl rfl rfl rfl
     case h =>
      intro ax wx hE hR hF
      have e26 := zhF hF 11 26 ml0
      have e19 := zhF hF 4 19 ml7
      refine ⟨e19, ?_⟩
      have cu := hcu wx (OwnT.ext O hR)
      simp [go_sem, ↓IntWalk.iteOmega, ev e26, cu]
      with_reducible rfl
     apply bdg 28 k rfl rfl rfl rfl
     case h =>
      intro ax wx hE hR hF
      have e24 := zhF hF 9 24 ml3
      have e27 := zhF hF 12 27 ml0
      have e19 := zhF hF 4 19 ml8
      refine ⟨e19, ?_⟩
      simp [go_sem, ↓IntWalk.iteOmega, ev e24, ev e27]
      with_reducible rfl
     apply bdg 29 k rfl rfl rfl rfl
     case h =>
      intro ax wx hE hR hF
      have e23 := zhF hF 8 23 ml5
      have e28 := zhF hF 13 28 ml0
      have e19 := zhF hF 4 19 ml9
      refine ⟨e19, ?_⟩
      exact Z1a (v := .bool false) (x_neEn rfl e23 e28) (congrArg Value.bool (decide_eq_false (fun h => h ⟨rfl, rfl⟩)))
     apply bd 30 k rfl rfl rfl
     case h =>
      intro ax wx hE hR hF
      have e19 := zhF hF 4 19 ml10
      have e29 := zhF hF 14 29 ml0
      exact Z07 rfl e19 e29
     apply Build.stop
     refine ⟨by kernel_rfl, .inl ⟨rfl, ?_⟩⟩
     intro a21 w22 hE R hF
     have e30 : a21.eval (.tmp 30) = _ := hF 15 (det 30 _) ml0
     clear hF
     replace O := OwnT.ext O R
     clear R
     replace e0 := hE.g e0; replace e3 := hE.g e3; replace e5 := hE.g e5; replace e6 := hE.g e6
     replace k := k.env hE
     clear hE e14
     refine Z01 ?_
     refine Z05 e30 rfl ?_
     refine wp_skip ?_
     refine Z01 ?_
     refine wp_region_lit ?_
     have hE := Env.refl a21 [31, 32, 5]
     refine sd 31 hE k (Z03 rfl e5) ?_
     intro a23 hE e31 kp
     replace e5 := kt kp e5
     refine sd 32 hE k (Z12 rfl e31 rfl (by omega)) ?_
     intro a24 hE e32 kp
     replace e5 := kt kp e5
     refine sd 5 hE k (Z00 rfl e32) ?_
     intro a25 hE e5 kp
     refine wpList_nil ?_
     replace e0 := hE.g e0; replace e3 := hE.g e3; replace e6 := hE.g e6
     replace k := k.env hE
     clear hE e30
     refine Z0i ?_
     refine Z01 ?_
     refine wp_region_lit ?_
     have hE := Env.refl a25 [9, 10, 6]
     refine sd 9 hE k (Z03 rfl e6) ?_
     intro a26 hE e9 kp
     replace e6 := kt kp e6
     refine sd 10 hE k (Z12 rfl e9 rfl (by omega)) ?_
     intro a27 hE e10 kp
     replace e6 := kt kp e6
     refine sd 6 hE k (Z00 rfl e10) ?_
     intro a28 hE e6 kp
     refine wpList_nil ?_
     replace e0 := hE.g e0; replace e3 := hE.g e3; replace e5 := hE.g e5
     replace k := k.env hE
     clear hE
     refine Z01 ?_
     refine ⟨⟨k, e0, e3, i + 1, j + 1, e5, e6, by omega, hS2, O⟩, ?_⟩
     rw [e6, mi]; simp only [intOf]; omega
 · obtain rfl : i = 64 := by omega
   have hkn := hS.done hok
   refine wp_seq ?_
   refine wp_seq ?_
   refine wp_region_lit ?_
   have hE := Env.refl a6 [7, 8]
   refine sm 7 hE k e6 ?_
   intro a29 hE e7 kp
   refine sd 8 hE k (Z06 (Z0x rfl e7 rfl) (decide_eq_false (by omega))) ?_
   intro a30 hE e8 kp
   refine wpList_nil ?_
   replace e0 := hE.g e0; replace e3 := hE.g e3; replace e5 := hE.g e5; replace e6 := hE.g e6
   replace k := k.env hE
   clear hE
   refine Z01 ?_
   refine Z05 e8 rfl ?_
   refine wp_exit ?_
   refine Z0o ?_
   refine Z0o ?_
   refine Z15 ?_
   refine Z01 (wp_seq ?_)
   refine wp_region_lit ?_
   have hE := Env.refl a30 [33, 34, 35, 36, 4]
   refine sm 33 hE k e5 ?_
   intro a31 hE e33 kp
   refine sm 34 hE k e0 ?_
   intro a32 hE e34 kp
   replace e33 := kt kp e33
   refine sd 35 hE k (Z0j Try.underlying65 rfl e34) ?_
   intro a33 hE e35 kp
   replace e33 := kt kp e33
   refine sd 36 hE k (Z06 (Z0k rfl e33 e35) (decide_eq_true (by omega))) ?_
   intro a34 hE e36 kp
   refine sd 4 hE k (Z00 rfl e36) ?_
   intro a35 hE e4 kp
   refine wpList_nil ?_
   replace k := k.env hE
   clear hE e0 e3 e5 e6 e8
   refine Z01 ?_
   refine wp_ret ?_
   refine Z0n rfl k e4 ?_
   exact ⟨rfl, O.below⟩
end Go.Proofs.Ytngehbhhpkkijaa
