/- trees: Build (printed by XRdD.gen.py). -/
import Derived.Test.YtngehbhhpkkijaaKTreeBuilds15
import Derived.Test.YtngehbhhpkkijaaKTreeBuilds19
namespace Go.Proofs.Ytngehbhhpkkijaa
attribute [local simp] BigFrame.eval_const BigFrame.eval_global BigFrame.eval_func
set_option linter.unusedVariables false
set_option linter.unusedSimpArgs false
open Go.RowKit Go.Maps

theorem Z3t {xs : List Pr} (h : ∀ (j : Nat) (y z : Pr), j + 1 < xs.length → xs[j]? = some y → xs[j + 1]? = some z → y.1 < z.1) : Up xs := by
 refine List.pairwise_iff_getElem.2 fun i j hi hj hij => ?_
 obtain ⟨d, rfl⟩ : ∃ d, j = i + d + 1 := ⟨j - i - 1, by omega⟩
 clear hij
 induction d with
 | zero => exact h i _ _ hj (List.getElem?_eq_getElem hi) (List.getElem?_eq_getElem hj)
 | succ d ih =>
  have h1 := ih (by omega)
  have h2 := h (i + d + 1) _ _ hj (List.getElem?_eq_getElem (by omega)) (List.getElem?_eq_getElem hj)
  omega
theorem not_up {xs : List Pr} {p : Nat} {y z : Pr} (hy : xs[p]? = some y) (hz : xs[p + 1]? = some z) (h : z.1 ≤ y.1) : ¬ Up xs := fun hu => by
 obtain ⟨h1, rfl⟩ := List.getElem?_eq_some_iff.1 hy
 obtain ⟨h2, rfl⟩ := List.getElem?_eq_some_iff.1 hz
 have := List.pairwise_iff_getElem.1 hu p (p + 1) h1 h2 (by omega)
 omega
theorem Z2m {w : World} {g off i : Nat} {xs : List Pr} {y : Pr} (h : Row w (some ⟨g, off, none⟩) 2 pairC xs) (hy : xs[i]? = some y) : w.cell? ⟨g, off + i * 2, none⟩ = some (.int .u64 (y.1 : Int)) ∧ w.cell? ⟨g, off + i * 2 + 1, none⟩ = some (.int .u64 (y.2 : Int)) := by
 obtain ⟨b, o, e, _, hc⟩ := h i y hy
 injection e with e
 injection e with e e'
 subst e e'
 exact ⟨hc 0 _ rfl, hc 1 _ rfl⟩
/-- How great a level may be. -/
def lvlOk (l m : Nat) : Prop := (l = 0 ∧ m ≤ 300) ∨ (l = 1 ∧ m ≤ 20) ∨ (l = 2 ∧ m ≤ 2)
theorem need_now {l m t t' : Nat} (h : lvlOk l m) (h0 : 0 < m) (ht : t + needF (3 - l) m = needF 3 t') : t + (m + 14) / 15 ≤ needF 3 t' := by
 have : (m + 14) / 15 ≤ needF (3 - l) m := by
  obtain ⟨f, hf⟩ : ∃ f, 3 - l = f + 1 := ⟨2 - l, by rcases h with h | h | h <;> omega⟩
  rw [hf]
  by_cases h15 : m ≤ 15
  · rw [Z20 (by omega) h15]; omega
  · rw [Z1z (by omega) (by omega)]; omega
 omega
theorem Z67 {l m t t' : Nat} (h : lvlOk l m) (h0 : 0 < m) (h15 : m ≤ 15) (ht : t + needF (3 - l) m = needF 3 t') : t + 1 = needF 3 t' := by
 obtain ⟨f, hf⟩ : ∃ f, 3 - l = f + 1 := ⟨2 - l, by rcases h with h | h | h <;> omega⟩
 rw [hf, Z20 (by omega) h15] at ht
 exact ht
theorem Z4y {l m t t' : Nat} (h : lvlOk l m) (h15 : 15 < m) (ht : t + needF (3 - l) m = needF 3 t') : t + (m + 14) / 15 + needF (3 - (l + 1)) ((m + 14) / 15) = needF 3 t' ∧ lvlOk (l + 1) ((m + 14) / 15) := by
 rcases h with ⟨rfl, h⟩ | ⟨rfl, h⟩ | ⟨rfl, h⟩
 · refine ⟨?_, .inr (.inl ⟨rfl, by omega⟩)⟩
   rw [show 3 - 0 = 2 + 1 from rfl, Z1z (by omega) h15] at ht
   show _ + needF 2 _ = _
   omega
 · refine ⟨?_, .inr (.inr ⟨rfl, by omega⟩)⟩
   rw [show 3 - 1 = 1 + 1 from rfl, Z1z (by omega) h15] at ht
   show _ + needF 1 _ = _
   omega
 · omega
theorem Z3w {n : Nat} (h : n ≤ 300) : needF 3 n ≤ 23 := by
 by_cases h0 : n = 0
 · subst h0; decide
 by_cases h1 : n ≤ 15
 · rw [Z20 h0 h1]; omega
 rw [Z1z h0 (by omega)]
 by_cases h2 : (n + 14) / 15 ≤ 15
 · rw [Z20 (by omega) h2]; omega
 rw [Z1z (by omega) (by omega)]
 have h3 : (((n + 14) / 15) + 14) / 15 ≤ 15 := by omega
 rw [Z20 (by omega) h3]
 omega

set_option maxRecDepth 100000 in
set_option maxHeartbeats 4000000 in
theorem tbuild {H : Nat} {A0 : World} {R : List Thing} {sb : Nat} {room : Int} {Bx : Option Addr} {n c0 : Nat} {xs : List Pr} (w : World) (O : OwnT H A0 (shT sb room none 0 ([]) ([]) R) w) (hroom : 0 ≤ room) (hxl : xs.length = n) (hn : n ≤ 300) (hcap : n ≤ c0) (hw : ∀ y ∈ xs, y.1 < 18446744073709551616 ∧ y.2 < 18446744073709551616) (hrow : ∀ W, Below H A0 W → Ths W R → Row W Bx 2 pairC xs) : Calls Try.prog 27 #[.iface 24 (.pointer (some ⟨sb, 0, none⟩)), .slice Bx n c0] w fun e w' => ∃ (rt : Nat) (er : Int), e = .returned (.tuple #[.int .i64 rt, .int .i64 er]) ∧ ∃ B' cap' vs' N', OwnT H A0 (shT sb room B' cap' vs' N' R) w' ∧ ((¬ Up xs ∧ rt = 0 ∧ er = 1 ∧ N' = []) ∨ (Up xs ∧ er = 0 ∧ N'.length = needF 3 n ∧ ((needF 3 n : Nat) : Int) ≤ room ∧ ∃ L g, RT 2 N' rt L g ∧ L.flatten = xs ∧ g.length ≤ N'.length) ∨ (Up xs ∧ er = 6 ∧ rt = 0 ∧ ¬ ((needF 3 n : Nat) : Int) ≤ room)) := by
 refine Z0c Try.func27 rfl 52 rfl (by rfl) ?_
 intro a1 k hargs
 have e0 : a1.eval (.tmp 0) = .iface 24 (.pointer (some ⟨sb, 0, none⟩)) := hargs 0 _ rfl
 have e1 : a1.eval (.tmp 1) = .slice Bx n c0 := hargs 1 _ rfl
 clear hargs
 refine wp_seq ?_
 refine wp_region_lit ?_
 have hE := Env.refl a1 [4, 5]
 refine sd 4 hE k (Z01 rfl rfl) ?_
 intro a2 hE e4 kp
 refine sd 5 hE k (Z01 rfl rfl) ?_
 intro a3 hE e5 kp
 refine wpList_nil ?_
 replace e0 := hE.g e0; replace e1 := hE.g e1
 replace k := k.env hE
 clear hE e5
 refine Z00 (wp_seq ?_)
 refine wp_seq ?_
 refine wp_region_lit ?_
 have hE := Env.refl a3 [6]
 refine sd 6 hE k (Z01 rfl rfl) ?_
 intro a4 hE e6 kp
 refine wpList_nil ?_
 replace e0 := hE.g e0; replace e1 := hE.g e1
 replace k := k.env hE
 clear hE
 refine Z00 ?_
 refine wp_block ?_
 refine wp_loop (fun a w => Fr 52 a ∧ a.eval (.tmp 0) = .iface 24 (.pointer (some ⟨sb, 0, none⟩)) ∧ a.eval (.tmp 1) = .slice Bx n c0 ∧ ∃ (i : Nat), a.eval (.tmp 6) = .int .i64 ↑i ∧ 1 ≤ i ∧ (∀ (j : Nat) (y z : Pr), j + 1 < i → xs[j]? = some y → xs[j + 1]? = some z → y.1 < z.1) ∧ OwnT H A0 (shT sb room none 0 ([]) ([]) R) w) (fun a w => n - (intOf (a.eval (.tmp 6))).toNat) ?_ ?_
 · exact ⟨k, e0, e1, 1, e6, Nat.le_refl _, (fun j y z h => by omega), O⟩
 intro a5 w6 hI
 clear k e0 e1
 obtain ⟨k, e0, e1, h_⟩ := hI
 clear O e6
 obtain ⟨i, e6, hi1, hri, O⟩ := h_
 have mi := e6
 by_cases hlt : i < n
 · have hltI : (i : Int) < (n : Int) := by omega
   obtain ⟨g, off, rfl⟩ : ∃ g off, Bx = some ⟨g, off, none⟩ := by
    obtain ⟨x, hx⟩ : ∃ x, xs[0]? = some x := ⟨_, List.getElem?_eq_getElem (by omega)⟩
    obtain ⟨b, o, e, _⟩ := hrow _ O.below (OwnT.restR (L := [_, _, _]) O) 0 x hx
    exact ⟨b, o, e⟩
   refine wp_seq ?_
   refine wp_seq ?_
   refine wp_region_lit ?_
   have hE := Env.refl a5 [10, 11, 12, 13]
   refine zm 10 hE k e6 ?_
   intro a7 hE e10 kp
   refine zm 11 hE k e1 ?_
   intro a8 hE e11 kp
   replace e10 := kt kp e10
   refine sd 12 hE k (Z0f Try.underlying29 rfl e11) ?_
   intro a9 hE e12 kp
   replace e10 := kt kp e10
   refine sd 13 hE k (Z06 (Z1c rfl e10 e12) (decide_eq_true (by omega))) ?_
   intro a10 hE e13 kp
   refine wpList_nil ?_
   replace e0 := hE.g e0; replace e1 := hE.g e1; replace e6 := hE.g e6
   replace k := k.env hE
   clear hE
   refine Z00 ?_
   refine Z0g e13 rfl ?_
   refine wp_skip ?_
   refine Z00 (wp_seq ?_)
   refine wp_block ?_
   obtain ⟨p, rfl⟩ : ∃ p, i = p + 1 := ⟨i - 1, by omega⟩
   obtain ⟨y, hy⟩ : ∃ y, xs[p]? = some y := ⟨_, List.getElem?_eq_getElem (by omega)⟩
   obtain ⟨z, hz⟩ : ∃ z, xs[p + 1]? = some z := ⟨_, List.getElem?_eq_getElem (by omega)⟩
   have hpI : (p : Int) < (n : Int) := by omega
   have hpI2 : ((p + 1 : Nat) : Int) < (n : Int) := by omega

   by_cases hle : z.1 ≤ y.1
   · skip
     refine wp_seq ?_
     refine Z0a (R := Ext) (w0 := w6) [[], [], [1], [0, 1, 2], [0, 1, 2, 3], [0, 1, 2, 3, 4], [], [], [6, 7], [6, 7, 8], [6, 7, 8, 9], [0, 1, 2, 3, 4, 5, 6, 7, 8, 9, 10]] [16, 17, 18, 19, 20, 21, 22, 23, 24, 25, 26, 27] Ext.refl (fun _ _ _ => Ext.trans) (Ext.drew _) (by kernel_rfl) ?_
     apply bd 16 k rfl rfl rfl
     case h =>
      intro ax wx hE hR hF
      exact Z03 rfl (hE.g e1)
     apply bd 17 k rfl rfl rfl
     case h =>
      intro ax wx hE hR hF
      exact Z03 rfl (hE.g e6)
     apply bd 18 k rfl rfl rfl
     case h =>
      intro ax wx hE hR hF
      have e17 := zhF hF 1 17 ml0
      exact Z16 (v := .int .i64 (p : Int)) (Z2t rfl e17 rfl (by omega)) (Z0h (by omega))
     apply bd 19 k rfl rfl rfl
     case h =>
      intro ax wx hE hR hF
      have e16 := zhF hF 0 16 ml2
      have e18 := zhF hF 2 18 ml0
      simp [go_sem, ↓IntWalk.iteOmega, ev e16, ev e18]
      with_reducible rfl
     apply bd 20 k rfl rfl rfl
     case h =>
      intro ax wx hE hR hF
      have e19 := zhF hF 3 19 ml0
      simp [go_sem, ↓IntWalk.iteOmega, ev e19]
      with_reducible rfl
     apply bd 21 k rfl rfl rfl
     case h =>
      intro ax wx hE hR hF
      have e20 := zhF hF 4 20 ml0
      have d := Z2m (hrow _ (OwnT.ext O hR).below (OwnT.restR (L := [_, _, _]) (OwnT.ext O hR))) hy
      simp [go_sem, ↓IntWalk.iteOmega, ev e20, d.1]
      with_reducible rfl
     apply bd 22 k rfl rfl rfl
     case h =>
      intro ax wx hE hR hF
      exact Z03 rfl (hE.g e1)
     apply bd 23 k rfl rfl rfl
     case h =>
      intro ax wx hE hR hF
      exact Z03 rfl (hE.g e6)
     apply bd 24 k rfl rfl rfl
     case h =>
      intro ax wx hE hR hF
      have e22 := zhF hF 6 22 ml1
      have e23 := zhF hF 7 23 ml0
      simp [go_sem, ↓IntWalk.iteOmega, ev e22, ev e23]
      with_reducible rfl
     apply bd 25 k rfl rfl rfl
     case h =>
      intro ax wx hE hR hF
      have e24 := zhF hF 8 24 ml0
      simp [go_sem, ↓IntWalk.iteOmega, ev e24]
      with_reducible rfl
     apply bd 26 k rfl rfl rfl
     case h =>
      intro ax wx hE hR hF
      have e25 := zhF hF 9 25 ml0
      have d := Z2m (hrow _ (OwnT.ext O hR).below (OwnT.restR (L := [_, _, _]) (OwnT.ext O hR))) hz
      simp [go_sem, ↓IntWalk.iteOmega, ev e25, d.1]
      with_reducible rfl
     apply bd 27 k rfl rfl rfl
     case h =>
      intro ax wx hE hR hF
      have e21 := zhF hF 5 21 ml5
      have e26 := zhF hF 10 26 ml0
      exact Z06 (Z3n rfl e21 e26) (decide_eq_true (by omega))
     apply Build.stop
     refine ⟨by kernel_rfl, .inl ⟨rfl, ?_⟩⟩
     intro a11 w12 hE R hF
     have e27 : a11.eval (.tmp 27) = _ := hF 11 (det 27 _) ml0
     clear hF
     replace O := OwnT.ext O R
     clear R
     replace e0 := hE.g e0; replace e1 := hE.g e1; replace e6 := hE.g e6
     replace k := k.env hE
     clear hE e13
     refine Z00 ?_
     refine Z0g e27 rfl ?_
     refine wp_seq ?_
     refine wp_region_lit ?_
     have hE := Env.refl a11 [4, 5]
     refine sd 4 hE k (Z01 rfl rfl) ?_
     intro a13 hE e4 kp
     refine sd 5 hE k (Z01 rfl rfl) ?_
     intro a14 hE e5 kp
     replace e4 := kt kp e4
     refine wpList_nil ?_
     replace k := k.env hE
     clear hE e0 e1 e6 e27
     refine Z00 ?_
     refine wp_ret ?_
     refine Z0s ?_
     refine Z0d ?_
     refine Z0d ?_
     refine Z0s ?_
     refine Z0d ?_
     refine Z1o rfl k e4 e5 ?_
     exact ⟨0, 1, rfl, none, 0, [], [], O, .inl ⟨not_up hy hz hle, rfl, rfl, rfl⟩⟩
   · skip
     refine wp_seq ?_
     refine Z0a (R := Ext) (w0 := w6) [[], [], [1], [0, 1, 2], [0, 1, 2, 3], [0, 1, 2, 3, 4], [], [], [6, 7], [6, 7, 8], [6, 7, 8, 9], [0, 1, 2, 3, 4, 5, 6, 7, 8, 9, 10]] [16, 17, 18, 19, 20, 21, 22, 23, 24, 25, 26, 27] Ext.refl (fun _ _ _ => Ext.trans) (Ext.drew _) (by kernel_rfl) ?_
     apply bd 16 k rfl rfl rfl
     case h =>
      intro ax wx hE hR hF
      exact Z03 rfl (hE.g e1)
     apply bd 17 k rfl rfl rfl
     case h =>
      intro ax wx hE hR hF
      exact Z03 rfl (hE.g e6)
     apply bd 18 k rfl rfl rfl
     case h =>
      intro ax wx hE hR hF
      have e17 := zhF hF 1 17 ml0
      exact Z16 (v := .int .i64 (p : Int)) (Z2t rfl e17 rfl (by omega)) (Z0h (by omega))
     apply bd 19 k rfl rfl rfl
     case h =>
      intro ax wx hE hR hF
      have e16 := zhF hF 0 16 ml2
      have e18 := zhF hF 2 18 ml0
      simp [go_sem, ↓IntWalk.iteOmega, ev e16, ev e18]
      with_reducible rfl
     apply bd 20 k rfl rfl rfl
     case h =>
      intro ax wx hE hR hF
      have e19 := zhF hF 3 19 ml0
      simp [go_sem, ↓IntWalk.iteOmega, ev e19]
      with_reducible rfl
     apply bd 21 k rfl rfl rfl
     case h =>
      intro ax wx hE hR hF
      have e20 := zhF hF 4 20 ml0
      have d := Z2m (hrow _ (OwnT.ext O hR).below (OwnT.restR (L := [_, _, _]) (OwnT.ext O hR))) hy
      simp [go_sem, ↓IntWalk.iteOmega, ev e20, d.1]
      with_reducible rfl
     apply bd 22 k rfl rfl rfl
     case h =>
      intro ax wx hE hR hF
      exact Z03 rfl (hE.g e1)
     apply bd 23 k rfl rfl rfl
     case h =>
      intro ax wx hE hR hF
      exact Z03 rfl (hE.g e6)
     apply bd 24 k rfl rfl rfl
     case h =>
      intro ax wx hE hR hF
      have e22 := zhF hF 6 22 ml1
      have e23 := zhF hF 7 23 ml0
      simp [go_sem, ↓IntWalk.iteOmega, ev e22, ev e23]
      with_reducible rfl
     apply bd 25 k rfl rfl rfl
     case h =>
      intro ax wx hE hR hF
      have e24 := zhF hF 8 24 ml0
      simp [go_sem, ↓IntWalk.iteOmega, ev e24]
      with_reducible rfl
     apply bd 26 k rfl rfl rfl
     case h =>
      intro ax wx hE hR hF
      have e25 := zhF hF 9 25 ml0
      have d := Z2m (hrow _ (OwnT.ext O hR).below (OwnT.restR (L := [_, _, _]) (OwnT.ext O hR))) hz
      simp [go_sem, ↓IntWalk.iteOmega, ev e25, d.1]
      with_reducible rfl
     apply bd 27 k rfl rfl rfl
     case h =>
      intro ax wx hE hR hF
      have e21 := zhF hF 5 21 ml5
      have e26 := zhF hF 10 26 ml0
      exact Z06 (Z3n rfl e21 e26) (decide_eq_false (by omega))
     apply Build.stop
     refine ⟨by kernel_rfl, .inl ⟨rfl, ?_⟩⟩
     intro a15 w16 hE R hF
     have e27 : a15.eval (.tmp 27) = _ := hF 11 (det 27 _) ml0
     clear hF
     replace O := OwnT.ext O R
     clear R
     replace e0 := hE.g e0; replace e1 := hE.g e1; replace e6 := hE.g e6
     replace k := k.env hE
     clear hE e13
     refine Z00 ?_
     refine Z05 e27 rfl ?_
     refine wp_skip ?_
     refine Z0t ?_
     refine Z00 ?_
     refine wp_region_lit ?_
     have hE := Env.refl a15 [14, 15, 6]
     refine sd 14 hE k (Z03 rfl e6) ?_
     intro a17 hE e14 kp
     replace e6 := kt kp e6
     refine sd 15 hE k (Z0x rfl e14 rfl (by omega)) ?_
     intro a18 hE e15 kp
     replace e6 := kt kp e6
     replace e15 := e15.trans (Z0h (show ((p + 1 : Nat) : Int) + 1 = ((p + 1 + 1 : Nat) : Int) by omega))
     refine sd 6 hE k (Z01 rfl e15) ?_
     intro a19 hE e6 kp
     refine wpList_nil ?_
     replace e0 := hE.g e0; replace e1 := hE.g e1
     replace k := k.env hE
     clear hE e27
     refine Z00 ?_
     refine ⟨⟨k, e0, e1, p + 1 + 1, e6, by omega, (fun j y' z' hj hy' hz' => ?_), O⟩, ?_⟩
     · rcases Nat.lt_or_ge (j + 1) (p + 1) with h | h
       · exact hri j y' z' h hy' hz'
       · obtain rfl : j = p := by omega
         rw [hy] at hy'; rw [hz] at hz'; injection hy' with hy'; injection hz' with hz'; subst hy' hz'; omega
     · rw [e6, mi]; simp only [intOf]; omega
 · skip
   have hup : Up xs := Z3t fun j y z hj => hri j y z (by omega)
   clear hri
   refine wp_seq ?_
   refine wp_seq ?_
   refine wp_region_lit ?_
   have hE := Env.refl a5 [10, 11, 12, 13]
   refine zm 10 hE k e6 ?_
   intro a20 hE e10 kp
   refine zm 11 hE k e1 ?_
   intro a21 hE e11 kp
   replace e10 := kt kp e10
   refine sd 12 hE k (Z0f Try.underlying29 rfl e11) ?_
   intro a22 hE e12 kp
   replace e10 := kt kp e10
   refine sd 13 hE k (Z06 (Z1c rfl e10 e12) (decide_eq_false (by omega))) ?_
   intro a23 hE e13 kp
   refine wpList_nil ?_
   replace e0 := hE.g e0; replace e1 := hE.g e1; replace e6 := hE.g e6
   replace k := k.env hE
   clear hE
   refine Z00 ?_
   refine Z05 e13 rfl ?_
   refine wp_exit ?_
   refine Z0z ?_
   refine Z0z ?_
   refine Z1j ?_
   refine Z00 ?_
   by_cases hn0 : n = 0
   · skip
     refine wp_seq ?_
     refine wp_seq ?_
     refine wp_region_lit ?_
     have hE := Env.refl a23 [28, 29, 30]
     refine zm 28 hE k e1 ?_
     intro a24 hE e28 kp
     refine sd 29 hE k (Z0f Try.underlying29 rfl e28) ?_
     intro a25 hE e29 kp
     refine sd 30 hE k (Z06 (Z0n rfl e29 rfl) (decide_eq_true (by omega))) ?_
     intro a26 hE e30 kp
     refine wpList_nil ?_
     replace e0 := hE.g e0; replace e1 := hE.g e1
     replace k := k.env hE
     clear hE e6 e13
     refine Z00 ?_
     refine Z0g e30 rfl ?_
     refine wp_seq ?_
     refine wp_region_lit ?_
     have hE := Env.refl a26 [4, 5]
     refine sd 4 hE k (Z01 rfl rfl) ?_
     intro a27 hE e4 kp
     refine sd 5 hE k (Z01 rfl rfl) ?_
     intro a28 hE e5 kp
     replace e4 := kt kp e4
     refine wpList_nil ?_
     replace k := k.env hE
     clear hE e0 e1 e30
     refine Z00 ?_
     refine wp_ret ?_
     refine Z0d ?_
     have hxs : xs = [] := List.eq_nil_of_length_eq_zero (by omega)
     subst hxs; subst hn0
     refine Z1o rfl k e4 e5 ?_
     exact ⟨0, 0, rfl, none, 0, [], [], O, .inr (.inl ⟨hup, rfl, rfl, hroom, [], [], ⟨.inl ⟨rfl, rfl, rfl⟩, List.Pairwise.nil, List.nodup_nil, (fun y h => by cases h)⟩, rfl, Nat.le_refl _⟩)⟩
   · skip
     obtain ⟨g, off, rfl⟩ : ∃ g off, Bx = some ⟨g, off, none⟩ := by
      obtain ⟨x, hx⟩ : ∃ x, xs[0]? = some x := ⟨_, List.getElem?_eq_getElem (by omega)⟩
      obtain ⟨b, o, e, _⟩ := hrow _ O.below (OwnT.restR (L := [_, _, _]) O) 0 x hx
      exact ⟨b, o, e⟩
     refine wp_seq ?_
     refine wp_seq ?_
     refine wp_region_lit ?_
     have hE := Env.refl a23 [28, 29, 30]
     refine zm 28 hE k e1 ?_
     intro a29 hE e28 kp
     refine sd 29 hE k (Z0f Try.underlying29 rfl e28) ?_
     intro a30 hE e29 kp
     refine sd 30 hE k (Z06 (Z0n rfl e29 rfl) (decide_eq_false (by omega))) ?_
     intro a31 hE e30 kp
     refine wpList_nil ?_
     replace e0 := hE.g e0; replace e1 := hE.g e1
     replace k := k.env hE
     clear hE e6 e13
     refine Z00 ?_
     refine Z05 e30 rfl ?_
     refine wp_skip ?_
     refine Z00 (wp_seq ?_)
     refine wp_region_lit ?_
     have hE := Env.refl a31 [7]
     refine sd 7 hE k (Z01 rfl rfl) ?_
     intro a32 hE e7 kp
     refine wpList_nil ?_
     replace e0 := hE.g e0; replace e1 := hE.g e1
     replace k := k.env hE
     clear hE e30
     refine Z00 ?_
     refine wp_block ?_
     have hnd := Z3w hn
     refine wp_loop (fun a w => Fr 52 a ∧ a.eval (.tmp 0) = .iface 24 (.pointer (some ⟨sb, 0, none⟩)) ∧ ∃ (l m : Nat) (cur : List Pr) (g2 o2 c2 : Nat) (N : List Nd) (B : Option Addr) (cap : Nat) (vs : List Value) (R2 : List Thing), a.eval (.tmp 1) = .slice (some ⟨g2, o2, none⟩) m c2 ∧ a.eval (.tmp 7) = .int .i64 ↑l ∧ cur.length = m ∧ m ≤ c2 ∧ 0 < m ∧ Bld xs N l cur ∧ lvlOk l m ∧ N.length + needF (3 - l) m = needF 3 n ∧ (R2 = R ∨ ∃ T, R2 = T :: R) ∧ (∀ W, Below H A0 W → Ths W R2 → Row W (some ⟨g2, o2, none⟩) 2 pairC cur) ∧ OwnT H A0 ((tBlk sb 28 #[.slice B N.length cap, .int .i64 room]) :: (tRow 125 2 (.slice B N.length cap) N.length (leafV vs N)) :: (tPool vs N) :: R2) w) (fun a w => lenV (a.eval (.tmp 1))) ?_ ?_
     · exact ⟨k, e0, 0, n, xs, g, off, c0, [], none, 0, [], R, e1, e7, hxl, hcap, by omega, Bld.start (fun h => by rw [h] at hxl; simp only [List.length_nil] at hxl; omega), .inl ⟨rfl, hn⟩, by simp, .inl rfl, hrow, O⟩
     intro a33 w34 hI
     clear k e0
     obtain ⟨k, e0, h_⟩ := hI
     clear O e1 e7
     obtain ⟨l, m, cur, g2, o2, c2, N, B, cap, vs, R2, e1, e7, hcl, hc2, hm0, hbl, hlv, hnt, hR2, hrw, O⟩ := h_
     have mi := e1
     have hm3 : m ≤ 300 := by rcases hlv with h | h | h <;> omega
     have hl2 : l ≤ 2 := by rcases hlv with h | h | h <;> omega
     have hnn := need_now hlv hm0 hnt
     have hck := Z5w cur
     rw [hcl] at hck
     have hNl : N.length ≤ 23 := by omega
     refine wp_seq ?_
     refine wp_block ?_
     refine wp_seq ?_
     refine wp_region_lit ?_
     have hE := Env.refl a33 [34, 35, 36, 37, 33, 38, 39, 8, 9]
     refine zm 34 hE k e0 ?_
     intro a35 hE e34 kp
     refine zm 35 hE k e7 ?_
     intro a36 hE e35 kp
     replace e34 := kt kp e34
     refine zm 36 hE k e1 ?_
     intro a37 hE e36 kp
     replace e34 := kt kp e34; replace e35 := kt kp e35
     apply Z08 37 hE k rfl (by rfl) (by rfl) rfl
     case h =>
      simp [go_sem, ↓IntWalk.iteOmega, ev e34, ev e35, ev e36]
      with_reducible exact ⟨rfl, rfl⟩
     case hc => exact trow (n := m) (xs := cur) _ O hcl (by omega) (by omega) hc2 hm0 hrw
     clear O
     rintro e w39 ⟨v1, er, rfl, B2, cap2, vs2, N2, O, hcase⟩
     refine ⟨_, rfl, ?_⟩
     intro a38 hE e37 kp
     refine sd 33 hE k (Z03 rfl e37) ?_
     intro a40 hE e33 kp
     apply Z02 38 hE k rfl rfl rfl rfl
     case h =>
      simp [go_sem, ↓IntWalk.iteOmega, ev e33]
      with_reducible rfl
     intro a41 hE e38 kp
     replace e33 := kt kp e33
     apply Z02 39 hE k rfl rfl rfl rfl
     case h =>
      simp [go_sem, ↓IntWalk.iteOmega, ev e33]
      with_reducible rfl
     intro a42 hE e39 kp
     replace e38 := kt kp e38
     refine sd 8 hE k (Z01 rfl e38) ?_
     intro a43 hE e8 kp
     replace e39 := kt kp e39
     refine sd 9 hE k (Z01 rfl e39) ?_
     intro a44 hE e9 kp
     replace e8 := kt kp e8
     refine wpList_nil ?_
     replace e0 := hE.g e0; replace e7 := hE.g e7
     replace k := k.env hE
     clear hE e1
     refine Z00 ?_
     rcases hcase with ⟨rfl, rfl, hfit⟩ | ⟨rfl, hlen2, hnf⟩
     rotate_left
     · skip
       refine wp_seq ?_
       refine wp_seq ?_
       refine wp_region_lit ?_
       have hE := Env.refl a44 [40, 41]
       refine zm 40 hE k e9 ?_
       intro a45 hE e40 kp
       refine sd 41 hE k (Z1f rfl e40 rfl) ?_
       intro a46 hE e41 kp
       refine wpList_nil ?_
       replace e0 := hE.g e0; replace e7 := hE.g e7; replace e8 := hE.g e8; replace e9 := hE.g e9
       replace k := k.env hE
       clear hE
       refine Z00 ?_
       refine Z0g e41 rfl ?_
       refine wp_seq ?_
       refine wp_region_lit ?_
       have hE := Env.refl a46 [42, 4, 5]
       refine zm 42 hE k e9 ?_
       intro a47 hE e42 kp
       refine sd 4 hE k (Z01 rfl rfl) ?_
       intro a48 hE e4 kp
       replace e42 := kt kp e42
       refine sd 5 hE k (Z01 rfl e42) ?_
       intro a49 hE e5 kp
       replace e4 := kt kp e4
       refine wpList_nil ?_
       replace k := k.env hE
       clear hE e0 e7 e8 e9 e41
       refine Z00 ?_
       refine wp_ret ?_
       refine Z0d ?_
       refine Z0s ?_
       refine Z0d ?_
       refine Z0d ?_
       refine Z0s ?_
       have O2 : OwnT H A0 (shT sb room B2 cap2 vs2 N2 R) w39 := by
        rcases hR2 with rfl | ⟨T, rfl⟩
        · exact O.tail
        · exact OwnT.pickR (L := [_, _, _, _, _]) (R := R) O [1, 2, 3] (by decide)
       refine Z1o rfl k e4 e5 ?_
       exact ⟨0, 6, rfl, B2, cap2, vs2, N2, O2, .inr (.inr ⟨hup, rfl, rfl, by omega⟩)⟩
     · skip
       rw [if_pos rfl] at O
       obtain ⟨E, hE_⟩ : ∃ E, outs (chk cur) N.length = E := ⟨_, rfl⟩
       have hEl : E.length = (m + 14) / 15 := by rw [← hE_, Z1g, hck]
       obtain ⟨Bv, cv, rfl, hcv, -, hrv, hsv⟩ := Z0r O.t0
       rw [hE_] at O hrv hsv hcv e8
       obtain ⟨gv, ov, rfl⟩ : ∃ gv ov, Bv = some ⟨gv, ov, none⟩ := by
        rcases hsv with ⟨_, h, _⟩ | h
        · rw [h] at hEl; simp only [List.length_nil] at hEl; omega
        · exact h
       replace O : OwnT _ _ ((tPs (.slice (some ⟨gv, ov, none⟩) E.length cv) E) :: (tBlk sb 28 #[.slice B2 ((N ++ newN l (chk cur)).length) cap2, .int .i64 room]) :: (tRow 125 2 (.slice B2 (N ++ newN l (chk cur)).length cap2) (N ++ newN l (chk cur)).length (leafV vs2 (N ++ newN l (chk cur)))) :: (tPool vs2 (N ++ newN l (chk cur))) :: R2) w39 := O
       refine wp_seq ?_
       refine wp_seq ?_
       refine wp_region_lit ?_
       have hE := Env.refl a44 [40, 41]
       refine zm 40 hE k e9 ?_
       intro a50 hE e40 kp
       refine sd 41 hE k (Z1f rfl e40 rfl) ?_
       intro a51 hE e41 kp
       refine wpList_nil ?_
       replace e0 := hE.g e0; replace e7 := hE.g e7; replace e8 := hE.g e8; replace e9 := hE.g e9
       replace k := k.env hE
       clear hE
       refine Z00 ?_
       refine Z05 e41 rfl ?_
       refine wp_skip ?_
       refine Z00 ?_
       by_cases h1 : E.length = 1
       · skip
         have hE1 := Z64 (cs := chk cur) (n := N.length) (by rw [hE_]; exact h1)
         rw [hE_] at hE1
         obtain ⟨ky, hky⟩ : ∃ ky, keyAt ((chk cur).head?.getD []) 0 = ky := ⟨_, rfl⟩
         rw [hky] at hE1
         have d := Z2m hrv (i := 0) (y := (ky, N.length + 1)) (by rw [hE1]; rfl)
         rw [Nat.zero_mul, Nat.add_zero] at d
         have hdn := hbl.done (m := 2) (by rw [hE_]; exact h1) hl2 hup hw
         have hne := Z67 hlv hm0 (by omega) hnt
         refine wp_seq ?_
         refine wp_seq ?_
         refine wp_region_lit ?_
         have hE := Env.refl a51 [43, 44, 45]
         refine zm 43 hE k e8 ?_
         intro a52 hE e43 kp
         refine sd 44 hE k (Z0f Try.underlying29 rfl e43) ?_
         intro a53 hE e44 kp
         refine sd 45 hE k (Z06 (Z0n rfl e44 rfl) (decide_eq_true (by omega))) ?_
         intro a54 hE e45 kp
         refine wpList_nil ?_
         replace e0 := hE.g e0; replace e7 := hE.g e7; replace e8 := hE.g e8
         replace k := k.env hE
         clear hE e9 e41
         refine Z00 ?_
         refine Z0g e45 rfl ?_
         refine wp_seq ?_
         refine wp_region_lit ?_
         have hE := Env.refl a54 [46, 47, 48, 49, 50, 4, 5]
         refine zm 46 hE k e8 ?_
         intro a55 hE e46 kp
         apply Z02 47 hE k rfl rfl rfl rfl
         case h =>
          simp [go_sem, ↓IntWalk.iteOmega, ev e46]
          with_reducible rfl
         intro a56 hE e47 kp
         apply Z02 48 hE k rfl rfl rfl rfl
         case h =>
          simp [go_sem, ↓IntWalk.iteOmega, ev e47]
          with_reducible rfl
         intro a57 hE e48 kp
         apply Z02 49 hE k rfl rfl rfl rfl
         case h =>
          simp [go_sem, ↓IntWalk.iteOmega, ev e48, d.2]
          with_reducible rfl
         intro a58 hE e49 kp
         refine sd 50 hE k (Z1w rfl e49 (Z23 (N.length + 1) _ (by omega))) ?_
         intro a59 hE e50 kp
         refine sd 4 hE k (Z01 rfl e50) ?_
         intro a60 hE e4 kp
         refine sd 5 hE k (Z01 rfl rfl) ?_
         intro a61 hE e5 kp
         replace e4 := kt kp e4
         refine wpList_nil ?_
         replace k := k.env hE
         clear hE e0 e7 e8 e45
         refine Z00 ?_
         refine wp_ret ?_
         refine Z0d ?_
         refine Z0s ?_
         refine Z0d ?_
         refine Z0d ?_
         refine Z0s ?_
         have O2 : OwnT H A0 (shT sb room B2 cap2 vs2 (N ++ newN l (chk cur)) R) w39 := by
          rcases hR2 with rfl | ⟨T, rfl⟩
          · exact O.tail
          · exact OwnT.pickR (L := [_, _, _, _, _]) (R := R) O [1, 2, 3] (by decide)
         refine Z1o rfl k e4 e5 ?_
         exact ⟨N.length + 1, 0, rfl, B2, cap2, vs2, _, O2, .inr (.inl ⟨hup, rfl, by rw [List.length_append, List.length_map, hck]; omega, by omega, hdn⟩)⟩
       · skip
         have hbn := hbl.next (by rw [hE_]; exact h1)
         rw [hE_] at hbn
         obtain ⟨hq1, hq2⟩ := Z4y hlv (by omega) hnt
         refine wp_seq ?_
         refine wp_seq ?_
         refine wp_region_lit ?_
         have hE := Env.refl a51 [43, 44, 45]
         refine zm 43 hE k e8 ?_
         intro a62 hE e43 kp
         refine sd 44 hE k (Z0f Try.underlying29 rfl e43) ?_
         intro a63 hE e44 kp
         refine sd 45 hE k (Z06 (Z0n rfl e44 rfl) (decide_eq_false (by omega))) ?_
         intro a64 hE e45 kp
         refine wpList_nil ?_
         replace e0 := hE.g e0; replace e7 := hE.g e7; replace e8 := hE.g e8
         replace k := k.env hE
         clear hE e9 e41
         refine Z00 ?_
         refine Z05 e45 rfl ?_
         refine wp_skip ?_
         refine Z00 ?_
         refine wp_region_lit ?_
         have hE := Env.refl a64 [51, 1]
         refine zm 51 hE k e8 ?_
         intro a65 hE e51 kp
         refine sd 1 hE k (Z01 rfl e51) ?_
         intro a66 hE e1 kp
         refine wpList_nil ?_
         replace e0 := hE.g e0; replace e7 := hE.g e7
         replace k := k.env hE
         clear hE e8 e45
         refine Z0t ?_
         refine Z00 ?_
         refine wp_region_lit ?_
         have hE := Env.refl a66 [31, 32, 7]
         refine sd 31 hE k (Z03 rfl e7) ?_
         intro a67 hE e31 kp
         replace e7 := kt kp e7
         refine sd 32 hE k (Z0x rfl e31 rfl (by omega)) ?_
         intro a68 hE e32 kp
         replace e7 := kt kp e7
         replace e32 := e32.trans (Z0h (show (l : Int) + 1 = ((l + 1 : Nat) : Int) by omega))
         refine sd 7 hE k (Z01 rfl e32) ?_
         intro a69 hE e7 kp
         refine wpList_nil ?_
         replace e0 := hE.g e0; replace e1 := hE.g e1
         replace k := k.env hE
         clear hE
         refine Z00 ?_
         have O2 : OwnT H A0 (shT sb room B2 cap2 vs2 (N ++ newN l (chk cur)) (tPs (.slice (some ⟨gv, ov, none⟩) E.length cv) E :: R)) w39 := by
          rcases hR2 with rfl | ⟨T, rfl⟩
          · exact OwnT.pickR (L := [_, _, _, _]) O [1, 2, 3, 0] (by decide)
          · exact OwnT.pickR (L := [_, _, _, _, _]) (R := R) O [1, 2, 3, 0] (by decide)
         refine ⟨⟨k, e0, l + 1, E.length, E, gv, ov, cv, _, B2, cap2, vs2, _, e1, e7, rfl, hcv, by omega, hbn, by rw [hEl]; exact hq2, by rw [List.length_append, List.length_map, hck, hEl]; exact hq1, .inr ⟨_, rfl⟩, (fun W _ h => ?_), O2⟩, ?_⟩
         · obtain ⟨_, _, e, _, _, h2, _⟩ := Z0r h.1
           injection e with e; rw [e]; exact h2
         · rw [e1, mi]; simp only [lenV]; omega
end Go.Proofs.Ytngehbhhpkkijaa
