/- trees' reference: Put, Drop, Range (printed by XTrF.gen.py). -/
import Derived.Test.YtngehbhhpkkijaaKTreeMap30
namespace Go.Proofs.Ytngehbhhpkkijaa
attribute [local simp] BigFrame.eval_const BigFrame.eval_global BigFrame.eval_func
set_option linter.unusedVariables false
set_option linter.unusedSimpArgs false
open Go.RowKit Go.Maps


theorem Z4q {x y : Pr} {P : List Pr} (h : x.1 < y.1) : insP x (P ++ [y]) = insP x P ++ [y] := by
 unfold insP
 rw [List.filter_append, List.filter_append, List.filter_cons_of_neg (by simp; omega), List.filter_cons_of_pos (by simpa using h)]
 simp
theorem Z75 {x y : Pr} {P : List Pr} (h : x.1 = y.1) (hP : ∀ z ∈ P, z.1 < x.1) : insP x (P ++ [y]) = P ++ [x] := by
 unfold insP
 rw [List.filter_append, List.filter_append, Z1h (l := P) (fun z hz => decide_eq_true (hP z hz)), Z1x (l := P) (p := fun z => decide (x.1 < z.1)) (fun z hz => decide_eq_false (by have := hP z hz; omega)), List.filter_cons_of_neg (by simp; omega), List.filter_cons_of_neg (by simp; omega)]
 simp
theorem Z2u {x : Pr} {P : List Pr} (hP : ∀ z ∈ P, z.1 < x.1) : insP x P = P ++ [x] := by
 unfold insP
 rw [Z1h (l := P) (fun z hz => decide_eq_true (hP z hz)), Z1x (l := P) (p := fun z => decide (x.1 < z.1)) (fun z hz => decide_eq_false (by have := hP z hz; omega))]
theorem Z6p {l : List Pr} {i : Nat} {y z : Pr} (hu : Up l) (hy : l[i]? = some y) (hz : z ∈ l.take i) : z.1 < y.1 := by
 obtain ⟨j, hj, rfl⟩ := List.mem_iff_getElem.1 hz
 rw [List.length_take] at hj
 obtain ⟨hi, rfl⟩ := List.getElem?_eq_some_iff.1 hy
 rw [List.getElem_take]
 exact List.pairwise_iff_getElem.1 hu j i (by omega) hi (by omega)
theorem del_lt {k : Nat} {l : List Pr} : decide ((delP k l).length < l.length) = (lookP k l).isSome := by
 rw [Bool.eq_iff_iff, decide_eq_true_iff, Z80]
 unfold delP
 rw [List.length_filter_lt_length_iff_exists]
 constructor
 · rintro ⟨y, h1, h2⟩; exact ⟨y, h1, by simpa using h2⟩
 · rintro ⟨y, h1, h2⟩; exact ⟨y, h1, by simpa using h2⟩
theorem Z1q {W0 w : World} {B : Option Addr} {l : List Pr} (h : Row W0 B 2 pairC l) (hb : Below W0.heap.size W0 w) {i : Nat} {y : Pr} (hy : l[i]? = some y) : ∃ b o, B = some ⟨b, o, none⟩ ∧ w.cell? ⟨b, o + i * 2, none⟩ = some (.int .u64 (y.1 : Nat)) ∧ w.cell? ⟨b, o + i * 2 + 1, none⟩ = some (.int .u64 (y.2 : Nat)) := by
 obtain ⟨b, o, e, _, hc⟩ := (h.below hb) i y hy
 refine ⟨b, o, e, ?_, hc 1 _ rfl⟩
 have := hc 0 _ rfl
 simpa using this

set_option maxRecDepth 100000 in
set_option maxHeartbeats 4000000 in
theorem rput8 {B : Option Addr} {n cap : Nat} (l : List Pr) (W0 : World) (hl : l.length = n) (hrow : Row W0 B 2 pairC l) (hn : n ≤ 100000) {x : Pr} (hu : Up l) : Calls Try.prog 16 #[.slice B n cap, .agg #[.int .u64 (x.1 : Nat), .int .u64 (x.2 : Nat)]] W0 fun e w' => ∃ v', e = .returned v' ∧ w'.ownsRow W0.heap.size 38 2 v' (insP x l).length (flatP (insP x l)) ∧ Ext W0 w' := by
 have O := OwnT.start W0
 refine Z0e Try.func16 rfl 53 rfl (by rfl) ?_
 intro a1 k hargs
 have e0 : a1.eval (.tmp 0) = .slice B n cap := hargs 0 _ rfl
 have e1 : a1.eval (.tmp 1) = .agg #[.int .u64 ↑x.1, .int .u64 ↑x.2] := hargs 1 _ rfl
 clear hargs
 refine wp_seq ?_
 refine wp_region_lit ?_
 have hE := Env.refl a1 [3, 4]
 refine Z0m O (cs := #[.int .u64 ↑x.1, .int .u64 ↑x.2]) (t := 38) 3 hE k rfl (by rfl) (by rfl) rfl (by simp [go_sem, ↓IntWalk.iteOmega, ev (hE.g e1)]) ?_
 clear O
 intro xb a2 w3 O hE e3 kp
 refine sd 4 hE k (Z00 rfl rfl) ?_
 intro a4 hE e4 kp
 replace e3 := kt kp e3
 refine wpList_nil ?_
 replace e0 := hE.g e0
 replace k := k.env hE
 clear hE e1 e4
 refine Z01 (wp_seq ?_)
 refine wp_region_lit ?_
 have hE := Env.refl a4 [8, 5]
 refine Z18 (m := 0) (c := 0) O (cs := #[]) (t := 38) 8 hE k rfl (by rfl) (by rfl) rfl (by simp [go_sem, ↓IntWalk.iteOmega]) ?_
 clear O
 intro g0 a5 w6 O hE e8 kp
 refine sd 5 hE k (Z00 rfl e8) ?_
 intro a7 hE e5 kp
 refine wpList_nil ?_
 replace e0 := hE.g e0; replace e3 := hE.g e3
 replace k := k.env hE
 clear hE
 refine Z01 ?_
 replace O := OwnT.asRowE (k := 2) O
 refine wp_seq ?_
 refine wp_region_lit ?_
 have hE := Env.refl a7 [6]
 refine sd 6 hE k (Z00 rfl rfl) ?_
 intro a8 hE e6 kp
 refine wpList_nil ?_
 replace e0 := hE.g e0; replace e3 := hE.g e3; replace e5 := hE.g e5
 replace k := k.env hE
 clear hE
 refine Z01 (wp_seq ?_)
 refine wp_seq ?_
 refine wp_region_lit ?_
 have hE := Env.refl a8 [7]
 refine sd 7 hE k (Z00 rfl rfl) ?_
 intro a9 hE e7 kp
 refine wpList_nil ?_
 replace e0 := hE.g e0; replace e3 := hE.g e3; replace e5 := hE.g e5; replace e6 := hE.g e6
 replace k := k.env hE
 clear hE
 refine Z01 ?_
 refine wp_block ?_
 refine wp_loop (fun a w => Fr 53 a ∧ a.eval (.tmp 0) = .slice B n cap ∧ a.eval (.tmp 3) = .pointer (some ⟨xb, 0, none⟩) ∧ ∃ (i m : Nat) (E : List Pr) (dn : Bool) (Bo : Option Addr) (co : Nat), a.eval (.tmp 5) = .slice Bo m co ∧ a.eval (.tmp 6) = .bool dn ∧ a.eval (.tmp 7) = .int .i64 ↑i ∧ i ≤ n ∧ E = (if dn = true then insP x (l.take i) else l.take i) ∧ m = E.length ∧ (dn = false → ∀ z ∈ l.take i, z.1 < x.1) ∧ (dn = true → ∃ z ∈ l.take i, x.1 ≤ z.1) ∧ OwnT W0.heap.size W0 ([tRow 38 2 (.slice Bo m co) m (flatP E), tBlk xb 38 #[.int .u64 ↑x.1, .int .u64 ↑x.2]]) w) (fun a w => n - (intOf (a.eval (.tmp 7))).toNat) ?_ ?_
 · exact ⟨k, e0, e3, 0, 0, [], false, some ⟨g0, 0, none⟩, 0, e5, e6, e7, Nat.zero_le _, rfl, rfl, (fun _ z h => by simp at h), (fun h => by cases h), O⟩
 intro a10 w11 hI
 clear k e0 e3
 obtain ⟨k, e0, e3, h_⟩ := hI
 clear O e5 e6 e7
 obtain ⟨i, m, E, dn, Bo, co, e5, e6, e7, hi, hEq, hm, hlo, hhi, O⟩ := h_
 have mi := e7
 by_cases hlt : i < n
 · have hltI : (i : Int) < (n : Int) := by omega
   obtain ⟨y, hy⟩ : ∃ y, l[i]? = some y := ⟨_, List.getElem?_eq_getElem (by omega)⟩
   have htk : l.take (i + 1) = l.take i ++ [y] := by rw [List.take_add_one, hy]; rfl
   have hyu := fun z hz => Z6p hu hy (z := z) hz
   have hEl : m ≤ n + 1 := by
    rw [hm, hEq]
    split
    · have := Z3z (x := x) (ps := l.take i); rw [List.length_take] at this; omega
    · rw [List.length_take]; omega

   obtain ⟨b, o, rfl, d0, d1⟩ := Z1q hrow O.below hy
   refine wp_seq ?_
   refine wp_seq ?_
   refine wp_region_lit ?_
   have hE := Env.refl a10 [9, 10, 11, 12]
   refine sm 9 hE k e7 ?_
   intro a12 hE e9 kp
   refine sm 10 hE k e0 ?_
   intro a13 hE e10 kp
   replace e9 := kt kp e9
   refine sd 11 hE k (Z0d Try.underlying29 rfl e10) ?_
   intro a14 hE e11 kp
   replace e9 := kt kp e9
   refine sd 12 hE k (Z06 (Z0r rfl e9 e11) (decide_eq_true (by omega))) ?_
   intro a15 hE e12 kp
   refine wpList_nil ?_
   replace e0 := hE.g e0; replace e3 := hE.g e3; replace e5 := hE.g e5; replace e6 := hE.g e6; replace e7 := hE.g e7
   replace k := k.env hE
   clear hE
   refine Z01 ?_
   refine Z0b e12 rfl ?_
   refine wp_skip ?_
   refine Z01 (wp_seq ?_)
   refine wp_block ?_
   by_cases hlt1 : y.1 < x.1
   · have hdn : dn = false := by cases dn with | false => rfl | true => (obtain ⟨z, hz, h1⟩ := hhi rfl; have := hyu z hz; omega)
     subst hdn
     have hlo' := hlo rfl
     refine wp_seq ?_
     refine wp_seq ?_
     refine Z0c (R := Ext) (w0 := w11) [[], [], [0, 1], [0, 1, 2], [0, 1, 2, 3], [], [5], [0, 1, 2, 3, 4, 5, 6], [0, 1, 2, 3, 4, 5, 6, 7], [0, 1, 2, 3, 4, 5, 6, 7, 8], [0, 1, 2, 3, 4, 5, 6, 7, 8, 9], [0, 1, 2, 3, 4, 5, 6, 7, 8, 9, 10]] [15, 16, 17, 18, 19, 20, 21, 22, 23, 24, 25, 26] Ext.refl (fun _ _ _ => Ext.trans) (Ext.drew _) (by kernel_rfl) ?_
     apply bd 15 k rfl rfl rfl
     case h =>
      intro ax wx hE hR hF
      exact Z04 rfl (hE.g e0)
     apply bd 16 k rfl rfl rfl
     case h =>
      intro ax wx hE hR hF
      exact Z04 rfl (hE.g e7)
     apply bd 17 k rfl rfl rfl
     case h =>
      intro ax wx hE hR hF
      have e15 := zhF hF 0 15 ml1
      have e16 := zhF hF 1 16 ml0
      simp [go_sem, ↓IntWalk.iteOmega, ev e15, ev e16]
      with_reducible rfl
     apply bd 18 k rfl rfl rfl
     case h =>
      intro ax wx hE hR hF
      have e17 := zhF hF 2 17 ml0
      simp [go_sem, ↓IntWalk.iteOmega, ev e17]
      with_reducible rfl
     apply bd 19 k rfl rfl rfl
     case h =>
      intro ax wx hE hR hF
      have e18 := zhF hF 3 18 ml0
      obtain ⟨_, _, e, d0, d1⟩ := Z1q hrow (OwnT.ext O hR).below hy; injection e with e; injection e with e e'; subst e e'
      simp [go_sem, ↓IntWalk.iteOmega, ev e18, d0]
      with_reducible rfl
     apply bd 20 k rfl rfl rfl
     case h =>
      intro ax wx hE hR hF
      simp [go_sem, ↓IntWalk.iteOmega, ev (hE.g e3)]
      with_reducible rfl
     apply bd 21 k rfl rfl rfl
     case h =>
      intro ax wx hE hR hF
      have e20 := zhF hF 5 20 ml0
      have q0 : wx.cell? ⟨xb, 0, none⟩ = some (.int .u64 ↑x.1) := (OwnT.blk (OwnT.ext O hR) 1 rfl).cell 0
      simp [go_sem, ↓IntWalk.iteOmega, ev e20, q0]
      with_reducible rfl
     apply bd 22 k rfl rfl rfl
     case h =>
      intro ax wx hE hR hF
      have e19 := zhF hF 4 19 ml2
      have e21 := zhF hF 6 21 ml0
      exact Z06 (Z29 rfl e19 e21) (decide_eq_false (by omega))
     apply bd 23 k rfl rfl rfl
     case h =>
      intro ax wx hE hR hF
      have e22 := zhF hF 7 22 ml0
      exact Z04 rfl e22
     refine Build.skip 24 (by rfl) (by rw [k.size]; rfl) rfl rfl ?_ ?_
     · intro ax wx hE hR hF
       have e23 := zhF hF 8 23 ml0
       exact e23
     refine Build.skip 25 (by rfl) (by rw [k.size]; rfl) rfl rfl ?_ ?_
     · intro ax wx hE hR hF
       have e23 := zhF hF 8 23 ml1
       exact e23
     apply bd 26 k rfl rfl rfl
     case h =>
      intro ax wx hE hR hF
      have e23 := zhF hF 8 23 ml2
      have e25 := zhF hF 10 25 ml0
      exact Z05 rfl e23 rfl
     apply Build.stop
     refine ⟨by kernel_rfl, .inl ⟨rfl, ?_⟩⟩
     intro a16 w17 hE R hF
     have e26 : a16.eval (.tmp 26) = _ := hF 11 (det 26 _) ml0
     clear hF
     replace O := OwnT.ext O R
     clear R
     replace e0 := hE.g e0; replace e3 := hE.g e3; replace e5 := hE.g e5; replace e6 := hE.g e6; replace e7 := hE.g e7
     replace k := k.env hE
     clear hE e12
     refine Z01 ?_
     refine Z08 e26 rfl ?_
     refine wp_skip ?_
     refine Z01 (wp_seq ?_)
     refine Z0c (R := Ext) (w0 := w17) [[], [], [0, 1], [0, 1, 2], [0, 1, 2, 3], [], [5], [0, 1, 2, 3, 4, 5, 6]] [31, 32, 33, 34, 35, 36, 37, 38] Ext.refl (fun _ _ _ => Ext.trans) (Ext.drew _) (by kernel_rfl) ?_
     apply bd 31 k rfl rfl rfl
     case h =>
      intro ax wx hE hR hF
      exact Z04 rfl (hE.g e0)
     apply bd 32 k rfl rfl rfl
     case h =>
      intro ax wx hE hR hF
      exact Z04 rfl (hE.g e7)
     apply bd 33 k rfl rfl rfl
     case h =>
      intro ax wx hE hR hF
      have e31 := zhF hF 0 31 ml1
      have e32 := zhF hF 1 32 ml0
      simp [go_sem, ↓IntWalk.iteOmega, ev e31, ev e32]
      with_reducible rfl
     apply bd 34 k rfl rfl rfl
     case h =>
      intro ax wx hE hR hF
      have e33 := zhF hF 2 33 ml0
      simp [go_sem, ↓IntWalk.iteOmega, ev e33]
      with_reducible rfl
     apply bd 35 k rfl rfl rfl
     case h =>
      intro ax wx hE hR hF
      have e34 := zhF hF 3 34 ml0
      obtain ⟨_, _, e, d0, d1⟩ := Z1q hrow (OwnT.ext O hR).below hy; injection e with e; injection e with e e'; subst e e'
      simp [go_sem, ↓IntWalk.iteOmega, ev e34, d0]
      with_reducible rfl
     apply bd 36 k rfl rfl rfl
     case h =>
      intro ax wx hE hR hF
      simp [go_sem, ↓IntWalk.iteOmega, ev (hE.g e3)]
      with_reducible rfl
     apply bd 37 k rfl rfl rfl
     case h =>
      intro ax wx hE hR hF
      have e36 := zhF hF 5 36 ml0
      have q0 : wx.cell? ⟨xb, 0, none⟩ = some (.int .u64 ↑x.1) := (OwnT.blk (OwnT.ext O hR) 1 rfl).cell 0
      simp [go_sem, ↓IntWalk.iteOmega, ev e36, q0]
      with_reducible rfl
     apply bd 38 k rfl rfl rfl
     case h =>
      intro ax wx hE hR hF
      have e35 := zhF hF 4 35 ml2
      have e37 := zhF hF 6 37 ml0
      exact Z06 (Z0j rfl e35 e37) (decide_eq_true (by omega))
     apply Build.stop
     refine ⟨by kernel_rfl, .inl ⟨rfl, ?_⟩⟩
     intro a18 w19 hE R hF
     have e38 : a18.eval (.tmp 38) = _ := hF 7 (det 38 _) ml0
     clear hF
     replace O := OwnT.ext O R
     clear R
     replace e0 := hE.g e0; replace e3 := hE.g e3; replace e5 := hE.g e5; replace e6 := hE.g e6; replace e7 := hE.g e7
     replace k := k.env hE
     clear hE e26
     refine Z01 ?_
     refine Z0b e38 rfl ?_
     obtain ⟨_, _, e, d0, d1⟩ := Z1q hrow O.below hy; injection e with e; injection e with e e'; subst e e'
     refine wp_region_lit ?_
     have hE := Env.refl a18 [39, 40, 41, 42, 43, 44, 45, 5]
     refine sd 39 hE k (Z04 rfl e5) ?_
     intro a20 hE e39 kp
     replace e5 := kt kp e5
     refine sm 40 hE k e0 ?_
     intro a21 hE e40 kp
     replace e5 := kt kp e5; replace e39 := kt kp e39
     refine sm 41 hE k e7 ?_
     intro a22 hE e41 kp
     replace e5 := kt kp e5; replace e39 := kt kp e39; replace e40 := kt kp e40
     apply Z03 42 hE k rfl rfl rfl rfl
     case h =>
      simp [go_sem, ↓IntWalk.iteOmega, ev e40, ev e41]
      with_reducible rfl
     intro a23 hE e42 kp
     replace e5 := kt kp e5; replace e39 := kt kp e39
     apply Z03 43 hE k rfl rfl rfl rfl
     case h =>
      simp [go_sem, ↓IntWalk.iteOmega, ev e42, d0, d1]
      with_reducible rfl
     intro a24 hE e43 kp
     replace e5 := kt kp e5; replace e39 := kt kp e39
     refine Z18 (m := 1) (c := 1) O (cs := #[.int .u64 ↑y.1, .int .u64 ↑y.2]) (t := 38) 44 hE k rfl (by rfl) (by rfl) rfl (by simp [go_sem, ↓IntWalk.iteOmega, ev e43]) ?_
     clear O
     intro gn a25 w26 O hE e44 kp
     replace e5 := kt kp e5; replace e39 := kt kp e39
     obtain ⟨gr, cr, w27, hrun, O⟩ := Z1y O elemPr (by decide) rfl (by intro u hu; simp at hu; rcases hu with rfl | rfl <;> rfl) (by unfold maxLen; omega) (by omega)
     apply Z1p 45 hE k rfl (by rfl) (by rfl) rfl
     case h => exact Z15 rfl e39 e44 (hrun _)
     clear hrun
     intro a28 hE e45 kp
     replace e5 := kt kp e5
     refine sd 5 hE k (Z00 rfl e45) ?_
     intro a29 hE e5 kp
     refine wpList_nil ?_
     replace e0 := hE.g e0; replace e3 := hE.g e3; replace e6 := hE.g e6; replace e7 := hE.g e7
     replace k := k.env hE
     clear hE e38
     refine Z0f ?_
     refine Z01 ?_
     refine wp_region_lit ?_
     have hE := Env.refl a29 [13, 14, 7]
     refine sd 13 hE k (Z04 rfl e7) ?_
     intro a30 hE e13 kp
     replace e7 := kt kp e7
     refine sd 14 hE k (Z0v rfl e13 rfl (by omega)) ?_
     intro a31 hE e14 kp
     replace e7 := kt kp e7
     refine sd 7 hE k (Z00 rfl e14) ?_
     intro a32 hE e7 kp
     refine wpList_nil ?_
     replace e0 := hE.g e0; replace e3 := hE.g e3; replace e5 := hE.g e5; replace e6 := hE.g e6
     replace k := k.env hE
     clear hE
     refine Z01 ?_
     subst hEq hm
     rw [show flatP (if false = true then insP x (l.take i) else l.take i) ++ [Value.int .u64 (y.1 : Int), Value.int .u64 (y.2 : Int)] = flatP ((if false = true then insP x (l.take i) else l.take i) ++ [y]) by simp [flatP, pairC]] at O
     refine ⟨⟨k, e0, e3, i + 1, _, _, false, some ⟨gr, 0, none⟩, cr, e5, e6, e7, by omega, (by rw [htk]; rfl), (by rw [List.length_append]; rfl), (fun _ z hz => by rw [htk] at hz; rcases List.mem_append.1 hz with h | h; exact hlo' z h; (obtain rfl := List.mem_singleton.1 h; exact hlt1)), (fun h => by cases h), O⟩, ?_⟩
     rw [e7, mi]; simp only [intOf]; omega
   have hge : x.1 ≤ y.1 := by omega
   cases dn with
   | true =>
    obtain ⟨z0, hz0, hz1⟩ := hhi rfl
    have hgt : x.1 < y.1 := by have := hyu z0 hz0; omega
    subst hEq hm
    refine wp_seq ?_
    refine wp_seq ?_
    refine Z0c (R := Ext) (w0 := w11) [[], [], [0, 1], [0, 1, 2], [0, 1, 2, 3], [], [5], [0, 1, 2, 3, 4, 5, 6], [0, 1, 2, 3, 4, 5, 6, 7], [0, 1, 2, 3, 4, 5, 6, 7, 8], [0, 1, 2, 3, 4, 5, 6, 7, 8, 9], [0, 1, 2, 3, 4, 5, 6, 7, 8, 9, 10]] [15, 16, 17, 18, 19, 20, 21, 22, 23, 24, 25, 26] Ext.refl (fun _ _ _ => Ext.trans) (Ext.drew _) (by kernel_rfl) ?_
    apply bd 15 k rfl rfl rfl
    case h =>
     intro ax wx hE hR hF
     exact Z04 rfl (hE.g e0)
    apply bd 16 k rfl rfl rfl
    case h =>
     intro ax wx hE hR hF
     exact Z04 rfl (hE.g e7)
    apply bd 17 k rfl rfl rfl
    case h =>
     intro ax wx hE hR hF
     have e15 := zhF hF 0 15 ml1
     have e16 := zhF hF 1 16 ml0
     simp [go_sem, ↓IntWalk.iteOmega, ev e15, ev e16]
     with_reducible rfl
    apply bd 18 k rfl rfl rfl
    case h =>
     intro ax wx hE hR hF
     have e17 := zhF hF 2 17 ml0
     simp [go_sem, ↓IntWalk.iteOmega, ev e17]
     with_reducible rfl
    apply bd 19 k rfl rfl rfl
    case h =>
     intro ax wx hE hR hF
     have e18 := zhF hF 3 18 ml0
     obtain ⟨_, _, e, d0, d1⟩ := Z1q hrow (OwnT.ext O hR).below hy; injection e with e; injection e with e e'; subst e e'
     simp [go_sem, ↓IntWalk.iteOmega, ev e18, d0]
     with_reducible rfl
    apply bd 20 k rfl rfl rfl
    case h =>
     intro ax wx hE hR hF
     simp [go_sem, ↓IntWalk.iteOmega, ev (hE.g e3)]
     with_reducible rfl
    apply bd 21 k rfl rfl rfl
    case h =>
     intro ax wx hE hR hF
     have e20 := zhF hF 5 20 ml0
     have q0 : wx.cell? ⟨xb, 0, none⟩ = some (.int .u64 ↑x.1) := (OwnT.blk (OwnT.ext O hR) 1 rfl).cell 0
     simp [go_sem, ↓IntWalk.iteOmega, ev e20, q0]
     with_reducible rfl
    apply bd 22 k rfl rfl rfl
    case h =>
     intro ax wx hE hR hF
     have e19 := zhF hF 4 19 ml2
     have e21 := zhF hF 6 21 ml0
     exact Z06 (Z29 rfl e19 e21) (decide_eq_true (by omega))
    apply bd 23 k rfl rfl rfl
    case h =>
     intro ax wx hE hR hF
     have e22 := zhF hF 7 22 ml0
     exact Z04 rfl e22
    apply bdg 24 k rfl rfl rfl rfl
    case h =>
     intro ax wx hE hR hF
     have e23 := zhF hF 8 23 ml0
     refine ⟨e23, ?_⟩
     exact Z04 rfl (hE.g e6)
    apply bdg 25 k rfl rfl rfl rfl
    case h =>
     intro ax wx hE hR hF
     have e24 := zhF hF 9 24 ml0
     have e23 := zhF hF 8 23 ml1
     refine ⟨e23, ?_⟩
     exact Z1a rfl e24
    apply bd 26 k rfl rfl rfl
    case h =>
     intro ax wx hE hR hF
     have e23 := zhF hF 8 23 ml2
     have e25 := zhF hF 10 25 ml0
     exact Z0a rfl e23 e25
    apply Build.stop
    refine ⟨by kernel_rfl, .inl ⟨rfl, ?_⟩⟩
    intro a33 w34 hE R hF
    have e26 : a33.eval (.tmp 26) = _ := hF 11 (det 26 _) ml0
    clear hF
    replace O := OwnT.ext O R
    clear R
    replace e0 := hE.g e0; replace e3 := hE.g e3; replace e5 := hE.g e5; replace e6 := hE.g e6; replace e7 := hE.g e7
    replace k := k.env hE
    clear hE e12
    refine Z01 ?_
    refine Z08 e26 rfl ?_
    refine wp_skip ?_
    refine Z01 (wp_seq ?_)
    refine Z0c (R := Ext) (w0 := w34) [[], [], [0, 1], [0, 1, 2], [0, 1, 2, 3], [], [5], [0, 1, 2, 3, 4, 5, 6]] [31, 32, 33, 34, 35, 36, 37, 38] Ext.refl (fun _ _ _ => Ext.trans) (Ext.drew _) (by kernel_rfl) ?_
    apply bd 31 k rfl rfl rfl
    case h =>
     intro ax wx hE hR hF
     exact Z04 rfl (hE.g e0)
    apply bd 32 k rfl rfl rfl
    case h =>
     intro ax wx hE hR hF
     exact Z04 rfl (hE.g e7)
    apply bd 33 k rfl rfl rfl
    case h =>
     intro ax wx hE hR hF
     have e31 := zhF hF 0 31 ml1
     have e32 := zhF hF 1 32 ml0
     simp [go_sem, ↓IntWalk.iteOmega, ev e31, ev e32]
     with_reducible rfl
    apply bd 34 k rfl rfl rfl
    case h =>
     intro ax wx hE hR hF
     have e33 := zhF hF 2 33 ml0
     simp [go_sem, ↓IntWalk.iteOmega, ev e33]
     with_reducible rfl
    apply bd 35 k rfl rfl rfl
    case h =>
     intro ax wx hE hR hF
     have e34 := zhF hF 3 34 ml0
     obtain ⟨_, _, e, d0, d1⟩ := Z1q hrow (OwnT.ext O hR).below hy; injection e with e; injection e with e e'; subst e e'
     simp [go_sem, ↓IntWalk.iteOmega, ev e34, d0]
     with_reducible rfl
    apply bd 36 k rfl rfl rfl
    case h =>
     intro ax wx hE hR hF
     simp [go_sem, ↓IntWalk.iteOmega, ev (hE.g e3)]
     with_reducible rfl
    apply bd 37 k rfl rfl rfl
    case h =>
     intro ax wx hE hR hF
     have e36 := zhF hF 5 36 ml0
     have q0 : wx.cell? ⟨xb, 0, none⟩ = some (.int .u64 ↑x.1) := (OwnT.blk (OwnT.ext O hR) 1 rfl).cell 0
     simp [go_sem, ↓IntWalk.iteOmega, ev e36, q0]
     with_reducible rfl
    apply bd 38 k rfl rfl rfl
    case h =>
     intro ax wx hE hR hF
     have e35 := zhF hF 4 35 ml2
     have e37 := zhF hF 6 37 ml0
     exact Z06 (Z0j rfl e35 e37) (decide_eq_true (by omega))
    apply Build.stop
    refine ⟨by kernel_rfl, .inl ⟨rfl, ?_⟩⟩
    intro a35 w36 hE R hF
    have e38 : a35.eval (.tmp 38) = _ := hF 7 (det 38 _) ml0
    clear hF
    replace O := OwnT.ext O R
    clear R
    replace e0 := hE.g e0; replace e3 := hE.g e3; replace e5 := hE.g e5; replace e6 := hE.g e6; replace e7 := hE.g e7
    replace k := k.env hE
    clear hE e26
    refine Z01 ?_
    refine Z0b e38 rfl ?_
    obtain ⟨_, _, e, d0, d1⟩ := Z1q hrow O.below hy; injection e with e; injection e with e e'; subst e e'
    refine wp_region_lit ?_
    have hE := Env.refl a35 [39, 40, 41, 42, 43, 44, 45, 5]
    refine sd 39 hE k (Z04 rfl e5) ?_
    intro a37 hE e39 kp
    replace e5 := kt kp e5
    refine sm 40 hE k e0 ?_
    intro a38 hE e40 kp
    replace e5 := kt kp e5; replace e39 := kt kp e39
    refine sm 41 hE k e7 ?_
    intro a39 hE e41 kp
    replace e5 := kt kp e5; replace e39 := kt kp e39; replace e40 := kt kp e40
    apply Z03 42 hE k rfl rfl rfl rfl
    case h =>
     simp [go_sem, ↓IntWalk.iteOmega, ev e40, ev e41]
     with_reducible rfl
    intro a40 hE e42 kp
    replace e5 := kt kp e5; replace e39 := kt kp e39
    apply Z03 43 hE k rfl rfl rfl rfl
    case h =>
     simp [go_sem, ↓IntWalk.iteOmega, ev e42, d0, d1]
     with_reducible rfl
    intro a41 hE e43 kp
    replace e5 := kt kp e5; replace e39 := kt kp e39
    refine Z18 (m := 1) (c := 1) O (cs := #[.int .u64 ↑y.1, .int .u64 ↑y.2]) (t := 38) 44 hE k rfl (by rfl) (by rfl) rfl (by simp [go_sem, ↓IntWalk.iteOmega, ev e43]) ?_
    clear O
    intro gn a42 w43 O hE e44 kp
    replace e5 := kt kp e5; replace e39 := kt kp e39
    obtain ⟨gr, cr, w44, hrun, O⟩ := Z1y O elemPr (by decide) rfl (by intro u hu; simp at hu; rcases hu with rfl | rfl <;> rfl) (by unfold maxLen; omega) (by omega)
    apply Z1p 45 hE k rfl (by rfl) (by rfl) rfl
    case h => exact Z15 rfl e39 e44 (hrun _)
    clear hrun
    intro a45 hE e45 kp
    replace e5 := kt kp e5
    refine sd 5 hE k (Z00 rfl e45) ?_
    intro a46 hE e5 kp
    refine wpList_nil ?_
    replace e0 := hE.g e0; replace e3 := hE.g e3; replace e6 := hE.g e6; replace e7 := hE.g e7
    replace k := k.env hE
    clear hE e38
    refine Z0f ?_
    refine Z01 ?_
    refine wp_region_lit ?_
    have hE := Env.refl a46 [13, 14, 7]
    refine sd 13 hE k (Z04 rfl e7) ?_
    intro a47 hE e13 kp
    replace e7 := kt kp e7
    refine sd 14 hE k (Z0v rfl e13 rfl (by omega)) ?_
    intro a48 hE e14 kp
    replace e7 := kt kp e7
    refine sd 7 hE k (Z00 rfl e14) ?_
    intro a49 hE e7 kp
    refine wpList_nil ?_
    replace e0 := hE.g e0; replace e3 := hE.g e3; replace e5 := hE.g e5; replace e6 := hE.g e6
    replace k := k.env hE
    clear hE
    refine Z01 ?_
    rw [show flatP (if true = true then insP x (l.take i) else l.take i) ++ [Value.int .u64 (y.1 : Int), Value.int .u64 (y.2 : Int)] = flatP ((if true = true then insP x (l.take i) else l.take i) ++ [y]) by simp [flatP, pairC]] at O
    refine ⟨⟨k, e0, e3, i + 1, _, _, true, some ⟨gr, 0, none⟩, cr, e5, e6, e7, by omega, (by rw [htk, if_pos rfl, if_pos rfl, Z4q hgt]), (by rw [List.length_append]; rfl), (fun h => by cases h), (fun _ => ⟨z0, by rw [htk]; exact List.mem_append_left _ hz0, hz1⟩), O⟩, ?_⟩
    rw [e7, mi]; simp only [intOf]; omega
   | false =>
    have hlo' := hlo rfl
    subst hEq hm
    refine wp_seq ?_
    refine wp_seq ?_
    refine Z0c (R := Ext) (w0 := w11) [[], [], [0, 1], [0, 1, 2], [0, 1, 2, 3], [], [5], [0, 1, 2, 3, 4, 5, 6], [0, 1, 2, 3, 4, 5, 6, 7], [0, 1, 2, 3, 4, 5, 6, 7, 8], [0, 1, 2, 3, 4, 5, 6, 7, 8, 9], [0, 1, 2, 3, 4, 5, 6, 7, 8, 9, 10]] [15, 16, 17, 18, 19, 20, 21, 22, 23, 24, 25, 26] Ext.refl (fun _ _ _ => Ext.trans) (Ext.drew _) (by kernel_rfl) ?_
    apply bd 15 k rfl rfl rfl
    case h =>
     intro ax wx hE hR hF
     exact Z04 rfl (hE.g e0)
    apply bd 16 k rfl rfl rfl
    case h =>
     intro ax wx hE hR hF
     exact Z04 rfl (hE.g e7)
    apply bd 17 k rfl rfl rfl
    case h =>
     intro ax wx hE hR hF
     have e15 := zhF hF 0 15 ml1
     have e16 := zhF hF 1 16 ml0
     simp [go_sem, ↓IntWalk.iteOmega, ev e15, ev e16]
     with_reducible rfl
    apply bd 18 k rfl rfl rfl
    case h =>
     intro ax wx hE hR hF
     have e17 := zhF hF 2 17 ml0
     simp [go_sem, ↓IntWalk.iteOmega, ev e17]
     with_reducible rfl
    apply bd 19 k rfl rfl rfl
    case h =>
     intro ax wx hE hR hF
     have e18 := zhF hF 3 18 ml0
     obtain ⟨_, _, e, d0, d1⟩ := Z1q hrow (OwnT.ext O hR).below hy; injection e with e; injection e with e e'; subst e e'
     simp [go_sem, ↓IntWalk.iteOmega, ev e18, d0]
     with_reducible rfl
    apply bd 20 k rfl rfl rfl
    case h =>
     intro ax wx hE hR hF
     simp [go_sem, ↓IntWalk.iteOmega, ev (hE.g e3)]
     with_reducible rfl
    apply bd 21 k rfl rfl rfl
    case h =>
     intro ax wx hE hR hF
     have e20 := zhF hF 5 20 ml0
     have q0 : wx.cell? ⟨xb, 0, none⟩ = some (.int .u64 ↑x.1) := (OwnT.blk (OwnT.ext O hR) 1 rfl).cell 0
     simp [go_sem, ↓IntWalk.iteOmega, ev e20, q0]
     with_reducible rfl
    apply bd 22 k rfl rfl rfl
    case h =>
     intro ax wx hE hR hF
     have e19 := zhF hF 4 19 ml2
     have e21 := zhF hF 6 21 ml0
     exact Z06 (Z29 rfl e19 e21) (decide_eq_true (by omega))
    apply bd 23 k rfl rfl rfl
    case h =>
     intro ax wx hE hR hF
     have e22 := zhF hF 7 22 ml0
     exact Z04 rfl e22
    apply bdg 24 k rfl rfl rfl rfl
    case h =>
     intro ax wx hE hR hF
     have e23 := zhF hF 8 23 ml0
     refine ⟨e23, ?_⟩
     exact Z04 rfl (hE.g e6)
    apply bdg 25 k rfl rfl rfl rfl
    case h =>
     intro ax wx hE hR hF
     have e24 := zhF hF 9 24 ml0
     have e23 := zhF hF 8 23 ml1
     refine ⟨e23, ?_⟩
     exact Z1a rfl e24
    apply bd 26 k rfl rfl rfl
    case h =>
     intro ax wx hE hR hF
     have e23 := zhF hF 8 23 ml2
     have e25 := zhF hF 10 25 ml0
     exact Z0a rfl e23 e25
    apply Build.stop
    refine ⟨by kernel_rfl, .inl ⟨rfl, ?_⟩⟩
    intro a50 w51 hE R hF
    have e26 : a50.eval (.tmp 26) = _ := hF 11 (det 26 _) ml0
    clear hF
    replace O := OwnT.ext O R
    clear R
    replace e0 := hE.g e0; replace e3 := hE.g e3; replace e5 := hE.g e5; replace e6 := hE.g e6; replace e7 := hE.g e7
    replace k := k.env hE
    clear hE e12
    refine Z01 ?_
    refine Z0b e26 rfl ?_
    refine wp_seq ?_
    refine wp_region_lit ?_
    have hE := Env.refl a50 [27, 28, 29, 30, 5]
    refine sd 27 hE k (Z04 rfl e5) ?_
    intro a52 hE e27 kp
    replace e5 := kt kp e5
    apply Z03 28 hE k rfl rfl rfl rfl
    case h =>
     have q0 : w51.cell? ⟨xb, 0, none⟩ = some (.int .u64 ↑x.1) := (OwnT.blk O 1 rfl).cell 0
     have q1 : w51.cell? ⟨xb, 1, none⟩ = some (.int .u64 ↑x.2) := (OwnT.blk O 1 rfl).cell 1
     simp [go_sem, ↓IntWalk.iteOmega, ev (hE.g e3), q0, q1]
     with_reducible rfl
    intro a53 hE e28 kp
    replace e5 := kt kp e5; replace e27 := kt kp e27
    refine Z18 (m := 1) (c := 1) O (cs := #[.int .u64 ↑x.1, .int .u64 ↑x.2]) (t := 38) 29 hE k rfl (by rfl) (by rfl) rfl (by simp [go_sem, ↓IntWalk.iteOmega, ev e28]) ?_
    clear O
    intro gn a54 w55 O hE e29 kp
    replace e5 := kt kp e5; replace e27 := kt kp e27
    obtain ⟨gr, cr, w56, hrun, O⟩ := Z1y O elemPr (by decide) rfl (by intro u hu; simp at hu; rcases hu with rfl | rfl <;> rfl) (by unfold maxLen; omega) (by omega)
    apply Z1p 30 hE k rfl (by rfl) (by rfl) rfl
    case h => exact Z15 rfl e27 e29 (hrun _)
    clear hrun
    intro a57 hE e30 kp
    replace e5 := kt kp e5
    refine sd 5 hE k (Z00 rfl e30) ?_
    intro a58 hE e5 kp
    refine wpList_nil ?_
    replace e0 := hE.g e0; replace e3 := hE.g e3; replace e7 := hE.g e7
    replace k := k.env hE
    clear hE e6 e26
    refine Z01 ?_
    refine wp_region_lit ?_
    have hE := Env.refl a58 [6]
    refine sd 6 hE k (Z00 rfl rfl) ?_
    intro a59 hE e6 kp
    refine wpList_nil ?_
    replace e0 := hE.g e0; replace e3 := hE.g e3; replace e5 := hE.g e5; replace e7 := hE.g e7
    replace k := k.env hE
    clear hE
    refine Z01 ?_
    rw [show flatP (if false = true then insP x (l.take i) else l.take i) ++ [Value.int .u64 (x.1 : Int), Value.int .u64 (x.2 : Int)] = flatP ((if false = true then insP x (l.take i) else l.take i) ++ [x]) by simp [flatP, pairC]] at O
    by_cases heq : y.1 = x.1
    · skip
      refine wp_seq ?_
      refine Z0c (R := Ext) (w0 := w56) [[], [], [0, 1], [0, 1, 2], [0, 1, 2, 3], [], [5], [0, 1, 2, 3, 4, 5, 6]] [31, 32, 33, 34, 35, 36, 37, 38] Ext.refl (fun _ _ _ => Ext.trans) (Ext.drew _) (by kernel_rfl) ?_
      apply bd 31 k rfl rfl rfl
      case h =>
       intro ax wx hE hR hF
       exact Z04 rfl (hE.g e0)
      apply bd 32 k rfl rfl rfl
      case h =>
       intro ax wx hE hR hF
       exact Z04 rfl (hE.g e7)
      apply bd 33 k rfl rfl rfl
      case h =>
       intro ax wx hE hR hF
       have e31 := zhF hF 0 31 ml1
       have e32 := zhF hF 1 32 ml0
       simp [go_sem, ↓IntWalk.iteOmega, ev e31, ev e32]
       with_reducible rfl
      apply bd 34 k rfl rfl rfl
      case h =>
       intro ax wx hE hR hF
       have e33 := zhF hF 2 33 ml0
       simp [go_sem, ↓IntWalk.iteOmega, ev e33]
       with_reducible rfl
      apply bd 35 k rfl rfl rfl
      case h =>
       intro ax wx hE hR hF
       have e34 := zhF hF 3 34 ml0
       obtain ⟨_, _, e, d0, d1⟩ := Z1q hrow (OwnT.ext O hR).below hy; injection e with e; injection e with e e'; subst e e'
       simp [go_sem, ↓IntWalk.iteOmega, ev e34, d0]
       with_reducible rfl
      apply bd 36 k rfl rfl rfl
      case h =>
       intro ax wx hE hR hF
       simp [go_sem, ↓IntWalk.iteOmega, ev (hE.g e3)]
       with_reducible rfl
      apply bd 37 k rfl rfl rfl
      case h =>
       intro ax wx hE hR hF
       have e36 := zhF hF 5 36 ml0
       have q0 : wx.cell? ⟨xb, 0, none⟩ = some (.int .u64 ↑x.1) := (OwnT.blk (OwnT.ext O hR) 1 rfl).cell 0
       simp [go_sem, ↓IntWalk.iteOmega, ev e36, q0]
       with_reducible rfl
      apply bd 38 k rfl rfl rfl
      case h =>
       intro ax wx hE hR hF
       have e35 := zhF hF 4 35 ml2
       have e37 := zhF hF 6 37 ml0
       exact Z06 (Z0j rfl e35 e37) (decide_eq_false (by omega))
      apply Build.stop
      refine ⟨by kernel_rfl, .inl ⟨rfl, ?_⟩⟩
      intro a60 w61 hE R hF
      have e38 : a60.eval (.tmp 38) = _ := hF 7 (det 38 _) ml0
      clear hF
      replace O := OwnT.ext O R
      clear R
      replace e0 := hE.g e0; replace e3 := hE.g e3; replace e5 := hE.g e5; replace e6 := hE.g e6; replace e7 := hE.g e7
      replace k := k.env hE
      clear hE
      refine Z01 ?_
      refine Z08 e38 rfl ?_
      refine wp_skip ?_
      refine Z0f ?_
      refine Z01 ?_
      refine wp_region_lit ?_
      have hE := Env.refl a60 [13, 14, 7]
      refine sd 13 hE k (Z04 rfl e7) ?_
      intro a62 hE e13 kp
      replace e7 := kt kp e7
      refine sd 14 hE k (Z0v rfl e13 rfl (by omega)) ?_
      intro a63 hE e14 kp
      replace e7 := kt kp e7
      refine sd 7 hE k (Z00 rfl e14) ?_
      intro a64 hE e7 kp
      refine wpList_nil ?_
      replace e0 := hE.g e0; replace e3 := hE.g e3; replace e5 := hE.g e5; replace e6 := hE.g e6
      replace k := k.env hE
      clear hE e38
      refine Z01 ?_
      refine ⟨⟨k, e0, e3, i + 1, _, _, true, some ⟨gr, 0, none⟩, cr, e5, e6, e7, by omega, (by rw [htk, if_pos rfl, Z75 heq.symm hlo']; rfl), (by rw [List.length_append]; rfl), (fun h => by cases h), (fun _ => ⟨y, by rw [htk]; simp, hge⟩), O⟩, ?_⟩
      rw [e7, mi]; simp only [intOf]; omega
    · have hgt : x.1 < y.1 := by omega
      refine wp_seq ?_
      refine Z0c (R := Ext) (w0 := w56) [[], [], [0, 1], [0, 1, 2], [0, 1, 2, 3], [], [5], [0, 1, 2, 3, 4, 5, 6]] [31, 32, 33, 34, 35, 36, 37, 38] Ext.refl (fun _ _ _ => Ext.trans) (Ext.drew _) (by kernel_rfl) ?_
      apply bd 31 k rfl rfl rfl
      case h =>
       intro ax wx hE hR hF
       exact Z04 rfl (hE.g e0)
      apply bd 32 k rfl rfl rfl
      case h =>
       intro ax wx hE hR hF
       exact Z04 rfl (hE.g e7)
      apply bd 33 k rfl rfl rfl
      case h =>
       intro ax wx hE hR hF
       have e31 := zhF hF 0 31 ml1
       have e32 := zhF hF 1 32 ml0
       simp [go_sem, ↓IntWalk.iteOmega, ev e31, ev e32]
       with_reducible rfl
      apply bd 34 k rfl rfl rfl
      case h =>
       intro ax wx hE hR hF
       have e33 := zhF hF 2 33 ml0
       simp [go_sem, ↓IntWalk.iteOmega, ev e33]
       with_reducible rfl
      apply bd 35 k rfl rfl rfl
      case h =>
       intro ax wx hE hR hF
       have e34 := zhF hF 3 34 ml0
       obtain ⟨_, _, e, d0, d1⟩ := Z1q hrow (OwnT.ext O hR).below hy; injection e with e; injection e with e e'; subst e e'
       simp [go_sem, ↓IntWalk.iteOmega, ev e34, d0]
       with_reducible rfl
      apply bd 36 k rfl rfl rfl
      case h =>
       intro ax wx hE hR hF
       simp [go_sem, ↓IntWalk.iteOmega, ev (hE.g e3)]
       with_reducible rfl
      apply bd 37 k rfl rfl rfl
      case h =>
       intro ax wx hE hR hF
       have e36 := zhF hF 5 36 ml0
       have q0 : wx.cell? ⟨xb, 0, none⟩ = some (.int .u64 ↑x.1) := (OwnT.blk (OwnT.ext O hR) 1 rfl).cell 0
       simp [go_sem, ↓IntWalk.iteOmega, ev e36, q0]
       with_reducible rfl
      apply bd 38 k rfl rfl rfl
      case h =>
       intro ax wx hE hR hF
       have e35 := zhF hF 4 35 ml2
       have e37 := zhF hF 6 37 ml0
       exact Z06 (Z0j rfl e35 e37) (decide_eq_true (by omega))
      apply Build.stop
      refine ⟨by kernel_rfl, .inl ⟨rfl, ?_⟩⟩
      intro a65 w66 hE R hF
      have e38 : a65.eval (.tmp 38) = _ := hF 7 (det 38 _) ml0
      clear hF
      replace O := OwnT.ext O R
      clear R
      replace e0 := hE.g e0; replace e3 := hE.g e3; replace e5 := hE.g e5; replace e6 := hE.g e6; replace e7 := hE.g e7
      replace k := k.env hE
      clear hE
      refine Z01 ?_
      refine Z0b e38 rfl ?_
      obtain ⟨_, _, e, d0, d1⟩ := Z1q hrow O.below hy; injection e with e; injection e with e e'; subst e e'
      refine wp_region_lit ?_
      have hE := Env.refl a65 [39, 40, 41, 42, 43, 44, 45, 5]
      refine sd 39 hE k (Z04 rfl e5) ?_
      intro a67 hE e39 kp
      replace e5 := kt kp e5
      refine sm 40 hE k e0 ?_
      intro a68 hE e40 kp
      replace e5 := kt kp e5; replace e39 := kt kp e39
      refine sm 41 hE k e7 ?_
      intro a69 hE e41 kp
      replace e5 := kt kp e5; replace e39 := kt kp e39; replace e40 := kt kp e40
      apply Z03 42 hE k rfl rfl rfl rfl
      case h =>
       simp [go_sem, ↓IntWalk.iteOmega, ev e40, ev e41]
       with_reducible rfl
      intro a70 hE e42 kp
      replace e5 := kt kp e5; replace e39 := kt kp e39
      apply Z03 43 hE k rfl rfl rfl rfl
      case h =>
       simp [go_sem, ↓IntWalk.iteOmega, ev e42, d0, d1]
       with_reducible rfl
      intro a71 hE e43 kp
      replace e5 := kt kp e5; replace e39 := kt kp e39
      refine Z18 (m := 1) (c := 1) O (cs := #[.int .u64 ↑y.1, .int .u64 ↑y.2]) (t := 38) 44 hE k rfl (by rfl) (by rfl) rfl (by simp [go_sem, ↓IntWalk.iteOmega, ev e43]) ?_
      clear O
      intro gm a72 w73 O hE e44 kp
      replace e5 := kt kp e5; replace e39 := kt kp e39
      obtain ⟨gr2, cr2, w74, hrun, O⟩ := Z1y O elemPr (by decide) rfl (by intro u hu; simp at hu; rcases hu with rfl | rfl <;> rfl) (by unfold maxLen; omega) (by omega)
      apply Z1p 45 hE k rfl (by rfl) (by rfl) rfl
      case h => exact Z15 rfl e39 e44 (hrun _)
      clear hrun
      intro a75 hE e45 kp
      replace e5 := kt kp e5
      refine sd 5 hE k (Z00 rfl e45) ?_
      intro a76 hE e5 kp
      refine wpList_nil ?_
      replace e0 := hE.g e0; replace e3 := hE.g e3; replace e6 := hE.g e6; replace e7 := hE.g e7
      replace k := k.env hE
      clear hE e38
      refine Z0f ?_
      refine Z01 ?_
      refine wp_region_lit ?_
      have hE := Env.refl a76 [13, 14, 7]
      refine sd 13 hE k (Z04 rfl e7) ?_
      intro a77 hE e13 kp
      replace e7 := kt kp e7
      refine sd 14 hE k (Z0v rfl e13 rfl (by omega)) ?_
      intro a78 hE e14 kp
      replace e7 := kt kp e7
      refine sd 7 hE k (Z00 rfl e14) ?_
      intro a79 hE e7 kp
      refine wpList_nil ?_
      replace e0 := hE.g e0; replace e3 := hE.g e3; replace e5 := hE.g e5; replace e6 := hE.g e6
      replace k := k.env hE
      clear hE
      refine Z01 ?_
      rw [show flatP ((if false = true then insP x (l.take i) else l.take i) ++ [x]) ++ [Value.int .u64 (y.1 : Int), Value.int .u64 (y.2 : Int)] = flatP ((if false = true then insP x (l.take i) else l.take i) ++ [x] ++ [y]) by simp [flatP, pairC]] at O
      refine ⟨⟨k, e0, e3, i + 1, _, _, true, some ⟨gr2, 0, none⟩, cr2, e5, e6, e7, by omega, (by rw [htk, if_pos rfl, Z4q hgt, Z2u hlo']; rfl), (by rw [List.length_append, List.length_append]; rfl), (fun h => by cases h), (fun _ => ⟨y, by rw [htk]; simp, hge⟩), O⟩, ?_⟩
      rw [e7, mi]; simp only [intOf]; omega
 · have hin : l.take i = l := List.take_of_length_le (by omega)
   rw [hin] at hEq hlo
   have hml : m ≤ n + 1 := by rw [hm, hEq]; split; (have := Z3z (x := x) (ps := l); omega); omega
   refine wp_seq ?_
   refine wp_seq ?_
   refine wp_region_lit ?_
   have hE := Env.refl a10 [9, 10, 11, 12]
   refine sm 9 hE k e7 ?_
   intro a80 hE e9 kp
   refine sm 10 hE k e0 ?_
   intro a81 hE e10 kp
   replace e9 := kt kp e9
   refine sd 11 hE k (Z0d Try.underlying29 rfl e10) ?_
   intro a82 hE e11 kp
   replace e9 := kt kp e9
   refine sd 12 hE k (Z06 (Z0r rfl e9 e11) (decide_eq_false (by omega))) ?_
   intro a83 hE e12 kp
   refine wpList_nil ?_
   replace e0 := hE.g e0; replace e3 := hE.g e3; replace e5 := hE.g e5; replace e6 := hE.g e6; replace e7 := hE.g e7
   replace k := k.env hE
   clear hE
   refine Z01 ?_
   refine Z08 e12 rfl ?_
   refine wp_exit ?_
   refine Z0q ?_
   refine Z0q ?_
   refine Z13 ?_
   refine Z01 ?_
   cases dn with
   | true =>
    rw [if_pos rfl] at hEq
    refine wp_seq ?_
    refine wp_seq ?_
    refine wp_region_lit ?_
    have hE := Env.refl a83 [46, 47]
    refine sm 46 hE k e6 ?_
    intro a84 hE e46 kp
    refine sd 47 hE k (Z1a rfl e46) ?_
    intro a85 hE e47 kp
    refine wpList_nil ?_
    replace e3 := hE.g e3; replace e5 := hE.g e5
    replace k := k.env hE
    clear hE e0 e6 e7 e12
    refine Z01 ?_
    refine Z08 e47 rfl ?_
    refine wp_skip ?_
    refine Z01 (wp_seq ?_)
    refine wp_region_lit ?_
    have hE := Env.refl a85 [52, 4]
    refine sm 52 hE k e5 ?_
    intro a86 hE e52 kp
    refine sd 4 hE k (Z00 rfl e52) ?_
    intro a87 hE e4 kp
    refine wpList_nil ?_
    replace k := k.env hE
    clear hE e3 e5 e47
    refine Z01 ?_
    refine wp_ret ?_
    subst hEq hm
    refine Z0w rfl k e4 ?_
    exact ⟨_, rfl, (OwnT.pick O [0] (by decide) : OwnT _ _ [tRow 38 2 (.slice Bo ((insP x l).length) co) ((insP x l).length) (flatP ((insP x l)))] _).rowBase, O.below⟩
   | false =>
    rw [if_neg (by decide)] at hEq
    subst hEq hm
    refine wp_seq ?_
    refine wp_seq ?_
    refine wp_region_lit ?_
    have hE := Env.refl a83 [46, 47]
    refine sm 46 hE k e6 ?_
    intro a88 hE e46 kp
    refine sd 47 hE k (Z1a rfl e46) ?_
    intro a89 hE e47 kp
    refine wpList_nil ?_
    replace e3 := hE.g e3; replace e5 := hE.g e5
    replace k := k.env hE
    clear hE e0 e6 e7 e12
    refine Z01 ?_
    refine Z0b e47 rfl ?_
    refine wp_region_lit ?_
    have hE := Env.refl a89 [48, 49, 50, 51, 5]
    refine sd 48 hE k (Z04 rfl e5) ?_
    intro a90 hE e48 kp
    replace e5 := kt kp e5
    apply Z03 49 hE k rfl rfl rfl rfl
    case h =>
     have q0 : w11.cell? ⟨xb, 0, none⟩ = some (.int .u64 ↑x.1) := (OwnT.blk O 1 rfl).cell 0
     have q1 : w11.cell? ⟨xb, 1, none⟩ = some (.int .u64 ↑x.2) := (OwnT.blk O 1 rfl).cell 1
     simp [go_sem, ↓IntWalk.iteOmega, ev (hE.g e3), q0, q1]
     with_reducible rfl
    intro a91 hE e49 kp
    replace e5 := kt kp e5; replace e48 := kt kp e48
    refine Z18 (m := 1) (c := 1) O (cs := #[.int .u64 ↑x.1, .int .u64 ↑x.2]) (t := 38) 50 hE k rfl (by rfl) (by rfl) rfl (by simp [go_sem, ↓IntWalk.iteOmega, ev e49]) ?_
    clear O
    intro gn a92 w93 O hE e50 kp
    replace e5 := kt kp e5; replace e48 := kt kp e48
    obtain ⟨gr, cr, w94, hrun, O⟩ := Z1y O elemPr (by decide) rfl (by intro u hu; simp at hu; rcases hu with rfl | rfl <;> rfl) (by unfold maxLen; omega) (by omega)
    apply Z1p 51 hE k rfl (by rfl) (by rfl) rfl
    case h => exact Z15 rfl e48 e50 (hrun _)
    clear hrun
    intro a95 hE e51 kp
    replace e5 := kt kp e5
    refine sd 5 hE k (Z00 rfl e51) ?_
    intro a96 hE e5 kp
    refine wpList_nil ?_
    replace k := k.env hE
    clear hE e3 e47
    refine Z01 (wp_seq ?_)
    refine wp_region_lit ?_
    have hE := Env.refl a96 [52, 4]
    refine sm 52 hE k e5 ?_
    intro a97 hE e52 kp
    refine sd 4 hE k (Z00 rfl e52) ?_
    intro a98 hE e4 kp
    refine wpList_nil ?_
    replace k := k.env hE
    clear hE e5
    refine Z01 ?_
    refine wp_ret ?_
    rw [show flatP E ++ [Value.int .u64 (x.1 : Int), Value.int .u64 (x.2 : Int)] = flatP (insP x E) by rw [Z2u (hlo rfl)]; simp [flatP, pairC], show E.length + 1 = (insP x E).length by rw [Z2u (hlo rfl), List.length_append]; rfl] at O
    refine Z0w rfl k e4 ?_
    exact ⟨_, by rw [show E.length + 1 = (insP x E).length by rw [Z2u (hlo rfl), List.length_append]; rfl], (OwnT.pick O [0] (by decide) : OwnT _ _ [tRow 38 2 (.slice (some ⟨gr, 0, none⟩) ((insP x E).length) cr) ((insP x E).length) (flatP ((insP x E)))] _).rowBase, O.below⟩
set_option maxRecDepth 100000 in
set_option maxHeartbeats 4000000 in
theorem rdrop8 {B : Option Addr} {n cap : Nat} (l : List Pr) (W0 : World) (hl : l.length = n) (hrow : Row W0 B 2 pairC l) (hn : n ≤ 100000) {ky : Nat} : Calls Try.prog 18 #[.slice B n cap, .int .u64 (ky : Nat)] W0 fun e w' => ∃ v', e = .returned (.tuple #[v', .bool (lookP ky l).isSome]) ∧ w'.ownsRow W0.heap.size 38 2 v' (delP ky l).length (flatP (delP ky l)) ∧ Ext W0 w' := by
 have O := OwnT.start W0
 refine Z0e Try.func18 rfl 35 rfl (by rfl) ?_
 intro a1 k hargs
 have e0 : a1.eval (.tmp 0) = .slice B n cap := hargs 0 _ rfl
 have e1 : a1.eval (.tmp 1) = .int .u64 ↑ky := hargs 1 _ rfl
 clear hargs
 refine wp_seq ?_
 refine wp_region_lit ?_
 have hE := Env.refl a1 [4, 5]
 refine sd 4 hE k (Z00 rfl rfl) ?_
 intro a2 hE e4 kp
 refine sd 5 hE k (Z00 rfl rfl) ?_
 intro a3 hE e5 kp
 refine wpList_nil ?_
 replace e0 := hE.g e0; replace e1 := hE.g e1
 replace k := k.env hE
 clear hE e5
 refine Z01 (wp_seq ?_)
 refine wp_region_lit ?_
 have hE := Env.refl a3 [8, 6]
 refine Z18 (m := 0) (c := 0) O (cs := #[]) (t := 38) 8 hE k rfl (by rfl) (by rfl) rfl (by simp [go_sem, ↓IntWalk.iteOmega]) ?_
 clear O
 intro g0 a4 w5 O hE e8 kp
 refine sd 6 hE k (Z00 rfl e8) ?_
 intro a6 hE e6 kp
 refine wpList_nil ?_
 replace e0 := hE.g e0; replace e1 := hE.g e1
 replace k := k.env hE
 clear hE
 refine Z01 ?_
 replace O := OwnT.asRowE (k := 2) O
 refine wp_seq ?_
 refine wp_seq ?_
 refine wp_region_lit ?_
 have hE := Env.refl a6 [7]
 refine sd 7 hE k (Z00 rfl rfl) ?_
 intro a7 hE e7 kp
 refine wpList_nil ?_
 replace e0 := hE.g e0; replace e1 := hE.g e1; replace e6 := hE.g e6
 replace k := k.env hE
 clear hE
 refine Z01 ?_
 refine wp_block ?_
 refine wp_loop (fun a w => Fr 35 a ∧ a.eval (.tmp 0) = .slice B n cap ∧ a.eval (.tmp 1) = .int .u64 ↑ky ∧ ∃ (i : Nat) (E : List Pr) (Bo : Option Addr) (co : Nat), a.eval (.tmp 6) = .slice Bo E.length co ∧ a.eval (.tmp 7) = .int .i64 ↑i ∧ i ≤ n ∧ E = delP ky (l.take i) ∧ OwnT W0.heap.size W0 ([tRow 38 2 (.slice Bo E.length co) E.length (flatP E)]) w) (fun a w => n - (intOf (a.eval (.tmp 7))).toNat) ?_ ?_
 · exact ⟨k, e0, e1, 0, [], some ⟨g0, 0, none⟩, 0, e6, e7, Nat.zero_le _, rfl, O⟩
 intro a8 w9 hI
 clear k e0 e1
 obtain ⟨k, e0, e1, h_⟩ := hI
 clear O e6 e7
 obtain ⟨i, E, Bo, co, e6, e7, hi, hEq, O⟩ := h_
 have mi := e7
 by_cases hlt : i < n
 · have hltI : (i : Int) < (n : Int) := by omega
   obtain ⟨y, hy⟩ : ∃ y, l[i]? = some y := ⟨_, List.getElem?_eq_getElem (by omega)⟩
   have htk : l.take (i + 1) = l.take i ++ [y] := by rw [List.take_add_one, hy]; rfl
   have hEl : E.length ≤ n := by rw [hEq]; have := List.length_filter_le (fun y => decide (y.1 ≠ ky)) (l.take i); rw [List.length_take] at this; unfold delP; omega

   obtain ⟨b, o, rfl, d0, d1⟩ := Z1q hrow O.below hy
   refine wp_seq ?_
   refine wp_seq ?_
   refine wp_region_lit ?_
   have hE := Env.refl a8 [9, 10, 11, 12]
   refine sm 9 hE k e7 ?_
   intro a10 hE e9 kp
   refine sm 10 hE k e0 ?_
   intro a11 hE e10 kp
   replace e9 := kt kp e9
   refine sd 11 hE k (Z0d Try.underlying29 rfl e10) ?_
   intro a12 hE e11 kp
   replace e9 := kt kp e9
   refine sd 12 hE k (Z06 (Z0r rfl e9 e11) (decide_eq_true (by omega))) ?_
   intro a13 hE e12 kp
   refine wpList_nil ?_
   replace e0 := hE.g e0; replace e1 := hE.g e1; replace e6 := hE.g e6; replace e7 := hE.g e7
   replace k := k.env hE
   clear hE
   refine Z01 ?_
   refine Z0b e12 rfl ?_
   refine wp_skip ?_
   refine Z01 (wp_seq ?_)
   refine wp_block ?_
   by_cases hk : y.1 = ky
   · skip
     refine wp_seq ?_
     refine wp_region_lit ?_
     have hE := Env.refl a13 [15, 16, 17, 18, 19, 20, 21]
     refine sm 15 hE k e0 ?_
     intro a14 hE e15 kp
     refine sm 16 hE k e7 ?_
     intro a15 hE e16 kp
     replace e15 := kt kp e15
     apply Z03 17 hE k rfl rfl rfl rfl
     case h =>
      simp [go_sem, ↓IntWalk.iteOmega, ev e15, ev e16]
      with_reducible rfl
     intro a16 hE e17 kp
     apply Z03 18 hE k rfl rfl rfl rfl
     case h =>
      simp [go_sem, ↓IntWalk.iteOmega, ev e17]
      with_reducible rfl
     intro a17 hE e18 kp
     apply Z03 19 hE k rfl rfl rfl rfl
     case h =>
      simp [go_sem, ↓IntWalk.iteOmega, ev e18, d0]
      with_reducible rfl
     intro a18 hE e19 kp
     refine sm 20 hE k e1 ?_
     intro a19 hE e20 kp
     replace e19 := kt kp e19
     refine sd 21 hE k (Z06 (Z0j rfl e19 e20) (decide_eq_false (by omega))) ?_
     intro a20 hE e21 kp
     refine wpList_nil ?_
     replace e0 := hE.g e0; replace e1 := hE.g e1; replace e6 := hE.g e6; replace e7 := hE.g e7
     replace k := k.env hE
     clear hE e12
     refine Z01 ?_
     refine Z08 e21 rfl ?_
     refine wp_skip ?_
     refine Z0f ?_
     refine Z01 ?_
     refine wp_region_lit ?_
     have hE := Env.refl a20 [13, 14, 7]
     refine sd 13 hE k (Z04 rfl e7) ?_
     intro a21 hE e13 kp
     replace e7 := kt kp e7
     refine sd 14 hE k (Z0v rfl e13 rfl (by omega)) ?_
     intro a22 hE e14 kp
     replace e7 := kt kp e7
     refine sd 7 hE k (Z00 rfl e14) ?_
     intro a23 hE e7 kp
     refine wpList_nil ?_
     replace e0 := hE.g e0; replace e1 := hE.g e1; replace e6 := hE.g e6
     replace k := k.env hE
     clear hE e21
     refine Z01 ?_
     refine ⟨⟨k, e0, e1, i + 1, E, Bo, co, e6, e7, by omega, ?_, O⟩, ?_⟩
     · rw [hEq, htk]; unfold delP; rw [List.filter_append, List.filter_cons_of_neg (by simpa using hk)]; simp
     · rw [e7, mi]; simp only [intOf]; omega
   · skip
     refine wp_seq ?_
     refine wp_region_lit ?_
     have hE := Env.refl a13 [15, 16, 17, 18, 19, 20, 21]
     refine sm 15 hE k e0 ?_
     intro a24 hE e15 kp
     refine sm 16 hE k e7 ?_
     intro a25 hE e16 kp
     replace e15 := kt kp e15
     apply Z03 17 hE k rfl rfl rfl rfl
     case h =>
      simp [go_sem, ↓IntWalk.iteOmega, ev e15, ev e16]
      with_reducible rfl
     intro a26 hE e17 kp
     apply Z03 18 hE k rfl rfl rfl rfl
     case h =>
      simp [go_sem, ↓IntWalk.iteOmega, ev e17]
      with_reducible rfl
     intro a27 hE e18 kp
     apply Z03 19 hE k rfl rfl rfl rfl
     case h =>
      simp [go_sem, ↓IntWalk.iteOmega, ev e18, d0]
      with_reducible rfl
     intro a28 hE e19 kp
     refine sm 20 hE k e1 ?_
     intro a29 hE e20 kp
     replace e19 := kt kp e19
     refine sd 21 hE k (Z06 (Z0j rfl e19 e20) (decide_eq_true (by omega))) ?_
     intro a30 hE e21 kp
     refine wpList_nil ?_
     replace e0 := hE.g e0; replace e1 := hE.g e1; replace e6 := hE.g e6; replace e7 := hE.g e7
     replace k := k.env hE
     clear hE e12
     refine Z01 ?_
     refine Z0b e21 rfl ?_
     refine wp_region_lit ?_
     have hE := Env.refl a30 [22, 23, 24, 25, 26, 27, 28, 6]
     refine sd 22 hE k (Z04 rfl e6) ?_
     intro a31 hE e22 kp
     replace e6 := kt kp e6
     refine sm 23 hE k e0 ?_
     intro a32 hE e23 kp
     replace e6 := kt kp e6; replace e22 := kt kp e22
     refine sm 24 hE k e7 ?_
     intro a33 hE e24 kp
     replace e6 := kt kp e6; replace e22 := kt kp e22; replace e23 := kt kp e23
     apply Z03 25 hE k rfl rfl rfl rfl
     case h =>
      simp [go_sem, ↓IntWalk.iteOmega, ev e23, ev e24]
      with_reducible rfl
     intro a34 hE e25 kp
     replace e6 := kt kp e6; replace e22 := kt kp e22
     apply Z03 26 hE k rfl rfl rfl rfl
     case h =>
      simp [go_sem, ↓IntWalk.iteOmega, ev e25, d0, d1]
      with_reducible rfl
     intro a35 hE e26 kp
     replace e6 := kt kp e6; replace e22 := kt kp e22
     refine Z18 (m := 1) (c := 1) O (cs := #[.int .u64 ↑y.1, .int .u64 ↑y.2]) (t := 38) 27 hE k rfl (by rfl) (by rfl) rfl (by simp [go_sem, ↓IntWalk.iteOmega, ev e26]) ?_
     clear O
     intro gn a36 w37 O hE e27 kp
     replace e6 := kt kp e6; replace e22 := kt kp e22
     obtain ⟨gr, cr, w38, hrun, O⟩ := Z1y O elemPr (by decide) rfl (by intro u hu; simp at hu; rcases hu with rfl | rfl <;> rfl) (by unfold maxLen; omega) (by omega)
     apply Z1p 28 hE k rfl (by rfl) (by rfl) rfl
     case h => exact Z15 rfl e22 e27 (hrun _)
     clear hrun
     intro a39 hE e28 kp
     replace e6 := kt kp e6
     refine sd 6 hE k (Z00 rfl e28) ?_
     intro a40 hE e6 kp
     refine wpList_nil ?_
     replace e0 := hE.g e0; replace e1 := hE.g e1; replace e7 := hE.g e7
     replace k := k.env hE
     clear hE e21
     refine Z0f ?_
     refine Z01 ?_
     refine wp_region_lit ?_
     have hE := Env.refl a40 [13, 14, 7]
     refine sd 13 hE k (Z04 rfl e7) ?_
     intro a41 hE e13 kp
     replace e7 := kt kp e7
     refine sd 14 hE k (Z0v rfl e13 rfl (by omega)) ?_
     intro a42 hE e14 kp
     replace e7 := kt kp e7
     refine sd 7 hE k (Z00 rfl e14) ?_
     intro a43 hE e7 kp
     refine wpList_nil ?_
     replace e0 := hE.g e0; replace e1 := hE.g e1; replace e6 := hE.g e6
     replace k := k.env hE
     clear hE
     refine Z01 ?_
     rw [show flatP E ++ [Value.int .u64 (y.1 : Int), Value.int .u64 (y.2 : Int)] = flatP (E ++ [y]) by simp [flatP, pairC], show E.length + 1 = (E ++ [y]).length by simp] at O
     rw [show E.length + 1 = (E ++ [y]).length by simp] at e6
     refine ⟨⟨k, e0, e1, i + 1, E ++ [y], some ⟨gr, 0, none⟩, cr, e6, e7, by omega, ?_, O⟩, ?_⟩
     · rw [hEq, htk]; unfold delP; rw [List.filter_append, List.filter_cons_of_pos (by simpa using hk)]; simp
     · rw [e7, mi]; simp only [intOf]; omega
 · rw [List.take_of_length_le (by omega)] at hEq
   have hlk := del_lt (k := ky) (l := l)
   rw [← hEq] at hlk ⊢
   refine wp_seq ?_
   refine wp_seq ?_
   refine wp_region_lit ?_
   have hE := Env.refl a8 [9, 10, 11, 12]
   refine sm 9 hE k e7 ?_
   intro a44 hE e9 kp
   refine sm 10 hE k e0 ?_
   intro a45 hE e10 kp
   replace e9 := kt kp e9
   refine sd 11 hE k (Z0d Try.underlying29 rfl e10) ?_
   intro a46 hE e11 kp
   replace e9 := kt kp e9
   refine sd 12 hE k (Z06 (Z0r rfl e9 e11) (decide_eq_false (by omega))) ?_
   intro a47 hE e12 kp
   refine wpList_nil ?_
   replace e0 := hE.g e0; replace e1 := hE.g e1; replace e6 := hE.g e6; replace e7 := hE.g e7
   replace k := k.env hE
   clear hE
   refine Z01 ?_
   refine Z08 e12 rfl ?_
   refine wp_exit ?_
   refine Z0q ?_
   refine Z0q ?_
   refine Z13 ?_
   refine Z01 (wp_seq ?_)
   refine wp_region_lit ?_
   have hE := Env.refl a47 [29, 30, 31, 32, 33, 34, 4, 5]
   refine sm 29 hE k e6 ?_
   intro a48 hE e29 kp
   refine sm 30 hE k e6 ?_
   intro a49 hE e30 kp
   replace e29 := kt kp e29
   refine sd 31 hE k (Z0d Try.underlying29 rfl e30) ?_
   intro a50 hE e31 kp
   replace e29 := kt kp e29
   refine sm 32 hE k e0 ?_
   intro a51 hE e32 kp
   replace e29 := kt kp e29; replace e31 := kt kp e31
   refine sd 33 hE k (Z0d Try.underlying29 rfl e32) ?_
   intro a52 hE e33 kp
   replace e29 := kt kp e29; replace e31 := kt kp e31
   refine sd 34 hE k (Z0r rfl e31 e33) ?_
   intro a53 hE e34 kp
   replace e29 := kt kp e29
   replace e34 := e34.trans (congrArg Value.bool (show decide ((E.length : Int) < (n : Int)) = (lookP ky l).isSome by rw [← hlk, hl, decide_eq_decide]; omega))
   refine sd 4 hE k (Z00 rfl e29) ?_
   intro a54 hE e4 kp
   replace e34 := kt kp e34
   refine sd 5 hE k (Z00 rfl e34) ?_
   intro a55 hE e5 kp
   replace e4 := kt kp e4
   refine wpList_nil ?_
   replace k := k.env hE
   clear hE e0 e1 e6 e7 e12
   refine Z01 ?_
   refine wp_ret ?_
   refine Z26 rfl k e4 e5 ?_
   exact ⟨_, rfl, O.rowBase, O.below⟩
set_option maxRecDepth 100000 in
set_option maxHeartbeats 4000000 in
theorem rrange8 {B : Option Addr} {n cap : Nat} (l : List Pr) (W0 : World) (hl : l.length = n) (hrow : Row W0 B 2 pairC l) (hn : n ≤ 100000) {lo up : Nat} : Calls Try.prog 20 #[.slice B n cap, .int .u64 (lo : Nat), .int .u64 (up : Nat)] W0 fun e w' => ∃ v', e = .returned v' ∧ w'.ownsRow W0.heap.size 38 2 v' (cutP lo up l).length (flatP (cutP lo up l)) ∧ Ext W0 w' := by
 have O := OwnT.start W0
 refine Z0e Try.func20 rfl 40 rfl (by rfl) ?_
 intro a1 k hargs
 have e0 : a1.eval (.tmp 0) = .slice B n cap := hargs 0 _ rfl
 have e1 : a1.eval (.tmp 1) = .int .u64 ↑lo := hargs 1 _ rfl
 have e2 : a1.eval (.tmp 2) = .int .u64 ↑up := hargs 2 _ rfl
 clear hargs
 refine wp_seq ?_
 refine wp_region_lit ?_
 have hE := Env.refl a1 [6]
 refine sd 6 hE k (Z00 rfl rfl) ?_
 intro a2 hE e6 kp
 refine wpList_nil ?_
 replace e0 := hE.g e0; replace e1 := hE.g e1; replace e2 := hE.g e2
 replace k := k.env hE
 clear hE e6
 refine Z01 (wp_seq ?_)
 refine wp_region_lit ?_
 have hE := Env.refl a2 [9, 7]
 refine Z18 (m := 0) (c := 0) O (cs := #[]) (t := 38) 9 hE k rfl (by rfl) (by rfl) rfl (by simp [go_sem, ↓IntWalk.iteOmega]) ?_
 clear O
 intro g0 a3 w4 O hE e9 kp
 refine sd 7 hE k (Z00 rfl e9) ?_
 intro a5 hE e7 kp
 refine wpList_nil ?_
 replace e0 := hE.g e0; replace e1 := hE.g e1; replace e2 := hE.g e2
 replace k := k.env hE
 clear hE
 refine Z01 ?_
 replace O := OwnT.asRowE (k := 2) O
 refine wp_seq ?_
 refine wp_seq ?_
 refine wp_region_lit ?_
 have hE := Env.refl a5 [8]
 refine sd 8 hE k (Z00 rfl rfl) ?_
 intro a6 hE e8 kp
 refine wpList_nil ?_
 replace e0 := hE.g e0; replace e1 := hE.g e1; replace e2 := hE.g e2; replace e7 := hE.g e7
 replace k := k.env hE
 clear hE
 refine Z01 ?_
 refine wp_block ?_
 refine wp_loop (fun a w => Fr 40 a ∧ a.eval (.tmp 0) = .slice B n cap ∧ a.eval (.tmp 1) = .int .u64 ↑lo ∧ a.eval (.tmp 2) = .int .u64 ↑up ∧ ∃ (i : Nat) (E : List Pr) (Bo : Option Addr) (co : Nat), a.eval (.tmp 7) = .slice Bo E.length co ∧ a.eval (.tmp 8) = .int .i64 ↑i ∧ i ≤ n ∧ E = cutP lo up (l.take i) ∧ OwnT W0.heap.size W0 ([tRow 38 2 (.slice Bo E.length co) E.length (flatP E)]) w) (fun a w => n - (intOf (a.eval (.tmp 8))).toNat) ?_ ?_
 · exact ⟨k, e0, e1, e2, 0, [], some ⟨g0, 0, none⟩, 0, e7, e8, Nat.zero_le _, rfl, O⟩
 intro a7 w8 hI
 clear k e0 e1 e2
 obtain ⟨k, e0, e1, e2, h_⟩ := hI
 clear O e7 e8
 obtain ⟨i, E, Bo, co, e7, e8, hi, hEq, O⟩ := h_
 have mi := e8
 by_cases hlt : i < n
 · have hltI : (i : Int) < (n : Int) := by omega
   obtain ⟨y, hy⟩ : ∃ y, l[i]? = some y := ⟨_, List.getElem?_eq_getElem (by omega)⟩
   have htk : l.take (i + 1) = l.take i ++ [y] := by rw [List.take_add_one, hy]; rfl
   have hEl : E.length ≤ n := by rw [hEq]; have := List.length_filter_le (fun y => decide (lo ≤ y.1) && decide (y.1 ≤ up)) (l.take i); rw [List.length_take] at this; unfold cutP; omega

   obtain ⟨b, o, rfl, d0, d1⟩ := Z1q hrow O.below hy
   refine wp_seq ?_
   refine wp_seq ?_
   refine wp_region_lit ?_
   have hE := Env.refl a7 [10, 11, 12, 13]
   refine sm 10 hE k e8 ?_
   intro a9 hE e10 kp
   refine sm 11 hE k e0 ?_
   intro a10 hE e11 kp
   replace e10 := kt kp e10
   refine sd 12 hE k (Z0d Try.underlying29 rfl e11) ?_
   intro a11 hE e12 kp
   replace e10 := kt kp e10
   refine sd 13 hE k (Z06 (Z0r rfl e10 e12) (decide_eq_true (by omega))) ?_
   intro a12 hE e13 kp
   refine wpList_nil ?_
   replace e0 := hE.g e0; replace e1 := hE.g e1; replace e2 := hE.g e2; replace e7 := hE.g e7; replace e8 := hE.g e8
   replace k := k.env hE
   clear hE
   refine Z01 ?_
   refine Z0b e13 rfl ?_
   refine wp_skip ?_
   refine Z01 (wp_seq ?_)
   refine wp_block ?_
   by_cases hk : lo ≤ y.1 ∧ y.1 ≤ up
   · skip
     refine wp_seq ?_
     refine wp_region_lit ?_
     have hE := Env.refl a12 [16, 17, 18, 19, 20, 21, 22, 23, 24, 25, 26, 27, 28, 29, 30, 31]
     refine sm 16 hE k e0 ?_
     intro a13 hE e16 kp
     refine sm 17 hE k e8 ?_
     intro a14 hE e17 kp
     replace e16 := kt kp e16
     apply Z03 18 hE k rfl rfl rfl rfl
     case h =>
      simp [go_sem, ↓IntWalk.iteOmega, ev e16, ev e17]
      with_reducible rfl
     intro a15 hE e18 kp
     apply Z03 19 hE k rfl rfl rfl rfl
     case h =>
      simp [go_sem, ↓IntWalk.iteOmega, ev e18]
      with_reducible rfl
     intro a16 hE e19 kp
     apply Z03 20 hE k rfl rfl rfl rfl
     case h =>
      simp [go_sem, ↓IntWalk.iteOmega, ev e19, d0]
      with_reducible rfl
     intro a17 hE e20 kp
     refine sm 21 hE k e1 ?_
     intro a18 hE e21 kp
     replace e20 := kt kp e20
     refine sd 22 hE k (Z06 (Z29 rfl e20 e21) (decide_eq_true (by omega))) ?_
     intro a19 hE e22 kp
     refine sd 23 hE k (Z04 rfl e22) ?_
     intro a20 hE e23 kp
     apply Z02 24 hE k rfl rfl rfl rfl rfl e23
     case h =>
      exact Z04 rfl (hE.g e0)
     intro a21 hE e24 kp
     replace e23 := kt kp e23
     apply Z02 25 hE k rfl rfl rfl rfl rfl e23
     case h =>
      exact Z04 rfl (hE.g e8)
     intro a22 hE e25 kp
     replace e23 := kt kp e23; replace e24 := kt kp e24
     apply Z02 26 hE k rfl rfl rfl rfl rfl e23
     case h =>
      simp [go_sem, ↓IntWalk.iteOmega, ev e24, ev e25]
      with_reducible rfl
     intro a23 hE e26 kp
     replace e23 := kt kp e23
     apply Z02 27 hE k rfl rfl rfl rfl rfl e23
     case h =>
      simp [go_sem, ↓IntWalk.iteOmega, ev e26]
      with_reducible rfl
     intro a24 hE e27 kp
     replace e23 := kt kp e23
     apply Z02 28 hE k rfl rfl rfl rfl rfl e23
     case h =>
      simp [go_sem, ↓IntWalk.iteOmega, ev e27, d0]
      with_reducible rfl
     intro a25 hE e28 kp
     replace e23 := kt kp e23
     apply Z02 29 hE k rfl rfl rfl rfl rfl e23
     case h =>
      exact Z04 rfl (hE.g e2)
     intro a26 hE e29 kp
     replace e23 := kt kp e23; replace e28 := kt kp e28
     apply Z02 30 hE k rfl rfl rfl rfl rfl e23
     case h =>
      exact Z06 (Z7e rfl e28 e29) (decide_eq_true (by omega))
     intro a27 hE e30 kp
     replace e23 := kt kp e23
     refine sd 31 hE k (Z0a rfl e23 e30) ?_
     intro a28 hE e31 kp
     refine wpList_nil ?_
     replace e0 := hE.g e0; replace e1 := hE.g e1; replace e2 := hE.g e2; replace e7 := hE.g e7; replace e8 := hE.g e8
     replace k := k.env hE
     clear hE e13
     refine Z01 ?_
     refine Z0b e31 rfl ?_
     refine wp_region_lit ?_
     have hE := Env.refl a28 [32, 33, 34, 35, 36, 37, 38, 7]
     refine sd 32 hE k (Z04 rfl e7) ?_
     intro a29 hE e32 kp
     replace e7 := kt kp e7
     refine sm 33 hE k e0 ?_
     intro a30 hE e33 kp
     replace e7 := kt kp e7; replace e32 := kt kp e32
     refine sm 34 hE k e8 ?_
     intro a31 hE e34 kp
     replace e7 := kt kp e7; replace e32 := kt kp e32; replace e33 := kt kp e33
     apply Z03 35 hE k rfl rfl rfl rfl
     case h =>
      simp [go_sem, ↓IntWalk.iteOmega, ev e33, ev e34]
      with_reducible rfl
     intro a32 hE e35 kp
     replace e7 := kt kp e7; replace e32 := kt kp e32
     apply Z03 36 hE k rfl rfl rfl rfl
     case h =>
      simp [go_sem, ↓IntWalk.iteOmega, ev e35, d0, d1]
      with_reducible rfl
     intro a33 hE e36 kp
     replace e7 := kt kp e7; replace e32 := kt kp e32
     refine Z18 (m := 1) (c := 1) O (cs := #[.int .u64 ↑y.1, .int .u64 ↑y.2]) (t := 38) 37 hE k rfl (by rfl) (by rfl) rfl (by simp [go_sem, ↓IntWalk.iteOmega, ev e36]) ?_
     clear O
     intro gn a34 w35 O hE e37 kp
     replace e7 := kt kp e7; replace e32 := kt kp e32
     obtain ⟨gr, cr, w36, hrun, O⟩ := Z1y O elemPr (by decide) rfl (by intro u hu; simp at hu; rcases hu with rfl | rfl <;> rfl) (by unfold maxLen; omega) (by omega)
     apply Z1p 38 hE k rfl (by rfl) (by rfl) rfl
     case h => exact Z15 rfl e32 e37 (hrun _)
     clear hrun
     intro a37 hE e38 kp
     replace e7 := kt kp e7
     refine sd 7 hE k (Z00 rfl e38) ?_
     intro a38 hE e7 kp
     refine wpList_nil ?_
     replace e0 := hE.g e0; replace e1 := hE.g e1; replace e2 := hE.g e2; replace e8 := hE.g e8
     replace k := k.env hE
     clear hE e31
     refine Z0f ?_
     refine Z01 ?_
     refine wp_region_lit ?_
     have hE := Env.refl a38 [14, 15, 8]
     refine sd 14 hE k (Z04 rfl e8) ?_
     intro a39 hE e14 kp
     replace e8 := kt kp e8
     refine sd 15 hE k (Z0v rfl e14 rfl (by omega)) ?_
     intro a40 hE e15 kp
     replace e8 := kt kp e8
     refine sd 8 hE k (Z00 rfl e15) ?_
     intro a41 hE e8 kp
     refine wpList_nil ?_
     replace e0 := hE.g e0; replace e1 := hE.g e1; replace e2 := hE.g e2; replace e7 := hE.g e7
     replace k := k.env hE
     clear hE
     refine Z01 ?_
     rw [show flatP E ++ [Value.int .u64 (y.1 : Int), Value.int .u64 (y.2 : Int)] = flatP (E ++ [y]) by simp [flatP, pairC], show E.length + 1 = (E ++ [y]).length by simp] at O
     rw [show E.length + 1 = (E ++ [y]).length by simp] at e7
     refine ⟨⟨k, e0, e1, e2, i + 1, E ++ [y], some ⟨gr, 0, none⟩, cr, e7, e8, by omega, ?_, O⟩, ?_⟩
     · rw [hEq, htk]; unfold cutP; rw [List.filter_append, List.filter_cons_of_pos (by simpa using hk)]; simp
     · rw [e8, mi]; simp only [intOf]; omega
   · skip
     by_cases h1 : lo ≤ y.1
     · have h2 : ¬ y.1 ≤ up := fun h => hk ⟨h1, h⟩
       refine wp_seq ?_
       refine wp_region_lit ?_
       have hE := Env.refl a12 [16, 17, 18, 19, 20, 21, 22, 23, 24, 25, 26, 27, 28, 29, 30, 31]
       refine sm 16 hE k e0 ?_
       intro a42 hE e16 kp
       refine sm 17 hE k e8 ?_
       intro a43 hE e17 kp
       replace e16 := kt kp e16
       apply Z03 18 hE k rfl rfl rfl rfl
       case h =>
        simp [go_sem, ↓IntWalk.iteOmega, ev e16, ev e17]
        with_reducible rfl
       intro a44 hE e18 kp
       apply Z03 19 hE k rfl rfl rfl rfl
       case h =>
        simp [go_sem, ↓IntWalk.iteOmega, ev e18]
        with_reducible rfl
       intro a45 hE e19 kp
       apply Z03 20 hE k rfl rfl rfl rfl
       case h =>
        simp [go_sem, ↓IntWalk.iteOmega, ev e19, d0]
        with_reducible rfl
       intro a46 hE e20 kp
       refine sm 21 hE k e1 ?_
       intro a47 hE e21 kp
       replace e20 := kt kp e20
       refine sd 22 hE k (Z06 (Z29 rfl e20 e21) (decide_eq_true (by omega))) ?_
       intro a48 hE e22 kp
       refine sd 23 hE k (Z04 rfl e22) ?_
       intro a49 hE e23 kp
       apply Z02 24 hE k rfl rfl rfl rfl rfl e23
       case h =>
        exact Z04 rfl (hE.g e0)
       intro a50 hE e24 kp
       replace e23 := kt kp e23
       apply Z02 25 hE k rfl rfl rfl rfl rfl e23
       case h =>
        exact Z04 rfl (hE.g e8)
       intro a51 hE e25 kp
       replace e23 := kt kp e23; replace e24 := kt kp e24
       apply Z02 26 hE k rfl rfl rfl rfl rfl e23
       case h =>
        simp [go_sem, ↓IntWalk.iteOmega, ev e24, ev e25]
        with_reducible rfl
       intro a52 hE e26 kp
       replace e23 := kt kp e23
       apply Z02 27 hE k rfl rfl rfl rfl rfl e23
       case h =>
        simp [go_sem, ↓IntWalk.iteOmega, ev e26]
        with_reducible rfl
       intro a53 hE e27 kp
       replace e23 := kt kp e23
       apply Z02 28 hE k rfl rfl rfl rfl rfl e23
       case h =>
        simp [go_sem, ↓IntWalk.iteOmega, ev e27, d0]
        with_reducible rfl
       intro a54 hE e28 kp
       replace e23 := kt kp e23
       apply Z02 29 hE k rfl rfl rfl rfl rfl e23
       case h =>
        exact Z04 rfl (hE.g e2)
       intro a55 hE e29 kp
       replace e23 := kt kp e23; replace e28 := kt kp e28
       apply Z02 30 hE k rfl rfl rfl rfl rfl e23
       case h =>
        exact Z06 (Z7e rfl e28 e29) (decide_eq_false (by omega))
       intro a56 hE e30 kp
       replace e23 := kt kp e23
       refine sd 31 hE k (Z0a rfl e23 e30) ?_
       intro a57 hE e31 kp
       refine wpList_nil ?_
       replace e0 := hE.g e0; replace e1 := hE.g e1; replace e2 := hE.g e2; replace e7 := hE.g e7; replace e8 := hE.g e8
       replace k := k.env hE
       clear hE e13
       refine Z01 ?_
       refine Z08 e31 rfl ?_
       refine wp_skip ?_
       refine Z0f ?_
       refine Z01 ?_
       refine wp_region_lit ?_
       have hE := Env.refl a57 [14, 15, 8]
       refine sd 14 hE k (Z04 rfl e8) ?_
       intro a58 hE e14 kp
       replace e8 := kt kp e8
       refine sd 15 hE k (Z0v rfl e14 rfl (by omega)) ?_
       intro a59 hE e15 kp
       replace e8 := kt kp e8
       refine sd 8 hE k (Z00 rfl e15) ?_
       intro a60 hE e8 kp
       refine wpList_nil ?_
       replace e0 := hE.g e0; replace e1 := hE.g e1; replace e2 := hE.g e2; replace e7 := hE.g e7
       replace k := k.env hE
       clear hE e31
       refine Z01 ?_
       refine ⟨⟨k, e0, e1, e2, i + 1, E, Bo, co, e7, e8, by omega, ?_, O⟩, ?_⟩
       · rw [hEq, htk]; unfold cutP; rw [List.filter_append, List.filter_cons_of_neg (by simp; omega)]; simp
       · rw [e8, mi]; simp only [intOf]; omega
     · skip
       refine wp_seq ?_
       refine wp_region_lit ?_
       have hE := Env.refl a12 [16, 17, 18, 19, 20, 21, 22, 23, 24, 25, 26, 27, 28, 29, 30, 31]
       refine sm 16 hE k e0 ?_
       intro a61 hE e16 kp
       refine sm 17 hE k e8 ?_
       intro a62 hE e17 kp
       replace e16 := kt kp e16
       apply Z03 18 hE k rfl rfl rfl rfl
       case h =>
        simp [go_sem, ↓IntWalk.iteOmega, ev e16, ev e17]
        with_reducible rfl
       intro a63 hE e18 kp
       apply Z03 19 hE k rfl rfl rfl rfl
       case h =>
        simp [go_sem, ↓IntWalk.iteOmega, ev e18]
        with_reducible rfl
       intro a64 hE e19 kp
       apply Z03 20 hE k rfl rfl rfl rfl
       case h =>
        simp [go_sem, ↓IntWalk.iteOmega, ev e19, d0]
        with_reducible rfl
       intro a65 hE e20 kp
       refine sm 21 hE k e1 ?_
       intro a66 hE e21 kp
       replace e20 := kt kp e20
       refine sd 22 hE k (Z06 (Z29 rfl e20 e21) (decide_eq_false (by omega))) ?_
       intro a67 hE e22 kp
       refine sd 23 hE k (Z04 rfl e22) ?_
       intro a68 hE e23 kp
       refine Z07 24 hE k rfl (by rfl) (by rfl) rfl rfl (.inl e23) ?_
       intro a69 hE e24 kp
       replace e23 := kt kp e23
       refine Z07 25 hE k rfl (by rfl) (by rfl) rfl rfl (.inl e23) ?_
       intro a70 hE e25 kp
       replace e23 := kt kp e23; replace e24 := kt kp e24
       refine Z07 26 hE k rfl (by rfl) (by rfl) rfl rfl (.inl e23) ?_
       intro a71 hE e26 kp
       replace e23 := kt kp e23
       refine Z07 27 hE k rfl (by rfl) (by rfl) rfl rfl (.inl e23) ?_
       intro a72 hE e27 kp
       replace e23 := kt kp e23
       refine Z07 28 hE k rfl (by rfl) (by rfl) rfl rfl (.inl e23) ?_
       intro a73 hE e28 kp
       replace e23 := kt kp e23
       refine Z07 29 hE k rfl (by rfl) (by rfl) rfl rfl (.inl e23) ?_
       intro a74 hE e29 kp
       replace e23 := kt kp e23; replace e28 := kt kp e28
       refine Z07 30 hE k rfl (by rfl) (by rfl) rfl rfl (.inl e23) ?_
       intro a75 hE e30 kp
       replace e23 := kt kp e23
       refine sd 31 hE k (Z05 rfl e23 rfl) ?_
       intro a76 hE e31 kp
       refine wpList_nil ?_
       replace e0 := hE.g e0; replace e1 := hE.g e1; replace e2 := hE.g e2; replace e7 := hE.g e7; replace e8 := hE.g e8
       replace k := k.env hE
       clear hE e13
       refine Z01 ?_
       refine Z08 e31 rfl ?_
       refine wp_skip ?_
       refine Z0f ?_
       refine Z01 ?_
       refine wp_region_lit ?_
       have hE := Env.refl a76 [14, 15, 8]
       refine sd 14 hE k (Z04 rfl e8) ?_
       intro a77 hE e14 kp
       replace e8 := kt kp e8
       refine sd 15 hE k (Z0v rfl e14 rfl (by omega)) ?_
       intro a78 hE e15 kp
       replace e8 := kt kp e8
       refine sd 8 hE k (Z00 rfl e15) ?_
       intro a79 hE e8 kp
       refine wpList_nil ?_
       replace e0 := hE.g e0; replace e1 := hE.g e1; replace e2 := hE.g e2; replace e7 := hE.g e7
       replace k := k.env hE
       clear hE e31
       refine Z01 ?_
       refine ⟨⟨k, e0, e1, e2, i + 1, E, Bo, co, e7, e8, by omega, ?_, O⟩, ?_⟩
       · rw [hEq, htk]; unfold cutP; rw [List.filter_append, List.filter_cons_of_neg (by simp; omega)]; simp
       · rw [e8, mi]; simp only [intOf]; omega
 · rw [List.take_of_length_le (by omega)] at hEq
   rw [← hEq]
   refine wp_seq ?_
   refine wp_seq ?_
   refine wp_region_lit ?_
   have hE := Env.refl a7 [10, 11, 12, 13]
   refine sm 10 hE k e8 ?_
   intro a80 hE e10 kp
   refine sm 11 hE k e0 ?_
   intro a81 hE e11 kp
   replace e10 := kt kp e10
   refine sd 12 hE k (Z0d Try.underlying29 rfl e11) ?_
   intro a82 hE e12 kp
   replace e10 := kt kp e10
   refine sd 13 hE k (Z06 (Z0r rfl e10 e12) (decide_eq_false (by omega))) ?_
   intro a83 hE e13 kp
   refine wpList_nil ?_
   replace e0 := hE.g e0; replace e1 := hE.g e1; replace e2 := hE.g e2; replace e7 := hE.g e7; replace e8 := hE.g e8
   replace k := k.env hE
   clear hE
   refine Z01 ?_
   refine Z08 e13 rfl ?_
   refine wp_exit ?_
   refine Z0q ?_
   refine Z0q ?_
   refine Z13 ?_
   refine Z01 (wp_seq ?_)
   refine wp_region_lit ?_
   have hE := Env.refl a83 [39, 6]
   refine sm 39 hE k e7 ?_
   intro a84 hE e39 kp
   refine sd 6 hE k (Z00 rfl e39) ?_
   intro a85 hE e6 kp
   refine wpList_nil ?_
   replace k := k.env hE
   clear hE e0 e1 e2 e7 e8 e13
   refine Z01 ?_
   refine wp_ret ?_
   refine Z0w rfl k e6 ?_
   exact ⟨_, rfl, O.rowBase, O.below⟩
end Go.Proofs.Ytngehbhhpkkijaa
