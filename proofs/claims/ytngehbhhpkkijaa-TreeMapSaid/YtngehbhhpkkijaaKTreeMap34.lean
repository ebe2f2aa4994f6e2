/- trees' reference: Look; rows of pairs as things (printed by XTrLp.gen.py). -/
import Derived.Test.YtngehbhhpkkijaaKTreeMap33
namespace Go.Proofs.Ytngehbhhpkkijaa
attribute [local simp] BigFrame.eval_const BigFrame.eval_global BigFrame.eval_func
set_option linter.unusedVariables false
set_option linter.unusedSimpArgs false
open Go.RowKit Go.Maps

theorem put8 {H : Nat} {A0 : World} {R : List Thing} {B : Option Addr} {cap : Nat} {x : Pr} {P : List Pr} (w : World) (O : OwnT H A0 R w) (hU : (tPs (.slice B P.length cap) P).holds w) (hu : Up P) (hn : P.length ≤ 100000) :
 Calls Try.prog 16 #[.slice B P.length cap, .agg #[.int .u64 (x.1 : Nat), .int .u64 (x.2 : Nat)]] w fun e w' => ∃ B' c', e = .returned (.slice B' (insP x P).length c') ∧ OwnT H A0 (tPs (.slice B' (insP x P).length c') (insP x P) :: R) w' := by
 obtain ⟨_, _, e1, -, -, hrow, -⟩ := Z0n hU
 injection e1 with e1 _ e3
 subst e1 e3
 refine (rput8 P w rfl hrow hn hu).mono ?_
 rintro e w' ⟨v', rfl, h1, h2⟩
 have O2 := O.newRow h2 h1
 obtain ⟨B', c', rfl⟩ := Z20 (OwnT.t0 O2 : World.ownsRow _ 0 38 2 v' _ _)
 exact ⟨B', c', rfl, O2⟩
theorem drop8 {H : Nat} {A0 : World} {R : List Thing} {B : Option Addr} {cap ky : Nat} {P : List Pr} {has : Bool} (w : World) (O : OwnT H A0 R w) (hU : (tPs (.slice B P.length cap) P).holds w) (hh : (lookP ky P).isSome = has) (hn : P.length ≤ 100000) :
 Calls Try.prog 18 #[.slice B P.length cap, .int .u64 (ky : Nat)] w fun e w' => ∃ B' c', e = .returned (.tuple #[.slice B' (delP ky P).length c', .bool has]) ∧ OwnT H A0 (tPs (.slice B' (delP ky P).length c') (delP ky P) :: R) w' := by
 subst hh
 obtain ⟨_, _, e1, -, -, hrow, -⟩ := Z0n hU
 injection e1 with e1 _ e3
 subst e1 e3
 refine (rdrop8 P w rfl hrow hn).mono ?_
 rintro e w' ⟨v', rfl, h1, h2⟩
 have O2 := O.newRow h2 h1
 obtain ⟨B', c', rfl⟩ := Z20 (OwnT.t0 O2 : World.ownsRow _ 0 38 2 v' _ _)
 exact ⟨B', c', rfl, O2⟩
theorem range8 {H : Nat} {A0 : World} {R : List Thing} {B : Option Addr} {cap lo up : Nat} {P Q : List Pr} (w : World) (O : OwnT H A0 R w) (hU : (tPs (.slice B P.length cap) P).holds w) (hQ : cutP lo up P = Q) (hn : P.length ≤ 100000) :
 Calls Try.prog 20 #[.slice B P.length cap, .int .u64 (lo : Nat), .int .u64 (up : Nat)] w fun e w' => ∃ B' c', e = .returned (.slice B' Q.length c') ∧ OwnT H A0 (tPs (.slice B' Q.length c') Q :: R) w' := by
 subst hQ
 obtain ⟨_, _, e1, -, -, hrow, -⟩ := Z0n hU
 injection e1 with e1 _ e3
 subst e1 e3
 refine (rrange8 P w rfl hrow hn).mono ?_
 rintro e w' ⟨v', rfl, h1, h2⟩
 have O2 := O.newRow h2 h1
 obtain ⟨B', c', rfl⟩ := Z20 (OwnT.t0 O2 : World.ownsRow _ 0 38 2 v' _ _)
 exact ⟨B', c', rfl, O2⟩
/-- What stands at one key. -/
theorem Z56 {k : Nat} : ∀ {P : List Pr}, Up P → cutP k k P = (match lookP k P with | some v => [(k, v)] | none => [])
 | [], _ => rfl
 | a :: P, hu => by
  have h := List.pairwise_cons.1 hu
  unfold cutP lookP
  by_cases e : a.1 = k
  · subst e
    rw [List.filter_cons_of_pos (by simp), List.find?_cons_of_pos (by simp), Z1x (fun y hy => by have := h.1 y hy; simp; omega)]
    rfl
  · have ih := Z56 (k := k) h.2
    unfold cutP lookP at ih
    rw [List.filter_cons_of_neg (by simp; omega), List.find?_cons_of_neg (by simpa using e)]
    exact ih
theorem cut_yes {k z : Nat} {P : List Pr} (hu : Up P) (h : (lookP k P).isSome = true) (hz : (lookP k P).getD 0 = z) : cutP k k P = [(k, z)] := by
 rw [Z56 hu]
 cases e : lookP k P with
 | none => rw [e] at h; cases h
 | some v => rw [e] at hz; obtain rfl : v = z := hz; rfl
theorem cut_no {k : Nat} {P : List Pr} (hu : Up P) (h : (lookP k P).isSome = false) : cutP k k P = [] ∧ (lookP k P).getD 0 = 0 := by
 rw [Z56 hu]
 cases e : lookP k P with
 | none => exact ⟨rfl, rfl⟩
 | some v => rw [e] at h; cases h
theorem ps_some {w : World} {B : Option Addr} {cap : Nat} {Q : List Pr} (h : (tPs (.slice B Q.length cap) Q).holds w) (hx : 0 < Q.length) : ∃ g, B = some ⟨g, 0, none⟩ ∧ Row w B 2 pairC Q := by
 obtain ⟨B', c', e, _, _, h4, _⟩ := Z0n h
 obtain ⟨g, c2, _, e2, _⟩ := Z11 (h : World.ownsRow _ 0 38 2 _ Q.length _) hx
 injection e with e
 injection e2 with e2
 subst e
 exact ⟨g, e2, h4⟩

set_option maxRecDepth 100000 in
set_option maxHeartbeats 4000000 in
theorem rLook {H : Nat} {A0 : World} {R : List Thing} {sb cap : Nat} {room : Int} {B : Option Addr} {vs : List Value} {N : List Nd} {root m : Nat} {L : List (List Pr)} {g : List Nat} {P : List Pr} (w : World) (O : OwnT H A0 (shT sb room B cap vs N R) w) (hRT : RT m N root L g) (hP : L.flatten = P) (h7 : m ≤ 7) (hN : N.length ≤ 511) (hgl : g.length ≤ 600) (hpl : P.length ≤ 100000) : Calls Try.prog 23 #[.slice B N.length cap, .int .i64 root] w fun e w' => ∃ gw cp cq P1 Q1, e = .returned (.pointer (some ⟨gw, 0, none⟩)) ∧ OwnT H A0 (shT sb room B cap vs N (tTe gw cp cq P1 Q1 g P R)) w' := by
 subst hP
 refine Z0e Try.func23 rfl 15 rfl (by rfl) ?_
 intro a1 k hargs
 have e0 : a1.eval (.tmp 0) = .slice B N.length cap := hargs 0 _ rfl
 have e1 : a1.eval (.tmp 1) = .int .i64 ↑root := hargs 1 _ rfl
 clear hargs
 refine wp_seq ?_
 refine wp_region_lit ?_
 have hE := Env.refl a1 [4]
 refine sd 4 hE k (Z00 rfl rfl) ?_
 intro a2 hE e4 kp
 refine wpList_nil ?_
 replace e0 := hE.g e0; replace e1 := hE.g e1
 replace k := k.env hE
 clear hE e4
 refine Z01 (wp_seq ?_)
 refine wp_region_lit ?_
 have hE := Env.refl a2 [6, 7, 5]
 apply Z03 6 hE k rfl rfl rfl rfl
 case h =>
  simp [go_sem, ↓IntWalk.iteOmega]
  with_reducible rfl
 intro a3 hE e6 kp
 refine Z0m O (cs := #[.slice none 0 0, .slice none 0 0, .bool false]) (t := 53) 7 hE k rfl (by rfl) (by rfl) rfl (by simp [go_sem, ↓IntWalk.iteOmega, ev e6]) ?_
 clear O
 intro gw a4 w5 O hE e7 kp
 refine sd 5 hE k (Z00 rfl e7) ?_
 intro a6 hE e5 kp
 refine wpList_nil ?_
 replace e0 := hE.g e0; replace e1 := hE.g e1
 replace k := k.env hE
 clear hE
 refine Z01 ?_
 replace O := OwnT.nilRow (OwnT.nilRow O 38 2) 3 1
 replace O : OwnT _ _ ((tRow 3 1 (.slice none (([] : List Nat)).length 0) (([] : List Nat)).length ((([] : List Nat)).flatMap encN)) :: (tPs (.slice none (([] : List Pr)).length 0) (([] : List Pr))) :: (tBlk gw 53 #[.slice none ((([] : List Nat)).length) 0, .slice none ((([] : List Pr)).length) 0, .bool false]) :: (tBlk sb 28 #[.slice B N.length cap, .int .i64 room]) :: (tRow 125 2 (.slice B N.length cap) N.length (leafV vs N)) :: (tPool vs N) :: R) w5 := O
 replace O : OwnT _ _ ((tBlk sb 28 #[.slice B N.length cap, .int .i64 room]) :: (tRow 125 2 (.slice B N.length cap) N.length (leafV vs N)) :: (tPool vs N) :: (tBlk gw 53 #[.slice none ((([] : List Nat)).length) 0, .slice none ((([] : List Pr)).length) 0, .bool false]) :: (tRow 3 1 (.slice none (([] : List Nat)).length 0) (([] : List Nat)).length ((([] : List Nat)).flatMap encN)) :: (tPs (.slice none (([] : List Pr)).length 0) (([] : List Pr))) :: R) w5 := OwnT.pickR (L := [_, _, _, _, _, _]) (R := R) O [3, 4, 5, 2, 0, 1] (by decide)
 rcases hRT.rt with ⟨hr, hL, hg⟩ | ⟨l, hlm, hT, h2⟩
 · skip
   subst hL hg
   refine wp_seq ?_
   refine wp_seq ?_
   refine wp_region_lit ?_
   have hE := Env.refl a6 [8, 9]
   refine sm 8 hE k e1 ?_
   intro a7 hE e8 kp
   refine sd 9 hE k (Z06 (Z0j rfl e8 rfl) (decide_eq_false (by omega))) ?_
   intro a8 hE e9 kp
   refine wpList_nil ?_
   replace e0 := hE.g e0; replace e1 := hE.g e1; replace e5 := hE.g e5
   replace k := k.env hE
   clear hE
   refine Z01 ?_
   refine Z08 e9 rfl ?_
   refine wp_skip ?_
   refine Z01 (wp_seq ?_)
   refine wp_region_lit ?_
   have hE := Env.refl a8 [14, 4]
   refine sm 14 hE k e5 ?_
   intro a9 hE e14 kp
   refine sd 4 hE k (Z00 rfl e14) ?_
   intro a10 hE e4 kp
   refine wpList_nil ?_
   replace k := k.env hE
   clear hE e0 e1 e5 e9
   refine Z01 ?_
   refine wp_ret ?_
   refine Z0w rfl k e4 ?_
   exact ⟨gw, 0, 0, none, none, rfl, O⟩
 · have hr : root ≠ 0 := by obtain ⟨r, e⟩ := Tr.one hT; have := (Tr.pages hT root (by rw [e]; simp)).1; omega
   refine wp_seq ?_
   refine wp_seq ?_
   refine wp_region_lit ?_
   have hE := Env.refl a6 [8, 9]
   refine sm 8 hE k e1 ?_
   intro a11 hE e8 kp
   refine sd 9 hE k (Z06 (Z0j rfl e8 rfl) (decide_eq_true (by omega))) ?_
   intro a12 hE e9 kp
   refine wpList_nil ?_
   replace e0 := hE.g e0; replace e1 := hE.g e1; replace e5 := hE.g e5
   replace k := k.env hE
   clear hE
   refine Z01 ?_
   refine Z0b e9 rfl ?_
   refine wp_region_lit ?_
   have hE := Env.refl a12 [10, 11, 12, 13]
   refine sm 10 hE k e5 ?_
   intro a13 hE e10 kp
   refine sm 11 hE k e0 ?_
   intro a14 hE e11 kp
   replace e10 := kt kp e10
   refine sm 12 hE k e1 ?_
   intro a15 hE e12 kp
   replace e10 := kt kp e10; replace e11 := kt kp e11
   apply Z09 13 hE k rfl (by rfl) (by rfl) rfl
   case h =>
    simp [go_sem, ↓IntWalk.iteOmega, ev e10, ev e11, ev e12]
    with_reducible exact ⟨rfl, rfl⟩
   case hc => exact rlook l (f0 := 0) (hb := false) (h0 := 0) (pgs := []) (prs := []) _ O hT hRT.up (by omega) hN hRT.wf (fun h => (by cases h)) (.inr ⟨rfl, h2⟩) hRT.nod hgl (by simpa using hpl)
   clear O
   rintro e w17 ⟨rfl, P2, Q2, c3, c4, O⟩
   refine ⟨_, rfl, ?_⟩
   intro a16 hE e13 kp
   refine wpList_nil ?_
   replace e5 := hE.g e5
   replace k := k.env hE
   clear hE e0 e1 e9 e13
   refine Z01 (wp_seq ?_)
   refine wp_region_lit ?_
   have hE := Env.refl a16 [14, 4]
   refine sm 14 hE k e5 ?_
   intro a18 hE e14 kp
   refine sd 4 hE k (Z00 rfl e14) ?_
   intro a19 hE e4 kp
   refine wpList_nil ?_
   replace k := k.env hE
   clear hE e5
   refine Z01 ?_
   refine wp_ret ?_
   refine Z0w rfl k e4 ?_
   exact ⟨gw, c3, c4, P2, Q2, rfl, O⟩
end Go.Proofs.Ytngehbhhpkkijaa
