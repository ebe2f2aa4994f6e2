/- trees: all, Reach, Check (printed by XTrAl.gen.py). -/
import Derived.Test.YtngehbhhpkkijaaKTreeBuilds23
namespace Go.Proofs.Ytngehbhhpkkijaa
attribute [local simp] BigFrame.eval_const BigFrame.eval_global BigFrame.eval_func
set_option linter.unusedVariables false
set_option linter.unusedSimpArgs false
open Go.RowKit Go.Maps

set_option maxRecDepth 100000 in
set_option maxHeartbeats 4000000 in
theorem tall {H : Nat} {A0 : World} {R : List Thing} {sb cap : Nat} {room : Int} {B : Option Addr} {vs : List Value} {N : List Nd} {root m : Nat} {L : List (List Pr)} {g : List Nat} (w : World) (O : OwnT H A0 (shT sb room B cap vs N R) w) (hRT : RT m N root L g) (h7 : m ≤ 7) (hN : N.length ≤ 511) (hgl : g.length ≤ 600) (hpl : L.flatten.length ≤ 100000) : Calls Try.prog 61 #[.iface 24 (.pointer (some ⟨sb, 0, none⟩)), .int .i64 root] w fun e w' => ∃ gw cp cq P Q, e = .returned (.pointer (some ⟨gw, 0, none⟩)) ∧ OwnT H A0 (shT sb room B cap vs N (tWk gw cp cq P Q g L.flatten R)) w' := by
 refine Z0c Try.func61 rfl 16 rfl (by rfl) ?_
 intro a1 k hargs
 have e0 : a1.eval (.tmp 0) = .iface 24 (.pointer (some ⟨sb, 0, none⟩)) := hargs 0 _ rfl
 have e1 : a1.eval (.tmp 1) = .int .i64 ↑root := hargs 1 _ rfl
 clear hargs
 refine wp_seq ?_
 refine wp_region_lit ?_
 have hE := Env.refl a1 [4]
 refine sd 4 hE k (Z01 rfl rfl) ?_
 intro a2 hE e4 kp
 refine wpList_nil ?_
 replace e0 := hE.g e0; replace e1 := hE.g e1
 replace k := k.env hE
 clear hE e4
 refine Z00 (wp_seq ?_)
 refine wp_region_lit ?_
 have hE := Env.refl a2 [6, 7, 5]
 apply Z02 6 hE k rfl rfl rfl rfl
 case h =>
  simp [go_sem, ↓IntWalk.iteOmega]
  with_reducible rfl
 intro a3 hE e6 kp
 refine Z0k O (cs := #[.slice none 0 0, .slice none 0 0, .int .i64 0]) (t := 142) 7 hE k rfl (by rfl) (by rfl) rfl (by simp [go_sem, ↓IntWalk.iteOmega, ev e6]) ?_
 clear O
 intro gw a4 w5 O hE e7 kp
 refine sd 5 hE k (Z01 rfl e7) ?_
 intro a6 hE e5 kp
 refine wpList_nil ?_
 replace e0 := hE.g e0; replace e1 := hE.g e1
 replace k := k.env hE
 clear hE
 refine Z00 ?_
 replace O := OwnT.nilRow (OwnT.nilRow O 38 2) 3 1
 replace O : OwnT _ _ ((tRow 3 1 (.slice none (([] : List Nat)).length 0) (([] : List Nat)).length ((([] : List Nat)).flatMap encN)) :: (tPs (.slice none (([] : List Pr)).length 0) (([] : List Pr))) :: (tBlk gw 142 #[.slice none ((([] : List Nat)).length) 0, .slice none ((([] : List Pr)).length) 0, .int .i64 0]) :: (tBlk sb 28 #[.slice B N.length cap, .int .i64 room]) :: (tRow 125 2 (.slice B N.length cap) N.length (leafV vs N)) :: (tPool vs N) :: R) w5 := O
 replace O : OwnT _ _ ((tBlk sb 28 #[.slice B N.length cap, .int .i64 room]) :: (tRow 125 2 (.slice B N.length cap) N.length (leafV vs N)) :: (tPool vs N) :: (tBlk gw 142 #[.slice none ((([] : List Nat)).length) 0, .slice none ((([] : List Pr)).length) 0, .int .i64 0]) :: (tRow 3 1 (.slice none (([] : List Nat)).length 0) (([] : List Nat)).length ((([] : List Nat)).flatMap encN)) :: (tPs (.slice none (([] : List Pr)).length 0) (([] : List Pr))) :: R) w5 := OwnT.pickR (L := [_, _, _, _, _, _]) (R := R) O [3, 4, 5, 2, 0, 1] (by decide)
 rcases hRT.rt with ⟨hr, hL, hg⟩ | ⟨l, hlm, hT, h2⟩
 · skip
   subst hL hg
   refine wp_seq ?_
   refine wp_seq ?_
   refine wp_region_lit ?_
   have hE := Env.refl a6 [8, 9]
   refine zm 8 hE k e1 ?_
   intro a7 hE e8 kp
   refine sd 9 hE k (Z06 (Z1f rfl e8 rfl) (decide_eq_false (by omega))) ?_
   intro a8 hE e9 kp
   refine wpList_nil ?_
   replace e0 := hE.g e0; replace e1 := hE.g e1; replace e5 := hE.g e5
   replace k := k.env hE
   clear hE
   refine Z00 ?_
   refine Z05 e9 rfl ?_
   refine wp_skip ?_
   refine Z00 (wp_seq ?_)
   refine wp_region_lit ?_
   have hE := Env.refl a8 [15, 4]
   refine zm 15 hE k e5 ?_
   intro a9 hE e15 kp
   refine sd 4 hE k (Z01 rfl e15) ?_
   intro a10 hE e4 kp
   refine wpList_nil ?_
   replace k := k.env hE
   clear hE e0 e1 e5 e9
   refine Z00 ?_
   refine wp_ret ?_
   refine Z0p rfl k e4 ?_
   exact ⟨gw, 0, 0, none, none, rfl, O⟩
 · have hr : root ≠ 0 := by obtain ⟨r, e⟩ := Tr.one hT; have := (Tr.pages hT root (by rw [e]; simp)).1; omega
   refine wp_seq ?_
   refine wp_seq ?_
   refine wp_region_lit ?_
   have hE := Env.refl a6 [8, 9]
   refine zm 8 hE k e1 ?_
   intro a11 hE e8 kp
   refine sd 9 hE k (Z06 (Z1f rfl e8 rfl) (decide_eq_true (by omega))) ?_
   intro a12 hE e9 kp
   refine wpList_nil ?_
   replace e0 := hE.g e0; replace e1 := hE.g e1; replace e5 := hE.g e5
   replace k := k.env hE
   clear hE
   refine Z00 ?_
   refine Z0g e9 rfl ?_
   refine wp_region_lit ?_
   have hE := Env.refl a12 [10, 11, 12, 13, 14]
   refine zm 10 hE k e5 ?_
   intro a13 hE e10 kp
   refine zm 11 hE k e0 ?_
   intro a14 hE e11 kp
   replace e10 := kt kp e10
   refine zm 12 hE k e1 ?_
   intro a15 hE e12 kp
   replace e10 := kt kp e10; replace e11 := kt kp e11
   apply Z02 13 hE k rfl rfl rfl rfl
   case h =>
    simp [go_sem, ↓IntWalk.iteOmega]
    with_reducible rfl
   intro a16 hE e13 kp
   replace e10 := kt kp e10; replace e11 := kt kp e11; replace e12 := kt kp e12
   apply Z08 14 hE k rfl (by rfl) (by rfl) rfl
   case h =>
    simp [go_sem, ↓IntWalk.iteOmega, ev e10, ev e11, ev e12, ev e13]
    with_reducible exact ⟨rfl, rfl⟩
   case hc => exact wnode l (fb := false) (f0 := 0) (hb := false) (h0 := 0) (pgs := []) (prs := []) _ O hT hRT.up (by omega) hN hRT.wf (.inl (by decide)) ⟨fun h => (by cases h), fun _ => rfl, fun h => (by cases h), fun _ => rfl⟩ (fun _ => h2) hRT.nod hgl (by simpa using hpl)
   clear O
   rintro e w18 ⟨rfl, P2, Q2, c3, c4, O⟩
   refine ⟨_, rfl, ?_⟩
   intro a17 hE e14 kp
   refine wpList_nil ?_
   replace e5 := hE.g e5
   replace k := k.env hE
   clear hE e0 e1 e9 e14
   refine Z00 (wp_seq ?_)
   refine wp_region_lit ?_
   have hE := Env.refl a17 [15, 4]
   refine zm 15 hE k e5 ?_
   intro a19 hE e15 kp
   refine sd 4 hE k (Z01 rfl e15) ?_
   intro a20 hE e4 kp
   refine wpList_nil ?_
   replace k := k.env hE
   clear hE e5
   refine Z00 ?_
   refine wp_ret ?_
   refine Z0p rfl k e4 ?_
   exact ⟨gw, c3, c4, P2, Q2, rfl, O⟩
set_option maxRecDepth 100000 in
set_option maxHeartbeats 4000000 in
theorem tCheck {H : Nat} {A0 : World} {R : List Thing} {sb cap : Nat} {room : Int} {B : Option Addr} {vs : List Value} {N : List Nd} {root m : Nat} {L : List (List Pr)} {g : List Nat} (w : World) (O : OwnT H A0 (shT sb room B cap vs N R) w) (hRT : RT m N root L g) (h7 : m ≤ 7) (hN : N.length ≤ 511) (hgl : g.length ≤ 600) (hpl : L.flatten.length ≤ 100000) : Calls Try.prog 24 #[.iface 24 (.pointer (some ⟨sb, 0, none⟩)), .int .i64 root] w fun e w' => e = .returned (.int .i64 0) ∧ OwnT H A0 (shT sb room B cap vs N R) w' := by
 refine Z0c Try.func24 rfl 11 rfl (by rfl) ?_
 intro a1 k hargs
 have e0 : a1.eval (.tmp 0) = .iface 24 (.pointer (some ⟨sb, 0, none⟩)) := hargs 0 _ rfl
 have e1 : a1.eval (.tmp 1) = .int .i64 ↑root := hargs 1 _ rfl
 clear hargs
 refine wp_seq ?_
 refine wp_region_lit ?_
 have hE := Env.refl a1 [4]
 refine sd 4 hE k (Z01 rfl rfl) ?_
 intro a2 hE e4 kp
 refine wpList_nil ?_
 replace e0 := hE.g e0; replace e1 := hE.g e1
 replace k := k.env hE
 clear hE e4
 refine Z00 (wp_seq ?_)
 refine wp_region_lit ?_
 have hE := Env.refl a2 [5, 6, 7, 8, 9, 10, 4]
 refine zm 5 hE k e0 ?_
 intro a3 hE e5 kp
 refine zm 6 hE k e1 ?_
 intro a4 hE e6 kp
 replace e5 := kt kp e5
 apply Z08 7 hE k rfl (by rfl) (by rfl) rfl
 case h =>
  simp [go_sem, ↓IntWalk.iteOmega, ev e5, ev e6]
  with_reducible exact ⟨rfl, rfl⟩
 case hc => exact tall _ O hRT h7 hN hgl hpl
 clear O
 rintro e w6 ⟨gw, cp, cq, P, Q, rfl, O⟩
 refine ⟨_, rfl, ?_⟩
 intro a5 hE e7 kp
 refine sd 8 hE k (Z1e rfl e7) ?_
 intro a7 hE e8 kp
 apply Z02 9 hE k rfl rfl rfl rfl
 case h =>
  simp [go_sem, ↓IntWalk.iteOmega, ev e8]
  with_reducible rfl
 intro a8 hE e9 kp
 apply Z02 10 hE k rfl rfl rfl rfl
 case h =>
  have q0 : w6.cell? ⟨gw, 2, none⟩ = some (.int .i64 0) := (OwnT.blk O 3 rfl).cell 2
  simp [go_sem, ↓IntWalk.iteOmega, ev e9, q0]
  with_reducible rfl
 intro a9 hE e10 kp
 refine sd 4 hE k (Z01 rfl e10) ?_
 intro a10 hE e4 kp
 refine wpList_nil ?_
 replace k := k.env hE
 clear hE e0 e1
 refine Z00 ?_
 refine wp_ret ?_
 refine Z0p rfl k e4 ?_
 exact ⟨rfl, OwnT.pickR (L := [_, _, _, _, _, _]) (R := R) O [0, 1, 2] (by decide)⟩
end Go.Proofs.Ytngehbhhpkkijaa
