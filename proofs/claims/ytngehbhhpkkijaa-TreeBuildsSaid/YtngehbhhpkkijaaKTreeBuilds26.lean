/- trees: Range (printed by XTrRn.gen.py). -/
import Derived.Test.YtngehbhhpkkijaaKTreeBuilds25
import Derived.Test.YtngehbhhpkkijaaKTreeBuilds21
import Derived.Test.YtngehbhhpkkijaaKTreeBuilds03
import Derived.Test.YtngehbhhpkkijaaKTreeBuilds05
namespace Go.Proofs.Ytngehbhhpkkijaa
attribute [local simp] BigFrame.eval_const BigFrame.eval_global BigFrame.eval_func
set_option linter.unusedVariables false
set_option linter.unusedSimpArgs false
open Go.RowKit Go.Maps

set_option maxRecDepth 100000 in
set_option maxHeartbeats 4000000 in
theorem Z6v {b1 b2 : Nat} (W0 : World) : Calls Try.prog 86 #[.slice none 0 0, .func (.func 63) #[] #[.pointer (some ⟨b1, 0, none⟩), .pointer (some ⟨b2, 0, none⟩)]] W0 fun e w' => e = .returned (.int .i64 (-1)) ∧ Ext W0 w' := by
 have O := OwnT.start W0
 refine Z0c Try.func86 rfl 19 rfl (by rfl) ?_
 intro a1 k hargs
 have e0 : a1.eval (.tmp 0) = .slice none 0 0 := hargs 0 _ rfl
 have e1 : a1.eval (.tmp 1) = .func (.func 63) #[] #[.pointer (some ⟨b1, 0, none⟩), .pointer (some ⟨b2, 0, none⟩)] := hargs 1 _ rfl
 clear hargs
 refine wp_seq ?_
 refine wp_region_lit ?_
 have hE := Env.refl a1 [4]
 refine sd 4 hE k (Z01 rfl rfl) ?_
 intro a2 hE e4 kp
 refine wpList_nil ?_
 replace e0 := hE.g e0; replace e1 := hE.g e1
 replace k := k.env hE
 clear hE e4
 refine Z00 (wp_seq ?_)
 refine wp_seq ?_
 refine wp_region_lit ?_
 have hE := Env.refl a2 [6, 7, 8]
 refine zm 6 hE k e0 ?_
 intro a3 hE e6 kp
 refine sd 7 hE k (Z0f Try.underlying29 rfl e6) ?_
 intro a4 hE e7 kp
 refine sd 8 hE k (Z03 rfl rfl) ?_
 intro a5 hE e8 kp
 replace e7 := kt kp e7
 refine wpList_nil ?_
 replace e0 := hE.g e0; replace e1 := hE.g e1
 replace k := k.env hE
 clear hE
 refine Z00 ?_
 refine wp_block ?_
 refine wp_loop (fun a w => Fr 19 a ∧ a.eval (.tmp 0) = .slice none 0 0 ∧ a.eval (.tmp 1) = .func (.func 63) #[] #[.pointer (some ⟨b1, 0, none⟩), .pointer (some ⟨b2, 0, none⟩)] ∧ a.eval (.tmp 7) = .int .i64 0 ∧ a.eval (.tmp 8) = .int .i64 0 ∧ OwnT W0.heap.size W0 [] w) (fun a w => 0) ?_ ?_
 · exact ⟨k, e0, e1, e7, e8, O⟩
 intro a6 w7 hI
 clear k e0 e1 e7
 obtain ⟨k, e0, e1, e7, h_⟩ := hI
 clear O e8
 obtain ⟨e8, O⟩ := h_
 refine wp_seq ?_
 refine wp_region_lit ?_
 have hE := Env.refl a6 [9]
 refine sd 9 hE k (Z06 (Z1c rfl (hE.g e8) (hE.g e7)) (decide_eq_false (by omega))) ?_
 intro a8 hE e9 kp
 refine wpList_nil ?_
 replace e0 := hE.g e0; replace e1 := hE.g e1; replace e7 := hE.g e7; replace e8 := hE.g e8
 replace k := k.env hE
 clear hE
 refine Z00 (wp_seq ?_)
 refine Z05 e9 rfl ?_
 refine wp_exit ?_
 refine Z0z ?_
 refine Z0z ?_
 refine Z1j ?_
 refine Z00 (wp_seq ?_)
 refine wp_region_lit ?_
 have hE := Env.refl a8 [4]
 refine sd 4 hE k (Z01 rfl rfl) ?_
 intro a9 hE e4 kp
 refine wpList_nil ?_
 replace k := k.env hE
 clear hE e0 e1 e7 e8 e9
 refine Z00 ?_
 refine wp_ret ?_
 refine Z0p rfl k e4 ?_
 exact ⟨rfl, O.below⟩
set_option maxRecDepth 100000 in
set_option maxHeartbeats 4000000 in
theorem Z5t {b1 b2 : Nat} (W0 : World) : Calls Try.prog 62 #[.slice none 0 0, .func (.func 63) #[] #[.pointer (some ⟨b1, 0, none⟩), .pointer (some ⟨b2, 0, none⟩)]] W0 fun e w' => e = .returned (.slice none 0 0) ∧ Ext W0 w' := by
 have O := OwnT.start W0
 refine Z0c Try.func62 rfl 42 rfl (by rfl) ?_
 intro a1 k hargs
 have e0 : a1.eval (.tmp 0) = .slice none 0 0 := hargs 0 _ rfl
 have e1 : a1.eval (.tmp 1) = .func (.func 63) #[] #[.pointer (some ⟨b1, 0, none⟩), .pointer (some ⟨b2, 0, none⟩)] := hargs 1 _ rfl
 clear hargs
 refine wp_seq ?_
 refine wp_region_lit ?_
 have hE := Env.refl a1 [4]
 refine sd 4 hE k (Z01 rfl rfl) ?_
 intro a2 hE e4 kp
 refine wpList_nil ?_
 replace e0 := hE.g e0; replace e1 := hE.g e1
 replace k := k.env hE
 clear hE e4
 refine Z00 (wp_seq ?_)
 refine wp_region_lit ?_
 have hE := Env.refl a2 [8, 9, 10, 5]
 refine zm 8 hE k e0 ?_
 intro a3 hE e8 kp
 refine zm 9 hE k e1 ?_
 intro a4 hE e9 kp
 replace e8 := kt kp e8
 apply Z08 10 hE k rfl (by rfl) (by rfl) rfl
 case h =>
  simp [go_sem, ↓IntWalk.iteOmega, ev e8, ev e9]
  with_reducible exact ⟨rfl, rfl⟩
 case hc => exact Z6v _
 rintro e w6 ⟨rfl, RE⟩
 replace O := OwnT.ext O RE
 refine ⟨_, rfl, ?_⟩
 intro a5 hE e10 kp
 refine sd 5 hE k (Z01 rfl e10) ?_
 intro a7 hE e5 kp
 refine wpList_nil ?_
 replace e0 := hE.g e0; replace e1 := hE.g e1
 replace k := k.env hE
 clear hE
 refine Z00 (wp_seq ?_)
 refine wp_seq ?_
 refine wp_region_lit ?_
 have hE := Env.refl a7 [11, 12]
 refine zm 11 hE k e5 ?_
 intro a8 hE e11 kp
 refine sd 12 hE k (Z06 (Z0n rfl e11 rfl) (decide_eq_true (by omega))) ?_
 intro a9 hE e12 kp
 refine wpList_nil ?_
 replace e0 := hE.g e0; replace e1 := hE.g e1; replace e5 := hE.g e5
 replace k := k.env hE
 clear hE
 refine Z00 ?_
 refine Z0g e12 rfl ?_
 refine wp_seq ?_
 refine wp_region_lit ?_
 have hE := Env.refl a9 [13, 4]
 refine zm 13 hE k e0 ?_
 intro a10 hE e13 kp
 refine sd 4 hE k (Z01 rfl e13) ?_
 intro a11 hE e4 kp
 refine wpList_nil ?_
 replace k := k.env hE
 clear hE e0 e1 e5 e12
 refine Z00 ?_
 refine wp_ret ?_
 refine Z0d ?_
 refine Z0p rfl k e4 ?_
 exact ⟨rfl, O.below⟩
set_option maxRecDepth 100000 in
set_option maxHeartbeats 4000000 in
theorem tRange {H : Nat} {A0 : World} {R : List Thing} {sb cap : Nat} {room : Int} {B : Option Addr} {vs : List Value} {N : List Nd} {root m lo hi : Nat} {L : List (List Pr)} {g : List Nat} (w : World) (O : OwnT H A0 (shT sb room B cap vs N R) w) (hRT : RT m N root L g) (h7 : m ≤ 7) (hN : N.length ≤ 511) (hgl : g.length ≤ 600) (hpl : L.flatten.length ≤ 100000) : Calls Try.prog 21 #[.iface 24 (.pointer (some ⟨sb, 0, none⟩)), .int .i64 root, .int .u64 (lo : Nat), .int .u64 (hi : Nat)] w fun e w' => ∃ v, e = .returned (.tuple #[v, .int .i64 0]) ∧ OwnT H A0 (shT sb room B cap vs N (tPs v (L.flatten.filter (fun x => !outB lo hi x)) :: R)) w' := by
 refine Z0c Try.func21 rfl 31 rfl (by rfl) ?_
 intro a1 k hargs
 have e0 : a1.eval (.tmp 0) = .iface 24 (.pointer (some ⟨sb, 0, none⟩)) := hargs 0 _ rfl
 have e1 : a1.eval (.tmp 1) = .int .i64 ↑root := hargs 1 _ rfl
 have e2 : a1.eval (.tmp 2) = .int .u64 ↑lo := hargs 2 _ rfl
 have e3 : a1.eval (.tmp 3) = .int .u64 ↑hi := hargs 3 _ rfl
 clear hargs
 refine wp_seq ?_
 refine wp_region_lit ?_
 have hE := Env.refl a1 [6, 7, 8, 9]
 refine Z0k O (cs := #[.int .u64 ↑lo]) (t := 30) 6 hE k rfl (by rfl) (by rfl) rfl (by simp [go_sem, ↓IntWalk.iteOmega, ev (hE.g e2)]) ?_
 clear O
 intro b1 a2 w3 O hE e6 kp
 refine Z0k O (cs := #[.int .u64 ↑hi]) (t := 30) 7 hE k rfl (by rfl) (by rfl) rfl (by simp [go_sem, ↓IntWalk.iteOmega, ev (hE.g e3)]) ?_
 clear O
 intro b2 a4 w5 O hE e7 kp
 replace e6 := kt kp e6
 refine sd 8 hE k (Z01 rfl rfl) ?_
 intro a6 hE e8 kp
 replace e6 := kt kp e6; replace e7 := kt kp e7
 refine sd 9 hE k (Z01 rfl rfl) ?_
 intro a7 hE e9 kp
 replace e6 := kt kp e6; replace e7 := kt kp e7
 refine wpList_nil ?_
 replace e0 := hE.g e0; replace e1 := hE.g e1
 replace k := k.env hE
 clear hE e2 e3 e9
 refine Z00 ?_
 replace O : OwnT _ _ ((tBlk sb 28 #[.slice B N.length cap, .int .i64 room]) :: (tRow 125 2 (.slice B N.length cap) N.length (leafV vs N)) :: (tPool vs N) :: (tBlk b1 30 #[.int .u64 ↑lo]) :: (tBlk b2 30 #[.int .u64 ↑hi]) :: R) w5 := OwnT.pickR (L := [_, _, _, _, _]) (R := R) O [2, 3, 4, 1, 0] (by decide)
 refine wp_seq ?_
 refine wp_region_lit ?_
 have hE := Env.refl a7 [12, 13, 14, 10]
 refine zm 12 hE k e0 ?_
 intro a8 hE e12 kp
 refine zm 13 hE k e1 ?_
 intro a9 hE e13 kp
 replace e12 := kt kp e12
 apply Z08 14 hE k rfl (by rfl) (by rfl) rfl
 case h =>
  simp [go_sem, ↓IntWalk.iteOmega, ev e12, ev e13]
  with_reducible exact ⟨rfl, rfl⟩
 case hc => exact tall (R := ((tBlk b1 30 #[.int .u64 ↑lo]) :: (tBlk b2 30 #[.int .u64 ↑hi]) :: R)) _ O hRT h7 hN hgl hpl
 clear O
 rintro e w11 ⟨gw, cp, cq, P, Q, rfl, O⟩
 refine ⟨_, rfl, ?_⟩
 intro a10 hE e14 kp
 refine sd 10 hE k (Z01 rfl e14) ?_
 intro a12 hE e10 kp
 refine wpList_nil ?_
 replace e6 := hE.g e6; replace e7 := hE.g e7
 replace k := k.env hE
 clear hE e0 e1
 refine Z00 (wp_seq ?_)
 refine wp_seq ?_
 refine wp_region_lit ?_
 have hE := Env.refl a12 [15, 16, 17, 18, 19]
 refine zm 15 hE k e10 ?_
 intro a13 hE e15 kp
 refine sd 16 hE k (Z1e rfl e15) ?_
 intro a14 hE e16 kp
 apply Z02 17 hE k rfl rfl rfl rfl
 case h =>
  simp [go_sem, ↓IntWalk.iteOmega, ev e16]
  with_reducible rfl
 intro a15 hE e17 kp
 apply Z02 18 hE k rfl rfl rfl rfl
 case h =>
  have q0 : w11.cell? ⟨gw, 2, none⟩ = some (.int .i64 0) := (OwnT.blk O 3 rfl).cell 2
  simp [go_sem, ↓IntWalk.iteOmega, ev e17, q0]
  with_reducible rfl
 intro a16 hE e18 kp
 refine sd 19 hE k (Z06 (Z1f rfl e18 rfl) (decide_eq_false (by omega))) ?_
 intro a17 hE e19 kp
 refine wpList_nil ?_
 replace e6 := hE.g e6; replace e7 := hE.g e7; replace e10 := hE.g e10
 replace k := k.env hE
 clear hE
 refine Z00 ?_
 refine Z05 e19 rfl ?_
 refine wp_skip ?_
 refine Z00 ?_
 obtain ⟨ps, hps⟩ : ∃ ps, L.flatten = ps := ⟨_, rfl⟩
 rw [hps] at O hpl ⊢
 clear hRT hps
 rcases (OwnT.get O 5 rfl : World.ownsRow _ 0 38 2 _ ps.length _).2 with ⟨e1, e2⟩ | ⟨g2, cap2, cur2, e1, _⟩
 · injection e1 with e1 _ e3; subst e1 e3
   have hL0 : ps = [] := List.eq_nil_of_length_eq_zero e2
   subst hL0
   replace O : OwnT _ _ ((tBlk sb 28 #[.slice B N.length cap, .int .i64 room]) :: (tRow 125 2 (.slice B N.length cap) N.length (leafV vs N)) :: (tPool vs N) :: (tBlk gw 142 #[.slice P g.length cp, .slice none 0 0, .int .i64 0]) :: (tRow 3 1 (.slice P g.length cp) g.length (g.flatMap encN)) :: (tPs (.slice none 0 0) ([] : List Pr)) :: (tBlk b1 30 #[.int .u64 ↑lo]) :: (tBlk b2 30 #[.int .u64 ↑hi]) :: R) w11 := O
   refine wp_seq ?_
   refine wp_region_lit ?_
   have hE := Env.refl a17 [24, 25, 26, 27, 28, 29, 11]
   refine zm 24 hE k e10 ?_
   intro a18 hE e24 kp
   refine sd 25 hE k (Z1e rfl e24) ?_
   intro a19 hE e25 kp
   apply Z02 26 hE k rfl rfl rfl rfl
   case h =>
    simp [go_sem, ↓IntWalk.iteOmega, ev e25]
    with_reducible rfl
   intro a20 hE e26 kp
   apply Z02 27 hE k rfl rfl rfl rfl
   case h =>
    have q0 : w11.cell? ⟨gw, 1, none⟩ = some (.slice none 0 0) := (OwnT.blk O 3 rfl).cell 1
    simp [go_sem, ↓IntWalk.iteOmega, ev e26, q0]
    with_reducible rfl
   intro a21 hE e27 kp
   apply Z02 28 hE k rfl rfl rfl rfl
   case h =>
    simp [go_sem, ↓IntWalk.iteOmega, ev (hE.g e6), ev (hE.g e7)]
    with_reducible rfl
   intro a22 hE e28 kp
   replace e27 := kt kp e27
   apply Z08 29 hE k rfl (by rfl) (by rfl) rfl
   case h =>
    simp [go_sem, ↓IntWalk.iteOmega, ev e27, ev e28]
    with_reducible exact ⟨rfl, rfl⟩
   case hc => exact Z5t _
   rintro e w24 ⟨rfl, RE⟩
   replace O := OwnT.ext O RE
   refine ⟨_, rfl, ?_⟩
   intro a23 hE e29 kp
   refine sd 11 hE k (Z01 rfl e29) ?_
   intro a25 hE e11 kp
   refine wpList_nil ?_
   replace k := k.env hE
   clear hE e6 e7 e10 e19
   refine Z00 (wp_seq ?_)
   refine wp_region_lit ?_
   have hE := Env.refl a25 [30, 8, 9]
   refine zm 30 hE k e11 ?_
   intro a26 hE e30 kp
   refine sd 8 hE k (Z01 rfl e30) ?_
   intro a27 hE e8 kp
   refine sd 9 hE k (Z01 rfl rfl) ?_
   intro a28 hE e9 kp
   replace e8 := kt kp e8
   refine wpList_nil ?_
   replace k := k.env hE
   clear hE e11
   refine Z00 ?_
   refine wp_ret ?_
   refine Z1o rfl k e8 e9 ?_
   exact ⟨_, rfl, OwnT.pickR (L := [_, _, _, _, _, _, _, _]) (R := R) O [0, 1, 2, 5] (by decide)⟩
 · injection e1 with e1 _ e3; subst e1 e3
   replace O : OwnT _ _ ((tPs (.slice (some ⟨g2, 0, none⟩) ps.length cq) ps) :: (tBlk b1 30 #[.int .u64 ↑lo]) :: (tBlk b2 30 #[.int .u64 ↑hi]) :: (tBlk sb 28 #[.slice B N.length cap, .int .i64 room]) :: (tRow 125 2 (.slice B N.length cap) N.length (leafV vs N)) :: (tPool vs N) :: (tBlk gw 142 #[.slice P g.length cp, .slice (some ⟨g2, 0, none⟩) ps.length cq, .int .i64 0]) :: R) w11 := OwnT.pickR (L := [_, _, _, _, _, _, _, _]) (R := R) O [5, 6, 7, 0, 1, 2, 3] (by decide)
   refine wp_seq ?_
   refine wp_region_lit ?_
   have hE := Env.refl a17 [24, 25, 26, 27, 28, 29, 11]
   refine zm 24 hE k e10 ?_
   intro a29 hE e24 kp
   refine sd 25 hE k (Z1e rfl e24) ?_
   intro a30 hE e25 kp
   apply Z02 26 hE k rfl rfl rfl rfl
   case h =>
    simp [go_sem, ↓IntWalk.iteOmega, ev e25]
    with_reducible rfl
   intro a31 hE e26 kp
   apply Z02 27 hE k rfl rfl rfl rfl
   case h =>
    have q0 : w11.cell? ⟨gw, 1, none⟩ = some (.slice (some ⟨g2, 0, none⟩) ps.length cq) := (OwnT.blk O 6 rfl).cell 1
    simp [go_sem, ↓IntWalk.iteOmega, ev e26, q0]
    with_reducible rfl
   intro a32 hE e27 kp
   apply Z02 28 hE k rfl rfl rfl rfl
   case h =>
    simp [go_sem, ↓IntWalk.iteOmega, ev (hE.g e6), ev (hE.g e7)]
    with_reducible rfl
   intro a33 hE e28 kp
   replace e27 := kt kp e27
   apply Z08 29 hE k rfl (by rfl) (by rfl) rfl
   case h =>
    simp [go_sem, ↓IntWalk.iteOmega, ev e27, ev e28]
    with_reducible exact ⟨rfl, rfl⟩
   case hc => exact Z5u ps _ O (by omega)
   clear O
   rintro e w35 ⟨rfl, O⟩
   refine ⟨_, rfl, ?_⟩
   intro a34 hE e29 kp
   refine sd 11 hE k (Z01 rfl e29) ?_
   intro a36 hE e11 kp
   refine wpList_nil ?_
   replace k := k.env hE
   clear hE e6 e7 e10 e19
   refine Z00 (wp_seq ?_)
   refine wp_region_lit ?_
   have hE := Env.refl a36 [30, 8, 9]
   refine zm 30 hE k e11 ?_
   intro a37 hE e30 kp
   refine sd 8 hE k (Z01 rfl e30) ?_
   intro a38 hE e8 kp
   refine sd 9 hE k (Z01 rfl rfl) ?_
   intro a39 hE e9 kp
   replace e8 := kt kp e8
   refine wpList_nil ?_
   replace k := k.env hE
   clear hE e11
   refine Z00 ?_
   refine wp_ret ?_
   refine Z1o rfl k e8 e9 ?_
   exact ⟨_, rfl, OwnT.pickR (L := [_, _, _, _, _, _, _]) (R := R) O [3, 4, 5, 0] (by decide)⟩
end Go.Proofs.Ytngehbhhpkkijaa

/- Trees of laws, plain and at work: a tree of few pairs, its contracts. -/
namespace Go.Proofs.Ytngehbhhpkkijaa
set_option linter.unusedVariables false
set_option linter.unusedSimpArgs false
open Go.RowKit Go.Maps

/-- A tree of the pairs P, of at most one level above its leaves; c: how great it may be. -/
def Tre (N : List Nd) (root c : Nat) (P : List Pr) : Prop := ∃ m L g, RT m N root L g ∧ m ≤ 1 ∧ L.flatten = P ∧ phi L ≤ c
theorem Z4c : ∀ (L : List (List Pr)), L.flatten.length ≤ phi L
  | [] => by simp [phi]
  | c :: L => by
    have := Z4c L
    rw [Z4d, List.flatten_cons, List.length_append]
    omega
theorem Z7t {N : Nat} : ∀ {g : List Nat}, g.Nodup → (∀ q ∈ g, 1 ≤ q ∧ q ≤ N) → g.length ≤ N := by
  induction N with
  | zero =>
    intro g _ h
    cases g with
    | nil => exact Nat.le_refl _
    | cons a r => have := h a (by simp); omega
  | succ N ih =>
    intro g hn h
    have h1 := ih (g := g.filter (fun q => decide (q ≠ N + 1))) (hn.filter _) (fun q hq => by
      obtain ⟨h1, h2⟩ := List.mem_filter.1 hq
      have := h q h1
      have := of_decide_eq_true h2
      omega)
    have h2 : g.length ≤ (g.filter (fun q => decide (q ≠ N + 1))).length + 1 := by
      clear ih h h1
      induction g with
      | nil => simp
      | cons a r ih =>
        obtain ⟨ha, hr⟩ := List.nodup_cons.1 hn
        by_cases e : a = N + 1
        · have : r.filter (fun q => decide (q ≠ N + 1)) = r := List.filter_eq_self.2 fun q hq => decide_eq_true (fun e' => ha (by rw [e, ← e']; exact hq))
          rw [List.filter_cons_of_neg (by simp [e]), this]
          simp
        · rw [List.filter_cons_of_pos (by simp [e])]
          simp only [List.length_cons]
          have := ih hr
          omega
    omega
section
variable {N : List Nd} {root c : Nat} {P : List Pr}
theorem RT.pages_le {m : Nat} {L : List (List Pr)} {g : List Nat} (h : RT m N root L g) : g.length ≤ N.length := by
  refine Z7t h.nod fun q hq => ?_
  rcases h.rt with ⟨_, _, rfl⟩ | ⟨l, _, hT, _⟩
  · cases hq
  · exact Tr.pages hT q hq
theorem Tre.zero (N : List Nd) : Tre N 0 0 [] := ⟨0, [], [], Z7i 0 N, by omega, rfl, by simp [phi]⟩
theorem Tre.mono (h : Tre N root c P) (M : List Nd) : Tre (N ++ M) root c P := by
  obtain ⟨m, L, g, h1, h2, h3, h4⟩ := h
  exact ⟨m, L, g, h1.mono M, h2, h3, h4⟩
theorem Tre.up (h : Tre N root c P) : Up P := by obtain ⟨m, L, g, h1, h2, rfl, h4⟩ := h; exact h1.up
theorem Tre.wf (h : Tre N root c P) : ∀ y ∈ P, y.1 < 18446744073709551616 ∧ y.2 < 18446744073709551616 := by obtain ⟨m, L, g, h1, h2, rfl, h4⟩ := h; exact h1.wf
theorem Tre.len (h : Tre N root c P) : P.length ≤ c := by obtain ⟨m, L, g, h1, h2, rfl, h4⟩ := h; have := Z4c L; omega
theorem Tre.le (h : Tre N root c P) {d : Nat} (hd : c ≤ d) : Tre N root d P := by obtain ⟨m, L, g, h1, h2, h3, h4⟩ := h; exact ⟨m, L, g, h1, h2, h3, by omega⟩
end
section
variable {H : Nat} {A0 : World} {R : List Thing} {sb cap : Nat} {room : Int} {B : Option Addr} {vs : List Value} {N : List Nd} {root ky vl c : Nat} {P : List Pr}
theorem lCheck (w : World) (O : OwnT H A0 (shT sb room B cap vs N R) w) (hT : Tre N root c P) (hc : c ≤ 1000) (hN : N.length ≤ 511) :
    Calls Try.prog 24 #[.iface 24 (.pointer (some ⟨sb, 0, none⟩)), .int .i64 root] w fun e w' => e = .returned (.int .i64 0) ∧ OwnT H A0 (shT sb room B cap vs N R) w' := by
  obtain ⟨m, L, g, h1, h2, rfl, h4⟩ := hT
  have hl := Z4c L
  have hg := h1.pages_le
  exact tCheck w O h1 (by omega) hN (by omega) (by omega)
end
/-- The pair at a place of a row, in memory. -/
theorem ps_cells {w : World} {B : Option Addr} {n c : Nat} {ps : List Pr} (h : (tPs (.slice B n c) ps).holds w) {i : Nat} {x : Pr} (hi : ps[i]? = some x) : n = ps.length ∧ ∃ g, B = some ⟨g, 0, none⟩ ∧ w.cell? ⟨g, i * 2, none⟩ = some (.int .u64 (x.1 : Nat)) ∧ w.cell? ⟨g, i * 2 + 1, none⟩ = some (.int .u64 (x.2 : Nat)) := by
  have hl := (List.getElem?_eq_some_iff.1 hi).1
  obtain ⟨g, cap', cur, e, -⟩ := Z17 h (by omega)
  injection e with e1 e2 e3
  subst e1 e2 e3
  obtain ⟨B2, c2, e, _, _, hr, _⟩ := Z0r h
  injection e with e1 _ e3
  subst e1 e3
  obtain ⟨b, o, e, _, hc⟩ := hr i x hi
  injection e with e
  injection e with e e'
  subst e e'
  refine ⟨rfl, g, rfl, ?_, ?_⟩
  · have := hc 0 _ rfl; simpa using this
  · have := hc 1 _ rfl; simpa using this
end Go.Proofs.Ytngehbhhpkkijaa

/- Numbers turned: int to uint and back, the rest of a uint. -/
namespace Go.Proofs.Ytngehbhhpkkijaa
set_option linter.unusedVariables false
set_option linter.unusedSimpArgs false
open Go.RowKit Go.Maps
/-- 'uint(N)'. -/
def uN (N : Int) : Nat := (IntKind.u64.wrap N).toNat
theorem Z81 (N : Int) (w : World) : (convert 3 25 (.int .i64 N)).run Try.prog w = .ok (.int .u64 ((uN N : Nat) : Int)) w := by
  have h : ((uN N : Nat) : Int) = IntKind.u64.wrap N := by
    unfold uN
    have : 0 ≤ IntKind.u64.wrap N := by
      show 0 ≤ N % 18446744073709551616
      omega
    omega
  rw [h]
  simp [convert, run_underlying Try.underlying3, run_underlying Try.underlying25, Conv.intToInt]
theorem conv_int (m : Nat) (w : World) (h : m ≤ 1000000) : (convert 25 3 (.int .u64 ((m : Nat) : Int))).run Try.prog w = .ok (.int .i64 ((m : Nat) : Int)) w := by
  simp [convert, run_underlying Try.underlying3, run_underlying Try.underlying25, Conv.intToInt, IntWalk.i64_in _ (show -9223372036854775808 ≤ (m : Int) ∧ (m : Int) ≤ 9223372036854775807 by omega)]
section
variable {w : World} {o : Oper} {ρ : Operand → Value} {t u : TypeId} {x y : Operand}
theorem x_remU {m j : Nat} {k : Int} (ho : o.op = .binOp .rem t x y u) (hx : ρ x = .int .u64 (m : Nat)) (hy : ρ y = .int .u64 k) (hk : k = (j : Nat)) (hj : 0 < j) : (execOp ρ o).run Try.prog w = .ok (.value (.int .u64 ((m % j : Nat) : Int))) w := by
  subst hk
  refine Z35 ho hx hy ?_
  have h0 : ¬ ((j : Int) = 0) := by omega
  have h2 : (m : Int).tmod (j : Int) = ((m % j : Nat) : Int) := rfl
  simp only [binOp, Op.intDiv, if_neg h0, h2]
  rfl
end
end Go.Proofs.Ytngehbhhpkkijaa

/- Trees in laws: pairs behind puts and drops, plain; ranges. -/
namespace Go.Proofs.Ytngehbhhpkkijaa
set_option linter.unusedVariables false
set_option linter.unusedSimpArgs false
open Go.RowKit Go.Maps
theorem Tre.next {N : List Nd} {root r c : Nat} {P : List Pr} (h : Tre N r ((if root = 0 then 0 else c) + if root = 0 then 8 else 1) P) (hc : 7 ≤ c) : Tre N r (c + 1) P := h.le (by split <;> omega)
section
variable {H : Nat} {A0 : World} {R : List Thing} {sb cap : Nat} {room : Int} {B : Option Addr} {vs : List Value} {N : List Nd} {root c : Nat} {P Q : List Pr}
end
section
variable {w : World} {o : Oper} {ρ : Operand → Value} {t u : TypeId} {x y : Operand} {m n : Nat}
end
end Go.Proofs.Ytngehbhhpkkijaa
