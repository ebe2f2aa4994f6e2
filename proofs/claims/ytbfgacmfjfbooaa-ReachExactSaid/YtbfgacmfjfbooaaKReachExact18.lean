/- reach: roots that are no pages; grown (printed by XRcD.gen.py). -/
import Derived.Test.YtbfgacmfjfbooaaKReachExact16
import Derived.Test.YtbfgacmfjfbooaaKReachExact17
namespace Go.Proofs.Ytbfgacmfjfbooaa
attribute [local simp] BigFrame.eval_const BigFrame.eval_global BigFrame.eval_func
set_option linter.unusedVariables false
set_option linter.unusedSimpArgs false
open Go.RowKit Go.Maps


theorem OwnT.asRowN {g k n : Nat} {T : TypeId} {H : Nat} {A w : World} {L : List Thing} {cs : List Value} (h : OwnT H A (tBlk g T cs.toArray :: L) w) (hn : cs.length = n * k) (hm : n ≤ maxLen) : OwnT H A (tRow T k (.slice (some ⟨g, 0, none⟩) n n) n cs :: L) w :=
 h.call (F := []) (Chg.refl [] w) (by simp) (tRow T k (.slice (some ⟨g, 0, none⟩) n n) n cs) (Z3x h.b0 (Nat.le_refl _) hm (by simpa using hn) (by rw [← hn]; simp)) (fun i hi => .inl (by simpa [tRow, tBlk, Value.ownBlock] using hi))
theorem Tre.next {N : List Nd} {root r c : Nat} {P : List Pr} (h : Tre N r ((if root = 0 then 0 else c) + if root = 0 then 8 else 1) P) (hc : 7 ≤ c) : Tre N r (c + 1) P := h.le (by split <;> omega)
theorem len_insR {x : Pr} {P : List Pr} (h : ∀ y ∈ P, y.1 < x.1) : (insP x P).length = P.length + 1 ∧ ∀ y ∈ insP x P, y.1 ≤ x.1 := by
 have e1 : P.filter (fun y => decide (y.1 < x.1)) = P := List.filter_eq_self.2 fun y hy => decide_eq_true (h y hy)
 have e2 : P.filter (fun y => decide (x.1 < y.1)) = [] := List.filter_eq_nil_iff.2 fun y hy => by have := h y hy; simp; omega
 unfold insP
 rw [e1, e2]
 refine ⟨by simp, fun y hy => ?_⟩
 rcases List.mem_append.1 hy with hy | hy
 · have := h y hy; omega
 · obtain rfl := List.mem_singleton.1 hy
   exact Nat.le_refl _

set_option maxRecDepth 100000 in
set_option maxHeartbeats 4000000 in
theorem treadBad {H : Nat} {A0 : World} {R : List Thing} {sb cap : Nat} {room : Int} {B : Option Addr} {vs : List Value} {N : List Nd} {q q0 : Int} (w : World) (O : OwnT H A0 (shT sb room B cap vs N R) w) (hN : N.length ≤ 1000000) (hq : ¬ (1 ≤ q ∧ q ≤ N.length)) : Calls Try.prog 88 #[.iface 47 (.pointer (some ⟨sb, 0, none⟩)), .int .i64 q, .int .i64 q0] w fun e w' => e = .returned (.tuple #[.agg #[.int .i64 0, .slice none 0 0], .int .i64 9]) ∧ OwnT H A0 (shT sb room B cap vs N R) w' := by
 refine Z0a Try.func88 rfl 44 rfl (by rfl) ?_
 intro a1 k hargs; have e0 : a1.eval (.tmp 0) = .iface 47 (.pointer (some ⟨sb, 0, none⟩)) := hargs 0 _ rfl
 have e1 : a1.eval (.tmp 1) = .int .i64 q := hargs 1 _ rfl
 have e2 : a1.eval (.tmp 2) = .int .i64 q0 := hargs 2 _ rfl
 clear hargs; refine wp_seq ?_; refine wp_region_lit ?_
 have hE := Env.refl a1 [6, 7]; refine Z0k O (cs := #[.int .i64 0, .slice none 0 0]) (t := 46) 6 hE k rfl (by rfl) (by rfl) rfl (by simp [go_sem, ↓IntWalk.iteOmega]) ?_
 clear O; intro rb a2 w3 O hE e6 kp; refine sd 7 hE k (Z01 rfl rfl) ?_; intro a4 hE e7 kp; replace e6 := kt kp e6; refine wpList_nil ?_; replace e0 := hE.g e0; replace e1 := hE.g e1; replace e2 := hE.g e2; replace k := k.env hE; clear hE e7; refine Z00 ?_; replace O : OwnT _ _ ((tBlk sb 49 #[.slice B N.length cap, .int .i64 room]) :: (tRow 46 2 (.slice B N.length cap) N.length (leafV vs N)) :: (tPool vs N) :: (tBlk rb 46 #[.int .i64 0, .slice none 0 0]) :: R) w3 := OwnT.pickR (L := [_, _, _, _]) (R := R) O [1, 2, 3, 0] (by decide)
 refine wp_seq ?_; refine wp_region_lit ?_
 have hE := Env.refl a4 [11, 12, 13, 10, 14, 15, 8, 9]; refine zm 11 hE k e0 ?_; intro a5 hE e11 kp; refine zm 12 hE k e1 ?_; intro a6 hE e12 kp; replace e11 := kt kp e11; apply Z09 13 hE k rfl (by rfl) (by rfl) rfl
 case h =>
  exact Z3s rfl e11 e12 (Z2h _ _ _)
 case hc => exact sread_bad (R := _ :: R) q _ O hN hq
 clear O; rintro e w8 ⟨rfl, O⟩
 refine ⟨_, rfl, ?_⟩
 intro a7 hE e13 kp; refine sd 10 hE k (Z02 rfl e13) ?_; intro a9 hE e10 kp; apply Z03 14 hE k rfl rfl rfl rfl; case h =>
  simp [go_sem, ↓IntWalk.iteOmega, ev e10]
  with_reducible rfl
 intro a10 hE e14 kp; replace e10 := kt kp e10; apply Z03 15 hE k rfl rfl rfl rfl; case h =>
  simp [go_sem, ↓IntWalk.iteOmega, ev e10]
  with_reducible rfl
 intro a11 hE e15 kp; replace e14 := kt kp e14; refine Z0k O (cs := #[.int .i64 0, .slice none 0 0]) (t := 46) 8 hE k rfl (by rfl) (by rfl) rfl (by simp [go_sem, ↓IntWalk.iteOmega]) ?_
 clear O; intro lb a12 w13 O hE e8 kp; replace e14 := kt kp e14; replace e15 := kt kp e15; refine Z1f O 0 0 hE e8 e14 ?_
 clear O; intro w14 O; replace O : OwnT _ _ ((tBlk lb 46 #[.int .i64 0, .slice none 0 0]) :: _) w14 := O
 refine sd 9 hE k (Z01 rfl e15) ?_; intro a15 hE e9 kp; replace e8 := kt kp e8; refine wpList_nil ?_; replace e2 := hE.g e2; replace e6 := hE.g e6; replace k := k.env hE; clear hE e0 e1; refine Z00 (wp_seq ?_); refine wp_seq ?_; refine wp_region_lit ?_
 have hE := Env.refl a15 [16, 17, 18, 19, 20, 21, 22, 23, 24, 25, 26, 27, 28, 29, 30, 31, 32, 33, 34, 35, 36, 37, 38]; refine zm 16 hE k e9 ?_; intro a16 hE e16 kp; refine sd 17 hE k (Z05 (Z12 rfl e16 rfl) (decide_eq_false (by omega))) ?_
 intro a17 hE e17 kp; refine sd 18 hE k (Z02 rfl e17) ?_; intro a18 hE e18 kp; refine Z0e 19 hE k rfl (by rfl) (by rfl) rfl rfl (.inl e18) ?_
 intro a19 hE e19 kp; replace e18 := kt kp e18; refine Z0e 20 hE k rfl (by rfl) (by rfl) rfl rfl (.inl e18) ?_
 intro a20 hE e20 kp; replace e18 := kt kp e18; refine Z0e 21 hE k rfl (by rfl) (by rfl) rfl rfl (.inl e18) ?_
 intro a21 hE e21 kp; replace e18 := kt kp e18; refine Z0e 22 hE k rfl (by rfl) (by rfl) rfl rfl (.inl e18) ?_
 intro a22 hE e22 kp; replace e18 := kt kp e18; refine Z0e 23 hE k rfl (by rfl) (by rfl) rfl rfl (.inr e22) ?_
 intro a23 hE e23 kp; replace e18 := kt kp e18; replace e22 := kt kp e22; refine Z0e 24 hE k rfl (by rfl) (by rfl) rfl rfl (.inr e22) ?_
 intro a24 hE e24 kp; replace e18 := kt kp e18; replace e22 := kt kp e22; refine Z0e 25 hE k rfl (by rfl) (by rfl) rfl rfl (.inr e22) ?_
 intro a25 hE e25 kp; replace e18 := kt kp e18; replace e22 := kt kp e22; refine Z0e 26 hE k rfl (by rfl) (by rfl) rfl rfl (.inr e22) ?_
 intro a26 hE e26 kp; replace e18 := kt kp e18; replace e22 := kt kp e22; refine Z0e 27 hE k rfl (by rfl) (by rfl) rfl rfl (.inl e18) ?_
 intro a27 hE e27 kp; replace e18 := kt kp e18; refine Z0e 28 hE k rfl (by rfl) (by rfl) rfl rfl (.inl e18) ?_
 intro a28 hE e28 kp; replace e18 := kt kp e18; refine Z0e 29 hE k rfl (by rfl) (by rfl) rfl rfl (.inr e28) ?_
 intro a29 hE e29 kp; replace e18 := kt kp e18; replace e28 := kt kp e28; refine Z0e 30 hE k rfl (by rfl) (by rfl) rfl rfl (.inr e28) ?_
 intro a30 hE e30 kp; replace e18 := kt kp e18; replace e28 := kt kp e28; refine Z0e 31 hE k rfl (by rfl) (by rfl) rfl rfl (.inr e28) ?_
 intro a31 hE e31 kp; replace e18 := kt kp e18; replace e28 := kt kp e28; refine Z0e 32 hE k rfl (by rfl) (by rfl) rfl rfl (.inr e31) ?_
 intro a32 hE e32 kp; replace e18 := kt kp e18; replace e28 := kt kp e28; replace e31 := kt kp e31; refine Z0e 33 hE k rfl (by rfl) (by rfl) rfl rfl (.inr e31) ?_
 intro a33 hE e33 kp; replace e18 := kt kp e18; replace e28 := kt kp e28; replace e31 := kt kp e31; refine Z0e 34 hE k rfl (by rfl) (by rfl) rfl rfl (.inr e31) ?_
 intro a34 hE e34 kp; replace e18 := kt kp e18; replace e28 := kt kp e28; replace e31 := kt kp e31; replace e33 := kt kp e33; refine Z0e 35 hE k rfl (by rfl) (by rfl) rfl rfl (.inr e31) ?_
 intro a35 hE e35 kp; replace e18 := kt kp e18; replace e28 := kt kp e28; replace e31 := kt kp e31; refine Z0e 36 hE k rfl (by rfl) (by rfl) rfl rfl (.inr e28) ?_
 intro a36 hE e36 kp; replace e18 := kt kp e18; replace e28 := kt kp e28; refine Z0e 37 hE k rfl (by rfl) (by rfl) rfl rfl (.inl e18) ?_
 intro a37 hE e37 kp; replace e18 := kt kp e18; refine sd 38 hE k (Z07 rfl e18 rfl) ?_; intro a38 hE e38 kp; refine wpList_nil ?_; replace e6 := hE.g e6; replace e8 := hE.g e8; replace e9 := hE.g e9; replace k := k.env hE; clear hE e2; refine Z00 ?_; refine Z06 e38 rfl ?_
 refine wp_skip ?_; refine Z00 (wp_seq ?_); refine wp_seq ?_; refine wp_region_lit ?_
 have hE := Env.refl a38 [39, 40]; refine zm 39 hE k e9 ?_; intro a39 hE e39 kp; refine sd 40 hE k (Z05 (Z0q rfl e39 rfl) (decide_eq_true (by omega))) ?_
 intro a40 hE e40 kp; refine wpList_nil ?_; replace e6 := hE.g e6; replace e8 := hE.g e8; replace e9 := hE.g e9; replace k := k.env hE; clear hE e38; refine Z00 ?_; refine Z0h e40 rfl ?_
 refine wp_seq ?_; refine wp_region_lit ?_
 have hE := Env.refl a40 [41, 42, 7]; apply Z03 41 hE k rfl rfl rfl rfl; case h =>
  simp [go_sem, ↓IntWalk.iteOmega]
  with_reducible rfl
 intro a41 hE e41 kp; refine zm 42 hE k e9 ?_; intro a42 hE e42 kp; replace e41 := kt kp e41; refine Z1f O 4 0 hE (hE.g e6) e41 ?_
 clear O; intro w43 O; replace O : OwnT _ _ (_ :: _ :: _ :: _ :: (tBlk rb 46 #[.int .i64 0, .slice none 0 0]) :: _) w43 := O
 refine sd 7 hE k (Z01 rfl e42) ?_; intro a44 hE e7 kp; refine wpList_nil ?_; replace e6 := hE.g e6; replace k := k.env hE; clear hE e8 e9 e40; refine Z00 ?_; refine wp_ret ?_
 refine Z0o ?_
 have q0 : w43.cell? ⟨rb, 0, none⟩ = some (.int .i64 0) := (OwnT.blk O 4 rfl).cell 0
 have q1 : w43.cell? ⟨rb, 1, none⟩ = some (.slice none 0 0) := (OwnT.blk O 4 rfl).cell 1
 refine Z3a rfl k e6 e7 (v := .agg #[.int .i64 0, .slice none 0 0]) (by simp [go_sem, ↓IntWalk.iteOmega, q0, q1]) ?_
 exact ⟨rfl, OwnT.pickR (L := [_, _, _, _, _]) (R := R) O [1, 2, 3] (by decide)⟩
set_option maxRecDepth 100000 in
set_option maxHeartbeats 4000000 in
theorem wfail {H : Nat} {A0 : World} {L : List Thing} {gw : Nat} (er : Int) (w : World) (O : OwnT H A0 (tBlk gw 157 #[.slice none 0 0, .slice none 0 0, .int .i64 0] :: L) w) : Calls Try.prog 115 #[.pointer (some ⟨gw, 0, none⟩), .int .i64 er] w fun e w' => e = .returned (.tuple #[]) ∧ OwnT H A0 (tBlk gw 157 #[.slice none 0 0, .slice none 0 0, .int .i64 er] :: L) w' := by
 refine Z0a Try.func115 rfl 13 rfl (by rfl) ?_
 intro a1 k hargs; have e0 : a1.eval (.tmp 0) = .pointer (some ⟨gw, 0, none⟩) := hargs 0 _ rfl
 have e1 : a1.eval (.tmp 1) = .int .i64 er := hargs 1 _ rfl
 clear hargs; refine wp_seq ?_; refine wp_region_lit ?_
 have hE := Env.refl a1 [4, 5, 6, 7, 8]; refine zm 4 hE k e0 ?_; intro a2 hE e4 kp; refine sd 5 hE k (Z17 rfl e4) ?_; intro a3 hE e5 kp; apply Z03 6 hE k rfl rfl rfl rfl; case h =>
  simp [go_sem, ↓IntWalk.iteOmega, ev e5]
  with_reducible rfl
 intro a4 hE e6 kp; refine sd 7 hE k (Z08 O 0 rfl rfl e6 rfl Try.underlying23 rfl) ?_; intro a5 hE e7 kp; refine sd 8 hE k (Z05 (Z12 rfl e7 rfl) (decide_eq_true (by omega))) ?_
 intro a6 hE e8 kp; refine wpList_nil ?_; replace e0 := hE.g e0; replace e1 := hE.g e1; replace k := k.env hE; clear hE; refine Z00 ?_; refine Z0h e8 rfl ?_
 refine wp_region_lit ?_
 have hE := Env.refl a6 [9, 10, 11, 12]; refine zm 9 hE k e0 ?_; intro a7 hE e9 kp; refine zm 10 hE k e1 ?_; intro a8 hE e10 kp; replace e9 := kt kp e9; refine sd 11 hE k (Z17 rfl e9) ?_; intro a9 hE e11 kp; replace e10 := kt kp e10; apply Z03 12 hE k rfl rfl rfl rfl; case h =>
  simp [go_sem, ↓IntWalk.iteOmega, ev e11]
  with_reducible rfl
 intro a10 hE e12 kp; replace e10 := kt kp e10; refine Z1f O 0 2 hE e12 e10 ?_
 clear O; intro w11 O; replace O : OwnT _ _ ((tBlk gw 157 #[.slice none 0 0, .slice none 0 0, .int .i64 er]) :: _) w11 := O
 refine wpList_nil ?_; replace k := k.env hE; clear hE e0 e1 e8 e10 e12; refine end_F0 rfl k ?_
 exact ⟨rfl, O⟩
set_option maxRecDepth 100000 in
set_option maxHeartbeats 4000000 in
theorem wnodeBad {H : Nat} {A0 : World} {R : List Thing} {sb cap : Nat} {room : Int} {B : Option Addr} {vs : List Value} {N : List Nd} {q : Int} {gw : Nat} (w : World) (O : OwnT H A0 (shT sb room B cap vs N (tBlk gw 157 #[.slice none 0 0, .slice none 0 0, .int .i64 0] :: R)) w) (hN : N.length ≤ 1000000) (hq : ¬ (1 ≤ q ∧ q ≤ N.length)) : Calls Try.prog 94 #[.pointer (some ⟨gw, 0, none⟩), .iface 47 (.pointer (some ⟨sb, 0, none⟩)), .int .i64 q, .int .i64 (-1), .agg #[.int .u64 0, .bool false, .int .u64 0, .bool false]] w fun e w' => e = .returned (.tuple #[]) ∧ OwnT H A0 (shT sb room B cap vs N (tBlk gw 157 #[.slice none 0 0, .slice none 0 0, .int .i64 3] :: R)) w' := by
 refine Z0a Try.func94 rfl 117 rfl (by rfl) ?_
 intro a1 k hargs; have e0 : a1.eval (.tmp 0) = .pointer (some ⟨gw, 0, none⟩) := hargs 0 _ rfl
 have e1 : a1.eval (.tmp 1) = .iface 47 (.pointer (some ⟨sb, 0, none⟩)) := hargs 1 _ rfl
 have e2 : a1.eval (.tmp 2) = .int .i64 q := hargs 2 _ rfl
 have e3 : a1.eval (.tmp 3) = .int .i64 ((-1)) := hargs 3 _ rfl
 have e4 : a1.eval (.tmp 4) = .agg #[.int .u64 0, .bool false, .int .u64 0, .bool false] := hargs 4 _ rfl
 clear hargs; refine wp_seq ?_; refine wp_region_lit ?_
 have hE := Env.refl a1 [9]; refine Z0k O (cs := #[.int .u64 0, .bool false, .int .u64 0, .bool false]) (t := 179) 9 hE k rfl (by rfl) (by rfl) rfl (by simp [go_sem, ↓IntWalk.iteOmega, ev (hE.g e4)]) ?_
 clear O; intro bx a2 w3 O hE e9 kp; refine wpList_nil ?_; replace e0 := hE.g e0; replace e1 := hE.g e1; replace e2 := hE.g e2; replace e3 := hE.g e3; replace k := k.env hE; clear hE e4; refine Z00 (wp_seq ?_); refine wp_seq ?_; refine wp_region_lit ?_
 have hE := Env.refl a2 [15, 16, 17, 18, 19]; refine zm 15 hE k e0 ?_; intro a4 hE e15 kp; refine sd 16 hE k (Z17 rfl e15) ?_; intro a5 hE e16 kp; apply Z03 17 hE k rfl rfl rfl rfl; case h =>
  simp [go_sem, ↓IntWalk.iteOmega, ev e16]
  with_reducible rfl
 intro a6 hE e17 kp; refine sd 18 hE k (Z08 O 4 rfl rfl e17 rfl Try.underlying23 rfl) ?_; intro a7 hE e18 kp; refine sd 19 hE k (Z05 (Z0q rfl e18 rfl) (decide_eq_false (by omega))) ?_
 intro a8 hE e19 kp; refine wpList_nil ?_; replace e0 := hE.g e0; replace e1 := hE.g e1; replace e2 := hE.g e2; replace e3 := hE.g e3; replace e9 := hE.g e9; replace k := k.env hE; clear hE; refine Z00 ?_; refine Z06 e19 rfl ?_
 refine wp_skip ?_; refine Z00 ?_; replace O : OwnT _ _ ((tBlk sb 49 #[.slice B N.length cap, .int .i64 room]) :: (tRow 46 2 (.slice B N.length cap) N.length (leafV vs N)) :: (tPool vs N) :: (tBlk gw 157 #[.slice none 0 0, .slice none 0 0, .int .i64 0]) :: (tBlk bx 179 #[.int .u64 0, .bool false, .int .u64 0, .bool false]) :: R) w3 := OwnT.pickR (L := [_, _, _, _, _]) (R := R) O [1, 2, 3, 4, 0] (by decide)
 refine wp_seq ?_; refine wp_region_lit ?_
 have hE := Env.refl a8 [21, 22, 23, 24, 20, 25, 26, 10, 11]; refine zm 21 hE k e1 ?_; intro a9 hE e21 kp; refine zm 22 hE k e2 ?_; intro a10 hE e22 kp; replace e21 := kt kp e21; refine zm 23 hE k e3 ?_; intro a11 hE e23 kp; replace e21 := kt kp e21; replace e22 := kt kp e22; apply Z09 24 hE k rfl (by rfl) (by rfl) rfl
 case h =>
  simp [go_sem, ↓IntWalk.iteOmega, ev e21, ev e22, ev e23]
  with_reducible exact ⟨rfl, rfl⟩
 case hc => exact treadBad (R := _ :: _ :: R) _ O hN hq
 clear O; rintro e w13 ⟨rfl, O⟩
 refine ⟨_, rfl, ?_⟩
 intro a12 hE e24 kp; refine sd 20 hE k (Z02 rfl e24) ?_; intro a14 hE e20 kp; apply Z03 25 hE k rfl rfl rfl rfl; case h =>
  simp [go_sem, ↓IntWalk.iteOmega, ev e20]
  with_reducible rfl
 intro a15 hE e25 kp; replace e20 := kt kp e20; apply Z03 26 hE k rfl rfl rfl rfl; case h =>
  simp [go_sem, ↓IntWalk.iteOmega, ev e20]
  with_reducible rfl
 intro a16 hE e26 kp; replace e25 := kt kp e25; refine Z0k O (cs := #[.int .i64 0, .slice none 0 0]) (t := 46) 10 hE k rfl (by rfl) (by rfl) rfl (by simp [go_sem, ↓IntWalk.iteOmega]) ?_
 clear O; intro lb a17 w18 O hE e10 kp; replace e25 := kt kp e25; replace e26 := kt kp e26; refine Z1f O 0 0 hE e10 e25 ?_
 clear O; intro w19 O; replace O : OwnT _ _ ((tBlk lb 46 #[.int .i64 0, .slice none 0 0]) :: _) w19 := O
 refine sd 11 hE k (Z01 rfl e26) ?_; intro a20 hE e11 kp; replace e10 := kt kp e10; refine wpList_nil ?_; replace e0 := hE.g e0; replace e1 := hE.g e1; replace e2 := hE.g e2; replace e9 := hE.g e9; replace k := k.env hE; clear hE e3 e19; refine Z00 (wp_seq ?_); refine wp_block ?_; refine wp_seq ?_; refine wp_region_lit ?_
 have hE := Env.refl a20 [28, 29, 27]; refine zm 28 hE k e11 ?_; intro a21 hE e28 kp; refine sd 29 hE k (Z05 (Z12 rfl e28 rfl) (decide_eq_true (by omega))) ?_
 intro a22 hE e29 kp; refine sd 27 hE k (Z01 rfl e29) ?_; intro a23 hE e27 kp; refine wpList_nil ?_; replace e0 := hE.g e0; replace e1 := hE.g e1; replace e2 := hE.g e2; replace e9 := hE.g e9; replace e10 := hE.g e10; replace e11 := hE.g e11; replace k := k.env hE; clear hE; refine Z00 ?_; refine Z0h e27 rfl ?_
 replace O : OwnT _ _ ((tBlk gw 157 #[.slice none 0 0, .slice none 0 0, .int .i64 0]) :: (tBlk lb 46 #[.int .i64 0, .slice none 0 0]) :: (tBlk sb 49 #[.slice B N.length cap, .int .i64 room]) :: (tRow 46 2 (.slice B N.length cap) N.length (leafV vs N)) :: (tPool vs N) :: (tBlk bx 179 #[.int .u64 0, .bool false, .int .u64 0, .bool false]) :: R) w19 := OwnT.pickR (L := [_, _, _, _, _, _]) (R := R) O [4, 0, 1, 2, 3, 5] (by decide)
 refine wp_seq ?_; refine wp_region_lit ?_
 have hE := Env.refl a23 [30, 31]; refine zm 30 hE k e0 ?_; intro a24 hE e30 kp; apply Z09 31 hE k rfl (by rfl) (by rfl) rfl
 case h =>
  simp [go_sem, ↓IntWalk.iteOmega, ev e30]
  with_reducible exact ⟨rfl, rfl⟩
 case hc => exact wfail 3 _ O
 clear O; rintro e w26 ⟨rfl, O⟩
 refine ⟨_, rfl, ?_⟩
 intro a25 hE e31 kp; refine wpList_nil ?_; replace k := k.env hE; clear hE e0 e1 e2 e9 e10 e11 e27 e31; refine Z00 ?_; refine wp_ret ?_
 refine Z1l ?_
 refine Z0o ?_
 refine ret_F0 rfl k ?_
 exact ⟨rfl, OwnT.pickR (L := [_, _, _, _, _, _]) (R := R) O [2, 3, 4, 0] (by decide)⟩
set_option maxRecDepth 100000 in
set_option maxHeartbeats 4000000 in
theorem tallBad {H : Nat} {A0 : World} {R : List Thing} {sb cap : Nat} {room : Int} {B : Option Addr} {vs : List Value} {N : List Nd} {q : Int} (w : World) (O : OwnT H A0 (shT sb room B cap vs N R) w) (hN : N.length ≤ 1000000) (hq : ¬ (1 ≤ q ∧ q ≤ N.length)) (h0 : q ≠ 0) : Calls Try.prog 78 #[.iface 47 (.pointer (some ⟨sb, 0, none⟩)), .int .i64 q] w fun e w' => ∃ gw, e = .returned (.pointer (some ⟨gw, 0, none⟩)) ∧ OwnT H A0 (shT sb room B cap vs N (tBlk gw 157 #[.slice none 0 0, .slice none 0 0, .int .i64 3] :: R)) w' := by
 refine Z0a Try.func78 rfl 16 rfl (by rfl) ?_
 intro a1 k hargs; have e0 : a1.eval (.tmp 0) = .iface 47 (.pointer (some ⟨sb, 0, none⟩)) := hargs 0 _ rfl
 have e1 : a1.eval (.tmp 1) = .int .i64 q := hargs 1 _ rfl
 clear hargs; refine wp_seq ?_; refine wp_region_lit ?_
 have hE := Env.refl a1 [4]; refine sd 4 hE k (Z01 rfl rfl) ?_; intro a2 hE e4 kp; refine wpList_nil ?_; replace e0 := hE.g e0; replace e1 := hE.g e1; replace k := k.env hE; clear hE e4; refine Z00 (wp_seq ?_); refine wp_region_lit ?_
 have hE := Env.refl a2 [6, 7, 5]; apply Z03 6 hE k rfl rfl rfl rfl; case h =>
  simp [go_sem, ↓IntWalk.iteOmega]
  with_reducible rfl
 intro a3 hE e6 kp; refine Z0k O (cs := #[.slice none 0 0, .slice none 0 0, .int .i64 0]) (t := 157) 7 hE k rfl (by rfl) (by rfl) rfl (by simp [go_sem, ↓IntWalk.iteOmega, ev e6]) ?_
 clear O; intro gw a4 w5 O hE e7 kp; refine sd 5 hE k (Z01 rfl e7) ?_; intro a6 hE e5 kp; refine wpList_nil ?_; replace e0 := hE.g e0; replace e1 := hE.g e1; replace k := k.env hE; clear hE; refine Z00 ?_; replace O : OwnT _ _ ((tBlk sb 49 #[.slice B N.length cap, .int .i64 room]) :: (tRow 46 2 (.slice B N.length cap) N.length (leafV vs N)) :: (tPool vs N) :: (tBlk gw 157 #[.slice none 0 0, .slice none 0 0, .int .i64 0]) :: R) w5 := OwnT.pickR (L := [_, _, _, _]) (R := R) O [1, 2, 3, 0] (by decide)
 refine wp_seq ?_; refine wp_seq ?_; refine wp_region_lit ?_
 have hE := Env.refl a6 [8, 9]; refine zm 8 hE k e1 ?_; intro a7 hE e8 kp; refine sd 9 hE k (Z05 (Z0q rfl e8 rfl) (decide_eq_true h0)) ?_; intro a8 hE e9 kp; refine wpList_nil ?_; replace e0 := hE.g e0; replace e1 := hE.g e1; replace e5 := hE.g e5; replace k := k.env hE; clear hE; refine Z00 ?_; refine Z0h e9 rfl ?_
 refine wp_region_lit ?_
 have hE := Env.refl a8 [10, 11, 12, 13, 14]; refine zm 10 hE k e5 ?_; intro a9 hE e10 kp; refine zm 11 hE k e0 ?_; intro a10 hE e11 kp; replace e10 := kt kp e10; refine zm 12 hE k e1 ?_; intro a11 hE e12 kp; replace e10 := kt kp e10; replace e11 := kt kp e11; apply Z03 13 hE k rfl rfl rfl rfl; case h =>
  simp [go_sem, ↓IntWalk.iteOmega]
  with_reducible rfl
 intro a12 hE e13 kp; replace e10 := kt kp e10; replace e11 := kt kp e11; replace e12 := kt kp e12; apply Z09 14 hE k rfl (by rfl) (by rfl) rfl
 case h =>
  simp [go_sem, ↓IntWalk.iteOmega, ev e10, ev e11, ev e12, ev e13]
  with_reducible exact ⟨rfl, rfl⟩
 case hc => exact wnodeBad _ O hN hq
 clear O; rintro e w14 ⟨rfl, O⟩
 refine ⟨_, rfl, ?_⟩
 intro a13 hE e14 kp; refine wpList_nil ?_; replace e5 := hE.g e5; replace k := k.env hE; clear hE e0 e1 e9 e14; refine Z00 (wp_seq ?_); refine wp_region_lit ?_
 have hE := Env.refl a13 [15, 4]; refine zm 15 hE k e5 ?_; intro a15 hE e15 kp; refine sd 4 hE k (Z01 rfl e15) ?_; intro a16 hE e4 kp; refine wpList_nil ?_; replace k := k.env hE; clear hE e5; refine Z00 ?_; refine wp_ret ?_
 refine Z0v rfl k e4 ?_
 exact ⟨gw, rfl, O⟩
set_option maxRecDepth 100000 in
set_option maxHeartbeats 4000000 in
theorem tReachBad {H : Nat} {A0 : World} {R : List Thing} {sb cap : Nat} {room : Int} {B : Option Addr} {vs : List Value} {N : List Nd} {q : Int} (w : World) (O : OwnT H A0 (shT sb room B cap vs N R) w) (hN : N.length ≤ 1000000) (hq : ¬ (1 ≤ q ∧ q ≤ N.length)) (h0 : q ≠ 0) : Calls Try.prog 61 #[.iface 47 (.pointer (some ⟨sb, 0, none⟩)), .int .i64 q] w fun e w' => e = .returned (.tuple #[.slice none 0 0, .int .i64 3]) ∧ OwnT H A0 (shT sb room B cap vs N R) w' := by
 refine Z0a Try.func61 rfl 23 rfl (by rfl) ?_
 intro a1 k hargs; have e0 : a1.eval (.tmp 0) = .iface 47 (.pointer (some ⟨sb, 0, none⟩)) := hargs 0 _ rfl
 have e1 : a1.eval (.tmp 1) = .int .i64 q := hargs 1 _ rfl
 clear hargs; refine wp_seq ?_; refine wp_region_lit ?_
 have hE := Env.refl a1 [4, 5]; refine sd 4 hE k (Z01 rfl rfl) ?_; intro a2 hE e4 kp; refine sd 5 hE k (Z01 rfl rfl) ?_; intro a3 hE e5 kp; refine wpList_nil ?_; replace e0 := hE.g e0; replace e1 := hE.g e1; replace k := k.env hE; clear hE e5; refine Z00 (wp_seq ?_); refine wp_region_lit ?_
 have hE := Env.refl a3 [7, 8, 9, 6]; refine zm 7 hE k e0 ?_; intro a4 hE e7 kp; refine zm 8 hE k e1 ?_; intro a5 hE e8 kp; replace e7 := kt kp e7; apply Z09 9 hE k rfl (by rfl) (by rfl) rfl
 case h =>
  simp [go_sem, ↓IntWalk.iteOmega, ev e7, ev e8]
  with_reducible exact ⟨rfl, rfl⟩
 case hc => exact tallBad _ O hN hq h0
 clear O; rintro e w7 ⟨gw, rfl, O⟩
 refine ⟨_, rfl, ?_⟩
 intro a6 hE e9 kp; refine sd 6 hE k (Z01 rfl e9) ?_; intro a8 hE e6 kp; refine wpList_nil ?_; replace k := k.env hE; clear hE e0 e1; refine Z00 (wp_seq ?_); refine wp_seq ?_; refine wp_region_lit ?_
 have hE := Env.refl a8 [10, 11, 12, 13, 14]; refine zm 10 hE k e6 ?_; intro a9 hE e10 kp; refine sd 11 hE k (Z17 rfl e10) ?_; intro a10 hE e11 kp; apply Z03 12 hE k rfl rfl rfl rfl; case h =>
  simp [go_sem, ↓IntWalk.iteOmega, ev e11]
  with_reducible rfl
 intro a11 hE e12 kp; refine sd 13 hE k (Z08 O 3 rfl rfl e12 rfl Try.underlying23 rfl) ?_; intro a12 hE e13 kp; refine sd 14 hE k (Z05 (Z0q rfl e13 rfl) (decide_eq_true (by omega))) ?_
 intro a13 hE e14 kp; refine wpList_nil ?_; replace e6 := hE.g e6; replace k := k.env hE; clear hE; refine Z00 ?_; refine Z0h e14 rfl ?_
 refine wp_seq ?_; refine Z0b (R := Ext) (w0 := w7) [[], [0], [0, 1], [0, 1, 2], [], rg 5] [15, 16, 17, 18, 4, 5] Ext.refl (fun _ _ _ => Ext.trans) (Ext.drew _) (by kernel_rfl) ?_
 refine bd 15 k rfl rfl rfl (fun ax wx hE hR hF => Z02 rfl (hE.g e6)) ?_
 refine bd 16 k rfl rfl rfl (fun ax wx hE hR hF => have e15 := zhF hF 0 15 ml0; Z17 rfl e15) ?_
 apply bd 17 k rfl rfl rfl; case h =>
  intro ax wx hE hR hF; have e16 := zhF hF 1 16 ml0; simp [go_sem, ↓IntWalk.iteOmega, ev e16]
  with_reducible rfl
 refine bd 18 k rfl rfl rfl (fun ax wx hE hR hF => have e17 := zhF hF 2 17 ml0; Z08 (OwnT.ext O hR) 3 rfl rfl e17 rfl Try.underlying23 rfl) ?_
 refine bd 4 k rfl rfl rfl (fun ax wx hE hR hF => Z01 rfl rfl) ?_
 refine bd 5 k rfl rfl rfl (fun ax wx hE hR hF => have e18 := zhF hF 3 18 ml1; Z01 rfl e18) ?_
 apply Build.stop
 refine ⟨by kernel_rfl, .inl ⟨rfl, ?_⟩⟩
 intro a14 w15 hE R hF; have e4 : a14.eval (.tmp 4) = _ := hF 4 (det 4 _) ml1
 have e5 : a14.eval (.tmp 5) = _ := hF 5 (det 5 _) ml0
 clear hF; replace O := OwnT.ext O R; clear R; replace k := k.env hE; clear hE e6 e14; refine Z00 ?_; refine wp_ret ?_
 refine Z0o ?_
 refine Z1p rfl k e4 e5 ?_
 exact ⟨rfl, OwnT.pickR (L := [_, _, _, _]) (R := R) O [0, 1, 2] (by decide)⟩
set_option maxRecDepth 100000 in
set_option maxHeartbeats 4000000 in
theorem rcRootBad {H : Nat} {A0 : World} {R : List Thing} {sb cap : Nat} {room : Int} {B : Option Addr} {vs : List Value} {N : List Nd} {q : Int} {cb : Nat} (w : World) (O : OwnT H A0 (shT sb room B cap vs N R) w) (hN : N.length ≤ 1000000) (hq : ¬ (1 ≤ q ∧ q ≤ N.length)) (h0 : q ≠ 0) : Calls Try.prog 34 #[.pointer (some ⟨cb, 0, none⟩), .iface 47 (.pointer (some ⟨sb, 0, none⟩)), .int .i64 q] w fun e w' => e = .returned (.int .i64 3) ∧ OwnT H A0 (shT sb room B cap vs N R) w' := by
 refine Z0a Try.func34 rfl 44 rfl (by rfl) ?_
 intro a1 k hargs; have e0 : a1.eval (.tmp 0) = .pointer (some ⟨cb, 0, none⟩) := hargs 0 _ rfl
 have e1 : a1.eval (.tmp 1) = .iface 47 (.pointer (some ⟨sb, 0, none⟩)) := hargs 1 _ rfl
 have e2 : a1.eval (.tmp 2) = .int .i64 q := hargs 2 _ rfl
 clear hargs; refine wp_seq ?_; refine wp_region_lit ?_
 have hE := Env.refl a1 [6]; refine sd 6 hE k (Z01 rfl rfl) ?_; intro a2 hE e6 kp; refine wpList_nil ?_; replace e0 := hE.g e0; replace e1 := hE.g e1; replace e2 := hE.g e2; replace k := k.env hE; clear hE e6; refine Z00 (wp_seq ?_); refine wp_seq ?_; refine wp_region_lit ?_
 have hE := Env.refl a2 [12, 13]; refine zm 12 hE k e2 ?_; intro a3 hE e12 kp; refine sd 13 hE k (Z05 (Z12 rfl e12 rfl) (decide_eq_false h0)) ?_; intro a4 hE e13 kp; refine wpList_nil ?_; replace e0 := hE.g e0; replace e1 := hE.g e1; replace e2 := hE.g e2; replace k := k.env hE; clear hE; refine Z00 ?_; refine Z06 e13 rfl ?_
 refine wp_skip ?_; refine Z00 (wp_seq ?_); refine wp_region_lit ?_
 have hE := Env.refl a4 [15, 16, 17, 14, 18, 19, 7, 8]; refine zm 15 hE k e1 ?_; intro a5 hE e15 kp; refine zm 16 hE k e2 ?_; intro a6 hE e16 kp; replace e15 := kt kp e15; apply Z09 17 hE k rfl (by rfl) (by rfl) rfl
 case h =>
  simp [go_sem, ↓IntWalk.iteOmega, ev e15, ev e16]
  with_reducible exact ⟨rfl, rfl⟩
 case hc => exact tReachBad _ O hN hq h0
 clear O; rintro e w8 ⟨rfl, O⟩
 refine ⟨_, rfl, ?_⟩
 intro a7 hE e17 kp; refine sd 14 hE k (Z02 rfl e17) ?_; intro a9 hE e14 kp; apply Z03 18 hE k rfl rfl rfl rfl; case h =>
  simp [go_sem, ↓IntWalk.iteOmega, ev e14]
  with_reducible rfl
 intro a10 hE e18 kp; replace e14 := kt kp e14; apply Z03 19 hE k rfl rfl rfl rfl; case h =>
  simp [go_sem, ↓IntWalk.iteOmega, ev e14]
  with_reducible rfl
 intro a11 hE e19 kp; replace e18 := kt kp e18; refine sd 7 hE k (Z01 rfl e18) ?_; intro a12 hE e7 kp; replace e19 := kt kp e19; refine sd 8 hE k (Z01 rfl e19) ?_; intro a13 hE e8 kp; replace e7 := kt kp e7; refine wpList_nil ?_; replace e0 := hE.g e0; replace e1 := hE.g e1; replace e2 := hE.g e2; replace k := k.env hE; clear hE e13; refine Z00 (wp_seq ?_); refine wp_seq ?_; refine wp_region_lit ?_
 have hE := Env.refl a13 [20, 21]; refine zm 20 hE k e8 ?_; intro a14 hE e20 kp; refine sd 21 hE k (Z05 (Z0q rfl e20 rfl) (decide_eq_true (by omega))) ?_
 intro a15 hE e21 kp; refine wpList_nil ?_; replace e0 := hE.g e0; replace e1 := hE.g e1; replace e2 := hE.g e2; replace e7 := hE.g e7; replace e8 := hE.g e8; replace k := k.env hE; clear hE; refine Z00 ?_; refine Z0h e21 rfl ?_
 refine wp_seq ?_; refine wp_region_lit ?_
 have hE := Env.refl a15 [22, 6]; refine zm 22 hE k e8 ?_; intro a16 hE e22 kp; refine sd 6 hE k (Z01 rfl e22) ?_; intro a17 hE e6 kp; refine wpList_nil ?_; replace k := k.env hE; clear hE e0 e1 e2 e7 e8 e21; refine Z00 ?_; refine wp_ret ?_
 refine Z0o ?_
 refine Z0v rfl k e6 ?_
 exact ⟨rfl, O⟩
set_option maxRecDepth 100000 in
set_option maxHeartbeats 4000000 in
theorem rcRefsBad {H : Nat} {A0 : World} {R : List Thing} {sb cap : Nat} {room : Int} {B : Option Addr} {vs : List Value} {N : List Nd} {q cr : Nat} {Br : Option Addr} (w : World) (O : OwnT H A0 (shT sb room B cap vs N (tNs (.slice Br 1 cr) [q] :: R)) w) (hN : N.length ≤ 1000000) (hq : ¬ (1 ≤ q ∧ q ≤ N.length)) (h0 : q ≠ 0) : Calls Try.prog 14 #[.iface 47 (.pointer (some ⟨sb, 0, none⟩)), .slice Br 1 cr] w fun e w' => e = .returned (.tuple #[.slice none 0 0, .int .i64 3]) ∧ OwnT H A0 (shT sb room B cap vs N R) w' := by
 refine Z0a Try.func14 rfl 55 rfl (by rfl) ?_
 intro a1 k hargs; have e0 : a1.eval (.tmp 0) = .iface 47 (.pointer (some ⟨sb, 0, none⟩)) := hargs 0 _ rfl
 have e1 : a1.eval (.tmp 1) = .slice Br 1 cr := hargs 1 _ rfl
 clear hargs; refine wp_seq ?_; refine wp_region_lit ?_
 have hE := Env.refl a1 [4, 5]; refine sd 4 hE k (Z01 rfl rfl) ?_; intro a2 hE e4 kp; refine sd 5 hE k (Z01 rfl rfl) ?_; intro a3 hE e5 kp; refine wpList_nil ?_; replace e0 := hE.g e0; replace e1 := hE.g e1; replace k := k.env hE; clear hE e5; refine Z00 (wp_seq ?_); refine wp_region_lit ?_
 have hE := Env.refl a3 [13, 14, 15, 16, 6]; refine Z7j O 13 hE k rfl (by rfl) (by rfl) rfl (by simp [go_sem, ↓IntWalk.iteOmega, @run_makeMap Try.prog]) ?_
 clear O; intro lb a4 w5 O hE e13 kp; refine Z7j O 14 hE k rfl (by rfl) (by rfl) rfl (by simp [go_sem, ↓IntWalk.iteOmega, @run_makeMap Try.prog]) ?_
 clear O; intro sm a6 w7 O hE e14 kp; replace e13 := kt kp e13; apply Z03 15 hE k rfl rfl rfl rfl; case h =>
  simp [go_sem, ↓IntWalk.iteOmega, ev e13, ev e14]
  with_reducible rfl
 intro a8 hE e15 kp; refine Z0k O (cs := #[.map (some lb), .map (some sm)]) (t := 90) 16 hE k rfl (by rfl) (by rfl) rfl (by simp [go_sem, ↓IntWalk.iteOmega, ev e15]) ?_
 clear O; intro cb a9 w10 O hE e16 kp; refine sd 6 hE k (Z01 rfl e16) ?_; intro a11 hE e6 kp; refine wpList_nil ?_; replace e0 := hE.g e0; replace e1 := hE.g e1; replace k := k.env hE; clear hE; refine Z00 ?_; replace O : OwnT _ _ ((tBlk sb 49 #[.slice B N.length cap, .int .i64 room]) :: (tRow 46 2 (.slice B N.length cap) N.length (leafV vs N)) :: (tPool vs N) :: (tNs (.slice Br 1 cr) [q]) :: (tBlk cb 90 #[.map (some lb), .map (some sm)]) :: (tMap lb 0 (fun _ => none)) :: (tMap sm 0 (fun _ => none)) :: R) w10 := OwnT.pickR (L := [_, _, _, _, _, _, _]) (R := R) O [3, 4, 5, 6, 0, 2, 1] (by decide)
 refine wp_seq ?_; refine wp_seq ?_; refine wp_region_lit ?_
 have hE := Env.refl a11 [17, 18, 19]; refine zm 17 hE k e1 ?_; intro a12 hE e17 kp; refine sd 18 hE k (Z0j Try.underlying43 rfl e17) ?_; intro a13 hE e18 kp; replace e17 := kt kp e17; refine sd 19 hE k (Z02 rfl rfl) ?_; intro a14 hE e19 kp; replace e17 := kt kp e17; replace e18 := kt kp e18; refine wpList_nil ?_; replace e0 := hE.g e0; replace e6 := hE.g e6; replace k := k.env hE; clear hE e1; refine Z00 ?_; refine wp_block ?_; obtain ⟨gp, rfl, -⟩ := Z66 (z := 0) (v := q) (OwnT.get O 3 rfl) rfl
 refine wp_loop (fun a w => Fr 55 a ∧ a.eval (.tmp 0) = .iface 47 (.pointer (some ⟨sb, 0, none⟩)) ∧ a.eval (.tmp 6) = .pointer (some ⟨cb, 0, none⟩) ∧ a.eval (.tmp 17) = .slice (some ⟨gp, 0, none⟩) 1 cr ∧ a.eval (.tmp 18) = .int .i64 1 ∧ ∃ (_ : Unit), a.eval (.tmp 19) = .int .i64 0 ∧ OwnT H A0 ((tBlk sb 49 #[.slice B N.length cap, .int .i64 room]) :: (tRow 46 2 (.slice B N.length cap) N.length (leafV vs N)) :: (tPool vs N) :: (tNs (.slice (some ⟨gp, 0, none⟩) 1 cr) [q]) :: (tBlk cb 90 #[.map (some lb), .map (some sm)]) :: (tMap lb 0 (fun _ => none)) :: (tMap sm 0 (fun _ => none)) :: R) w) (fun a w => 1) ?_ ?_
 · exact ⟨k, e0, e6, e17, e18, (), e19, O⟩
 intro a15 w16 hI; clear k e0 e6 e17 e18; obtain ⟨k, e0, e6, e17, e18, h_⟩ := hI
 clear O e19; obtain ⟨-, e19, O⟩ := h_
 obtain ⟨_, e, d0⟩ := Z66 (z := 0) (v := q) (OwnT.get O 3 rfl) rfl; injection e with e; injection e with e; subst e
 refine wp_seq ?_; refine wp_region_lit ?_
 have hE := Env.refl a15 [20]; refine sd 20 hE k (Z05 (Z1d rfl (hE.g e19) (hE.g e18)) (decide_eq_true (by omega))) ?_
 intro a17 hE e20 kp; refine wpList_nil ?_; replace e0 := hE.g e0; replace e6 := hE.g e6; replace e17 := hE.g e17; replace e18 := hE.g e18; replace e19 := hE.g e19; replace k := k.env hE; clear hE; refine Z00 (wp_seq ?_); refine Z0h e20 rfl ?_
 refine wp_skip ?_; refine Z00 (wp_seq ?_); refine wp_block ?_; refine wp_seq ?_; refine wp_region_lit ?_
 have hE := Env.refl a17 [21, 22, 8]; apply Z03 21 hE k rfl rfl rfl rfl; case h =>
  simp [go_sem, ↓IntWalk.iteOmega, ev (hE.g e17), ev (hE.g e19)]
  with_reducible rfl
 intro a18 hE e21 kp; apply Z03 22 hE k rfl rfl rfl rfl; case h =>
  simp [go_sem, ↓IntWalk.iteOmega, ev e21, d0]
  with_reducible rfl
 intro a19 hE e22 kp; refine sd 8 hE k (Z01 rfl e22) ?_; intro a20 hE e8 kp; refine wpList_nil ?_; replace e0 := hE.g e0; replace e6 := hE.g e6; replace e17 := hE.g e17; replace e18 := hE.g e18; replace e19 := hE.g e19; replace k := k.env hE; clear hE e20; refine Z00 ?_; clear d0; refine wp_seq ?_; refine wp_region_lit ?_
 have hE := Env.refl a20 [23, 24, 25, 26, 9]; refine zm 23 hE k e6 ?_; intro a21 hE e23 kp; refine zm 24 hE k e0 ?_; intro a22 hE e24 kp; replace e23 := kt kp e23; refine zm 25 hE k e8 ?_; intro a23 hE e25 kp; replace e23 := kt kp e23; replace e24 := kt kp e24; apply Z09 26 hE k rfl (by rfl) (by rfl) rfl
 case h =>
  simp [go_sem, ↓IntWalk.iteOmega, ev e23, ev e24, ev e25]
  with_reducible exact ⟨rfl, rfl⟩
 case hc => exact rcRootBad (q := q) (R := _ :: _ :: _ :: _ :: R) _ O hN (fun h => hq ⟨by omega, by omega⟩) (by omega)
 clear O; rintro e w25 ⟨rfl, O⟩
 refine ⟨_, rfl, ?_⟩
 intro a24 hE e26 kp; refine sd 9 hE k (Z01 rfl e26) ?_; intro a26 hE e9 kp; refine wpList_nil ?_; replace e0 := hE.g e0; replace e6 := hE.g e6; replace e17 := hE.g e17; replace e18 := hE.g e18; replace e19 := hE.g e19; replace k := k.env hE; clear hE e8; refine Z00 (wp_seq ?_); refine wp_region_lit ?_
 have hE := Env.refl a26 [27, 28]; refine zm 27 hE k e9 ?_; intro a27 hE e27 kp; refine sd 28 hE k (Z05 (Z0q rfl e27 rfl) (decide_eq_true (by omega))) ?_
 intro a28 hE e28 kp; refine wpList_nil ?_; replace e0 := hE.g e0; replace e6 := hE.g e6; replace e9 := hE.g e9; replace e17 := hE.g e17; replace e18 := hE.g e18; replace e19 := hE.g e19; replace k := k.env hE; clear hE; refine Z00 ?_; refine Z0h e28 rfl ?_
 refine wp_seq ?_; refine wp_region_lit ?_
 have hE := Env.refl a28 [29, 4, 5]; refine zm 29 hE k e9 ?_; intro a29 hE e29 kp; refine sd 4 hE k (Z01 rfl rfl) ?_; intro a30 hE e4 kp; replace e29 := kt kp e29; refine sd 5 hE k (Z01 rfl e29) ?_; intro a31 hE e5 kp; replace e4 := kt kp e4; refine wpList_nil ?_; replace k := k.env hE; clear hE e0 e6 e9 e17 e18 e19 e28; refine Z00 ?_; refine wp_ret ?_
 refine Z1l ?_
 refine Z0o ?_
 refine Z0o ?_
 refine Z1l ?_
 refine Z0o ?_
 refine Z1p rfl k e4 e5 ?_
 exact ⟨rfl, OwnT.pickR (L := [_, _, _, _, _, _, _]) (R := R) O [0, 1, 2] (by decide)⟩
set_option maxRecDepth 100000 in
set_option maxHeartbeats 4000000 in
theorem rcGrown {H : Nat} {A0 : World} {R : List Thing} {sb cap : Nat} {room : Int} {B : Option Addr} {vs : List Value} (n : Nat) (w : World) (O : OwnT H A0 (shT sb room B cap vs ([]) R) w) (hn : 5 * n ≤ 500) (hr : ((5 * n : Nat) : Int) ≤ room) : Calls Try.prog 33 #[.pointer (some ⟨sb, 0, none⟩), .int .i64 n] w fun e w' => ∃ N', ∃ r : Nat, ∃ P : List Pr, ∃ B' cap' vs', e = .returned (.int .i64 r) ∧ OwnT H A0 (shT sb room B' cap' vs' N' R) w' ∧ N'.length ≤ 5 * n ∧ Tre N' r (if n = 0 then 0 else 7 + n) P ∧ P.length = n := by
 refine Z0a Try.func33 rfl 29 rfl (by rfl) ?_
 intro a1 k hargs; have e0 : a1.eval (.tmp 0) = .pointer (some ⟨sb, 0, none⟩) := hargs 0 _ rfl
 have e1 : a1.eval (.tmp 1) = .int .i64 ↑n := hargs 1 _ rfl
 clear hargs; refine wp_seq ?_; refine wp_region_lit ?_
 have hE := Env.refl a1 [4]; refine sd 4 hE k (Z01 rfl rfl) ?_; intro a2 hE e4 kp; refine wpList_nil ?_; replace e0 := hE.g e0; replace e1 := hE.g e1; replace k := k.env hE; clear hE e4; refine Z00 (wp_seq ?_); refine wp_region_lit ?_
 have hE := Env.refl a2 [5]; refine sd 5 hE k (Z01 rfl rfl) ?_; intro a3 hE e5 kp; refine wpList_nil ?_; replace e0 := hE.g e0; replace e1 := hE.g e1; replace k := k.env hE; clear hE; refine Z00 (wp_seq ?_); refine wp_seq ?_; refine wp_region_lit ?_
 have hE := Env.refl a3 [6]; refine sd 6 hE k (Z01 rfl rfl) ?_; intro a4 hE e6 kp; refine wpList_nil ?_; replace e0 := hE.g e0; replace e1 := hE.g e1; replace e5 := hE.g e5; replace k := k.env hE; clear hE; refine Z00 ?_; refine wp_block ?_; refine wp_loop (fun a w => Fr 29 a ∧ a.eval (.tmp 0) = .pointer (some ⟨sb, 0, none⟩) ∧ a.eval (.tmp 1) = .int .i64 ↑n ∧ ∃ (i rt : Nat) (P : List Pr) (N : List Nd) (B1 : Option Addr) (cap1 : Nat) (vs1 : List Value), a.eval (.tmp 5) = .int .i64 ↑rt ∧ a.eval (.tmp 6) = .int .i64 ↑i ∧ i ≤ n ∧ N.length ≤ 5 * i ∧ Tre N rt (if i = 0 then 0 else 7 + i) P ∧ P.length = i ∧ (∀ y ∈ P, y.1 < i) ∧ OwnT H A0 ((tBlk sb 49 #[.slice B1 N.length cap1, .int .i64 room]) :: (tRow 46 2 (.slice B1 N.length cap1) N.length (leafV vs1 N)) :: (tPool vs1 N) :: R) w) (fun a w => n - (intOf (a.eval (.tmp 6))).toNat) ?_ ?_
 · exact ⟨k, e0, e1, 0, 0, [], [], B, cap, vs, e5, e6, Nat.zero_le _, Nat.zero_le _, Tre.zero [], rfl, (fun y h => by cases h), O⟩
 intro a5 w6 hI; clear k e0 e1; obtain ⟨k, e0, e1, h_⟩ := hI
 clear O e5 e6; obtain ⟨i, rt, P, N, B1, cap1, vs1, e5, e6, hi, hN, hT, hPl, hPk, O⟩ := h_
 have mi := e6
 by_cases hlt : i < n
 · have hltI : (i : Int) < (n : Int) := by omega
   refine wp_seq ?_; refine wp_seq ?_; refine wp_region_lit ?_
   have hE := Env.refl a5 [9, 10, 11]; refine zm 9 hE k e6 ?_; intro a7 hE e9 kp; refine zm 10 hE k e1 ?_; intro a8 hE e10 kp; replace e9 := kt kp e9; refine sd 11 hE k (Z05 (Z1d rfl e9 e10) (decide_eq_true (by omega))) ?_
   intro a9 hE e11 kp; refine wpList_nil ?_; replace e0 := hE.g e0; replace e1 := hE.g e1; replace e5 := hE.g e5; replace e6 := hE.g e6; replace k := k.env hE; clear hE; refine Z00 ?_; refine Z0h e11 rfl ?_
   refine wp_skip ?_; refine Z00 (wp_seq ?_); refine wp_block ?_; refine wp_seq ?_; refine wp_region_lit ?_
   have hE := Env.refl a9 [15, 16, 17, 18, 19, 20, 21, 22, 14, 23, 24, 7, 8]; refine zm 15 hE k e0 ?_; intro a10 hE e15 kp; apply Z03 16 hE k rfl rfl rfl rfl; case h =>
    simp [go_sem, ↓IntWalk.iteOmega, ev e15]
    with_reducible rfl
   intro a11 hE e16 kp; refine zm 17 hE k e5 ?_; intro a12 hE e17 kp; replace e16 := kt kp e16; refine zm 18 hE k e6 ?_; intro a13 hE e18 kp; replace e16 := kt kp e16; replace e17 := kt kp e17; refine sd 19 hE k (Z2r rfl e18 (Z3r i _ (by omega))) ?_
   intro a14 hE e19 kp; replace e16 := kt kp e16; replace e17 := kt kp e17; refine zm 20 hE k e6 ?_; intro a15 hE e20 kp; replace e16 := kt kp e16; replace e17 := kt kp e17; replace e19 := kt kp e19; refine sd 21 hE k (Z2r rfl e20 (Z3r i _ (by omega))) ?_
   intro a16 hE e21 kp; replace e16 := kt kp e16; replace e17 := kt kp e17; replace e19 := kt kp e19; apply Z09 22 hE k rfl (by rfl) (by rfl) rfl
   case h =>
    simp [go_sem, ↓IntWalk.iteOmega, ev e16, ev e17, ev e19, ev e21]
    with_reducible exact ⟨rfl, rfl⟩
   case hc => exact lPut (ky := i) (vl := i) _ O hT (by split <;> omega) (by omega) (by omega) (by omega)
   clear O; rintro e w18 ⟨N2, r2, er, B2, cap2, vs2, rfl, O, hPL⟩
   refine ⟨_, rfl, ?_⟩
   intro a17 hE e22 kp; refine sd 14 hE k (Z02 rfl e22) ?_; intro a19 hE e14 kp; apply Z03 23 hE k rfl rfl rfl rfl; case h =>
    simp [go_sem, ↓IntWalk.iteOmega, ev e14]
    with_reducible rfl
   intro a20 hE e23 kp; replace e14 := kt kp e14; apply Z03 24 hE k rfl rfl rfl rfl; case h =>
    simp [go_sem, ↓IntWalk.iteOmega, ev e14]
    with_reducible rfl
   intro a21 hE e24 kp; replace e23 := kt kp e23; refine sd 7 hE k (Z01 rfl e23) ?_; intro a22 hE e7 kp; replace e24 := kt kp e24; refine sd 8 hE k (Z01 rfl e24) ?_; intro a23 hE e8 kp; replace e7 := kt kp e7; refine wpList_nil ?_; replace e0 := hE.g e0; replace e1 := hE.g e1; replace e6 := hE.g e6; replace k := k.env hE; clear hE e5 e11; refine Z00 ?_; obtain ⟨⟨M, rfl, hM⟩, hPL⟩ := hPL
   obtain ⟨rfl, r, rfl, -, -, hT2⟩ := hPL.resolve_left (fun h => h.2.2 ⟨by omega, by omega⟩)
   obtain ⟨hil, hik⟩ := len_insR (x := (i, i)) hPk
   have h0 : rt = 0 ↔ i = 0 := by
    constructor
    · intro h; rw [h] at hT
      have := hT.root0
      rw [this] at hPl
      simpa using hPl.symm
    · intro h; by_cases e : rt = 0
      · exact e
      · exact absurd (List.length_eq_zero_iff.1 (hPl.trans h)) (hT.root1 e)

   refine wp_seq ?_; refine wp_seq ?_; refine wp_region_lit ?_
   have hE := Env.refl a23 [25, 26]; refine zm 25 hE k e8 ?_; intro a24 hE e25 kp; refine sd 26 hE k (Z05 (Z0q rfl e25 rfl) (decide_eq_false (by omega))) ?_
   intro a25 hE e26 kp; refine wpList_nil ?_; replace e0 := hE.g e0; replace e1 := hE.g e1; replace e6 := hE.g e6; replace e7 := hE.g e7; replace k := k.env hE; clear hE e8; refine Z00 ?_; refine Z06 e26 rfl ?_
   refine wp_skip ?_; refine Z00 ?_; refine wp_region_lit ?_
   have hE := Env.refl a25 [27, 5]; refine zm 27 hE k e7 ?_; intro a26 hE e27 kp; refine sd 5 hE k (Z01 rfl e27) ?_; intro a27 hE e5 kp; refine wpList_nil ?_; replace e0 := hE.g e0; replace e1 := hE.g e1; replace e6 := hE.g e6; replace k := k.env hE; clear hE e7 e26; refine Z0u ?_; refine Z00 ?_; refine wp_region_lit ?_
   have hE := Env.refl a27 [12, 13, 6]; refine sd 12 hE k (Z02 rfl e6) ?_; intro a28 hE e12 kp; replace e6 := kt kp e6; refine sd 13 hE k (Z11 rfl e12 rfl (by omega)) ?_; intro a29 hE e13 kp; replace e6 := kt kp e6; refine sd 6 hE k (Z01 rfl e13) ?_; intro a30 hE e6 kp; refine wpList_nil ?_; replace e0 := hE.g e0; replace e1 := hE.g e1; replace e5 := hE.g e5; replace k := k.env hE; clear hE; refine Z00 ?_; refine ⟨⟨k, e0, e1, i + 1, r, insP (i, i) P, N ++ M, B2, cap2, vs2, e5, e6, by omega, by rw [List.length_append]; omega, hT2.le (by rw [if_neg (Nat.succ_ne_zero i)]; by_cases e : i = 0 <;> simp [e, h0] <;> omega), by rw [hil, hPl], (fun y hy => by have := hik y hy; simp only at this; omega), O⟩, ?_⟩
   rw [e6, mi]; simp only [intOf]; omega
 · obtain rfl : i = n := by omega
   clear mi; refine wp_seq ?_; refine wp_seq ?_; refine wp_region_lit ?_
   have hE := Env.refl a5 [9, 10, 11]; refine zm 9 hE k e6 ?_; intro a31 hE e9 kp; refine zm 10 hE k e1 ?_; intro a32 hE e10 kp; replace e9 := kt kp e9; refine sd 11 hE k (Z05 (Z1d rfl e9 e10) (decide_eq_false (by omega))) ?_
   intro a33 hE e11 kp; refine wpList_nil ?_; replace e0 := hE.g e0; replace e1 := hE.g e1; replace e5 := hE.g e5; replace e6 := hE.g e6; replace k := k.env hE; clear hE; refine Z00 ?_; refine Z06 e11 rfl ?_
   refine wp_exit ?_
   refine Z1g ?_
   refine Z1g ?_
   refine Z1q ?_
   refine Z00 (wp_seq ?_); refine wp_region_lit ?_
   have hE := Env.refl a33 [28, 4]; refine zm 28 hE k e5 ?_; intro a34 hE e28 kp; refine sd 4 hE k (Z01 rfl e28) ?_; intro a35 hE e4 kp; refine wpList_nil ?_; replace k := k.env hE; clear hE e0 e1 e5 e6 e11; refine Z00 ?_; refine wp_ret ?_
   refine Z0v rfl k e4 ?_
   exact ⟨N, rt, P, B1, cap1, vs1, rfl, O, hN, hT, hPl⟩
end Go.Proofs.Ytbfgacmfjfbooaa
