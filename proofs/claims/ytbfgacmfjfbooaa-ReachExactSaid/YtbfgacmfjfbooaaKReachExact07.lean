/- trees: Clone, the shelf's Read and Add, read, added (printed by XTrC.gen.py). -/
import Derived.Test.YtbfgacmfjfbooaaKReachExact06
namespace Go.Proofs.Ytbfgacmfjfbooaa
attribute [local simp] BigFrame.eval_const BigFrame.eval_global BigFrame.eval_func
set_option linter.unusedVariables false
set_option linter.unusedSimpArgs false
open Go.RowKit Go.Maps

theorem elemLf : ElemI Try.prog 42 46 2 32 := ⟨Try.underlying42, by
 have h : (Try.prog.info? 46).map (fun i => (i.zero, i.size, i.bytes)) = some (some (.agg #[.int .i64 0, .slice none 0 0]), 2, 32) := by kernel_rfl
 obtain ⟨i, h1, h2, h3, h4⟩ := info_parts h
 exact ⟨i, _, h1, h2, h3, h4, rfl⟩⟩
theorem Z2h (v u : Value) (w : World) : (callMethod (.iface 47 v) "Read" #[u]).run Try.prog w = .ok (.enter 149 #[v, u]) w := by kernel_rfl
theorem Z29 (v u : Value) (w : World) : (callMethod (.iface 47 v) "Add" #[u]).run Try.prog w = .ok (.enter 148 #[v, u]) w := by kernel_rfl
section
variable {w : World} {o : Oper} {ρ : Operand → Value} {x y : Operand} {f : FuncId} {p u : Value} {us : Array Value} {nm : String} {ts : Array TypeId}
theorem Z3s (ho : o.op = .call { callee := .invoke x nm, args := #[y], argTypes := ts }) (hx : ρ x = p) (hy : ρ y = u) (h : (callMethod p nm #[u]).run Try.prog w = .ok (.enter f us) w) : (execOp ρ o).run Try.prog w = .ok (.enter f us) w := by
 unfold execOp
 simp only [ho, resolve, invoke, Sem.run_bind, Sem.run_pure, Result.andThen_ok, List.map_toArray, List.map_cons, List.map_nil, hx, hy]
 exact h
end

set_option maxRecDepth 100000 in
set_option maxHeartbeats 4000000 in
theorem sread_bad {H : Nat} {A0 : World} {R : List Thing} {sb cap : Nat} {room : Int} {B : Option Addr} {vs : List Value} {N : List Nd} (q : Int) (w : World) (O : OwnT H A0 (shT sb room B cap vs N R) w) (hN : N.length ≤ 1000000) (hq : ¬ (1 ≤ q ∧ q ≤ N.length)) : Calls Try.prog 149 #[.pointer (some ⟨sb, 0, none⟩), .int .i64 q] w fun e w' => e = .returned (.tuple #[.agg #[.int .i64 0, .slice none 0 0], .int .i64 9]) ∧ OwnT H A0 (shT sb room B cap vs N R) w' := by
 refine Z0a Try.func149 rfl 37 rfl (by rfl) ?_
 intro a1 k hargs; have e0 : a1.eval (.tmp 0) = .pointer (some ⟨sb, 0, none⟩) := hargs 0 _ rfl
 have e1 : a1.eval (.tmp 1) = .int .i64 q := hargs 1 _ rfl
 clear hargs; refine wp_seq ?_; refine wp_region_lit ?_
 have hE := Env.refl a1 [4, 5]; refine Z0k O (cs := #[.int .i64 0, .slice none 0 0]) (t := 46) 4 hE k rfl (by rfl) (by rfl) rfl (by simp [go_sem, ↓IntWalk.iteOmega]) ?_
 clear O; intro lb a2 w3 O hE e4 kp; refine sd 5 hE k (Z01 rfl rfl) ?_; intro a4 hE e5 kp; replace e4 := kt kp e4; refine wpList_nil ?_; replace e0 := hE.g e0; replace e1 := hE.g e1; replace k := k.env hE; clear hE e5; refine Z00 (wp_seq ?_); refine wp_block ?_; refine wp_seq ?_; refine wp_region_lit ?_
 have hE := Env.refl a4 [8, 9, 7]; refine zm 8 hE k e0 ?_; intro a5 hE e8 kp; apply Z03 9 hE k rfl rfl rfl rfl; case h =>
  simp [go_sem, ↓IntWalk.iteOmega, ev e8]
  with_reducible rfl
 intro a6 hE e9 kp; refine sd 7 hE k (Z01 rfl e9) ?_; intro a7 hE e7 kp; refine wpList_nil ?_; replace e0 := hE.g e0; replace e1 := hE.g e1; replace e4 := hE.g e4; replace k := k.env hE; clear hE; refine Z00 ?_; refine Z06 e7 rfl ?_
 by_cases h1 : q < 1
 · skip
   refine wp_seq ?_; refine wp_region_lit ?_
   have hE := Env.refl a7 [12, 13, 14, 15, 16, 17, 18, 19, 20, 21, 22, 11]; refine zm 12 hE k e1 ?_; intro a8 hE e12 kp; refine sd 13 hE k (Z05 (Z1d rfl e12 rfl) (decide_eq_true (by omega))) ?_
   intro a9 hE e13 kp; refine sd 14 hE k (Z02 rfl e13) ?_; intro a10 hE e14 kp; refine Z0e 15 hE k rfl (by rfl) (by rfl) rfl rfl (.inl e14) ?_
   intro a11 hE e15 kp; replace e14 := kt kp e14; refine Z0e 16 hE k rfl (by rfl) (by rfl) rfl rfl (.inl e14) ?_
   intro a12 hE e16 kp; replace e14 := kt kp e14; replace e15 := kt kp e15; refine Z0e 17 hE k rfl (by rfl) (by rfl) rfl rfl (.inl e14) ?_
   intro a13 hE e17 kp; replace e14 := kt kp e14; replace e15 := kt kp e15; refine Z0e 18 hE k rfl (by rfl) (by rfl) rfl rfl (.inl e14) ?_
   intro a14 hE e18 kp; replace e14 := kt kp e14; replace e15 := kt kp e15; refine Z0e 19 hE k rfl (by rfl) (by rfl) rfl rfl (.inl e14) ?_
   intro a15 hE e19 kp; replace e14 := kt kp e14; replace e15 := kt kp e15; refine Z0e 20 hE k rfl (by rfl) (by rfl) rfl rfl (.inl e14) ?_
   intro a16 hE e20 kp; replace e14 := kt kp e14; replace e15 := kt kp e15; refine Z0e 21 hE k rfl (by rfl) (by rfl) rfl rfl (.inl e14) ?_
   intro a17 hE e21 kp; replace e14 := kt kp e14; refine sd 22 hE k (Z0n rfl e14 rfl) ?_; intro a18 hE e22 kp; refine sd 11 hE k (Z01 rfl e22) ?_; intro a19 hE e11 kp; refine wpList_nil ?_; replace e0 := hE.g e0; replace e1 := hE.g e1; replace e4 := hE.g e4; replace k := k.env hE; clear hE e7; refine Z00 ?_; refine Z0h e11 rfl ?_
   refine wp_seq ?_; refine wp_region_lit ?_
   have hE := Env.refl a19 [23, 5]; apply Z03 23 hE k rfl rfl rfl rfl; case h =>
    simp [go_sem, ↓IntWalk.iteOmega]
    with_reducible rfl
   intro a20 hE e23 kp; refine Z1f O 0 0 hE (hE.g e4) e23 ?_
   clear O; intro w21 O; replace O : OwnT _ _ ((tBlk lb 46 #[.int .i64 0, .slice none 0 0]) :: _) w21 := O
   refine sd 5 hE k (Z01 rfl rfl) ?_; intro a22 hE e5 kp; refine wpList_nil ?_; replace e4 := hE.g e4; replace k := k.env hE; clear hE e0 e1 e11; refine Z00 ?_; refine wp_ret ?_
   refine Z1l ?_
   refine Z0o ?_
   have q0 : w21.cell? ⟨lb, 0, none⟩ = some (.int .i64 0) := (OwnT.blk O 0 rfl).cell 0
   have q1 : w21.cell? ⟨lb, 1, none⟩ = some (.slice none 0 0) := (OwnT.blk O 0 rfl).cell 1
   refine Z3a rfl k e4 e5 (v := .agg #[.int .i64 0, .slice none 0 0]) (by simp [go_sem, ↓IntWalk.iteOmega, q0, q1]) ?_
   exact ⟨rfl, O.tail⟩
 · skip
   refine wp_seq ?_; refine wp_region_lit ?_
   have hE := Env.refl a7 [12, 13, 14, 15, 16, 17, 18, 19, 20, 21, 22, 11]; refine zm 12 hE k e1 ?_; intro a23 hE e12 kp; refine sd 13 hE k (Z05 (Z1d rfl e12 rfl) (decide_eq_false (by omega))) ?_
   intro a24 hE e13 kp; refine sd 14 hE k (Z02 rfl e13) ?_; intro a25 hE e14 kp; apply Z04 15 hE k rfl rfl rfl rfl rfl e14
   case h =>
    exact Z02 rfl (hE.g e1)
   intro a26 hE e15 kp; replace e14 := kt kp e14; apply Z04 16 hE k rfl rfl rfl rfl rfl e14
   case h =>
    exact Z02 rfl (hE.g e0)
   intro a27 hE e16 kp; replace e14 := kt kp e14; replace e15 := kt kp e15; apply Z04 17 hE k rfl rfl rfl rfl rfl e14
   case h =>
    exact Z17 rfl e16
   intro a28 hE e17 kp; replace e14 := kt kp e14; replace e15 := kt kp e15; apply Z04 18 hE k rfl rfl rfl rfl rfl e14
   case h =>
    simp [go_sem, ↓IntWalk.iteOmega, ev e17]
    with_reducible rfl
   intro a29 hE e18 kp; replace e14 := kt kp e14; replace e15 := kt kp e15; apply Z04 19 hE k rfl rfl rfl rfl rfl e14
   case h =>
    exact Z08 O 1 rfl rfl e18 rfl Try.underlying42 rfl
   intro a30 hE e19 kp; replace e14 := kt kp e14; replace e15 := kt kp e15; apply Z04 20 hE k rfl rfl rfl rfl rfl e14
   case h =>
    exact Z0j Try.underlying42 rfl e19
   intro a31 hE e20 kp; replace e14 := kt kp e14; replace e15 := kt kp e15; apply Z04 21 hE k rfl rfl rfl rfl rfl e14
   case h =>
    exact Z05 (Z2b rfl e15 e20) (decide_eq_true (by omega))
   intro a32 hE e21 kp; replace e14 := kt kp e14; refine sd 22 hE k (Z07 rfl e14 e21) ?_; intro a33 hE e22 kp; refine sd 11 hE k (Z01 rfl e22) ?_; intro a34 hE e11 kp; refine wpList_nil ?_; replace e0 := hE.g e0; replace e1 := hE.g e1; replace e4 := hE.g e4; replace k := k.env hE; clear hE e7; refine Z00 ?_; refine Z0h e11 rfl ?_
   refine wp_seq ?_; refine wp_region_lit ?_
   have hE := Env.refl a34 [23, 5]; apply Z03 23 hE k rfl rfl rfl rfl; case h =>
    simp [go_sem, ↓IntWalk.iteOmega]
    with_reducible rfl
   intro a35 hE e23 kp; refine Z1f O 0 0 hE (hE.g e4) e23 ?_
   clear O; intro w36 O; replace O : OwnT _ _ ((tBlk lb 46 #[.int .i64 0, .slice none 0 0]) :: _) w36 := O
   refine sd 5 hE k (Z01 rfl rfl) ?_; intro a37 hE e5 kp; refine wpList_nil ?_; replace e4 := hE.g e4; replace k := k.env hE; clear hE e0 e1 e11; refine Z00 ?_; refine wp_ret ?_
   refine Z1l ?_
   refine Z0o ?_
   have q0 : w36.cell? ⟨lb, 0, none⟩ = some (.int .i64 0) := (OwnT.blk O 0 rfl).cell 0
   have q1 : w36.cell? ⟨lb, 1, none⟩ = some (.slice none 0 0) := (OwnT.blk O 0 rfl).cell 1
   refine Z3a rfl k e4 e5 (v := .agg #[.int .i64 0, .slice none 0 0]) (by simp [go_sem, ↓IntWalk.iteOmega, q0, q1]) ?_
   exact ⟨rfl, O.tail⟩
set_option maxRecDepth 100000 in
set_option maxHeartbeats 4000000 in
theorem Z4z {H : Nat} {A0 : World} {R : List Thing} {sb cap : Nat} {room : Int} {B : Option Addr} {vs : List Value} {N : List Nd} (q l : Nat) (ps : List Pr) (w : World) (O : OwnT H A0 (shT sb room B cap vs N R) w) (hN : N.length ≤ 1000000) (hq : ndAt N q = some (l, ps)) (hps : ps.length ≤ 1000000) : Calls Try.prog 149 #[.pointer (some ⟨sb, 0, none⟩), .int .i64 q] w fun e w' => ∃ v, e = .returned (.tuple #[.agg #[.int .i64 l, v], .int .i64 0]) ∧ OwnT H A0 (tPs v ps :: shT sb room B cap vs N R) w' ∧ Ext w w' := by
 obtain ⟨h1, h2⟩ := Z73 hq
 obtain ⟨i, rfl⟩ : ∃ i, q = i + 1 := ⟨q - 1, by omega⟩
 have hi : N[i]? = some (l, ps) := by unfold ndAt at hq; rwa [if_neg (by omega), Nat.add_sub_cancel] at hq
 obtain ⟨g, u, rfl, hu, c0, c1⟩ := sh_node O hi
 obtain ⟨Bu, cu, rfl, hu1, hu2, hur, hus⟩ := Z0x hu
 have hb := Ext.refl w
 have Ob := O
 clear O; obtain ⟨W0, hW0⟩ : ∃ W, w = W := ⟨_, rfl⟩
 rw [hW0] at Ob c0 c1 hur hb ⊢
 have O := OwnT.start W0

 refine Z0a Try.func149 rfl 37 rfl (by rfl) ?_
 intro a1 k hargs; have e0 : a1.eval (.tmp 0) = .pointer (some ⟨sb, 0, none⟩) := hargs 0 _ rfl
 have e1 : a1.eval (.tmp 1) = .int .i64 (↑(i + 1)) := hargs 1 _ rfl
 clear hargs; refine wp_seq ?_; refine wp_region_lit ?_
 have hE := Env.refl a1 [4, 5]; refine Z0k O (cs := #[.int .i64 0, .slice none 0 0]) (t := 46) 4 hE k rfl (by rfl) (by rfl) rfl (by simp [go_sem, ↓IntWalk.iteOmega]) ?_
 clear O; intro lb a2 w3 O hE e4 kp; refine sd 5 hE k (Z01 rfl rfl) ?_; intro a4 hE e5 kp; replace e4 := kt kp e4; refine wpList_nil ?_; replace e0 := hE.g e0; replace e1 := hE.g e1; replace k := k.env hE; clear hE e5; refine Z00 (wp_seq ?_); refine wp_block ?_; refine wp_seq ?_; refine wp_region_lit ?_
 have hE := Env.refl a4 [8, 9, 7]; refine zm 8 hE k e0 ?_; intro a5 hE e8 kp; apply Z03 9 hE k rfl rfl rfl rfl; case h =>
  simp [go_sem, ↓IntWalk.iteOmega, ev e8]
  with_reducible rfl
 intro a6 hE e9 kp; refine sd 7 hE k (Z01 rfl e9) ?_; intro a7 hE e7 kp; refine wpList_nil ?_; replace e0 := hE.g e0; replace e1 := hE.g e1; replace e4 := hE.g e4; replace k := k.env hE; clear hE; refine Z00 ?_; refine Z06 e7 rfl ?_
 have cs0 : w3.cell? ⟨sb, 0, none⟩ = some (.slice (some ⟨g, 0, none⟩) N.length cap) := cellB O.below ((OwnT.blk Ob 0 rfl).cell 0)
 refine wp_seq ?_; refine wp_region_lit ?_
 have hE := Env.refl a7 [12, 13, 14, 15, 16, 17, 18, 19, 20, 21, 22, 11]; refine zm 12 hE k e1 ?_; intro a8 hE e12 kp; refine sd 13 hE k (Z05 (Z1d rfl e12 rfl) (decide_eq_false (by omega))) ?_
 intro a9 hE e13 kp; refine sd 14 hE k (Z02 rfl e13) ?_; intro a10 hE e14 kp; apply Z04 15 hE k rfl rfl rfl rfl rfl e14
 case h =>
  exact Z02 rfl (hE.g e1)
 intro a11 hE e15 kp; replace e14 := kt kp e14; apply Z04 16 hE k rfl rfl rfl rfl rfl e14
 case h =>
  exact Z02 rfl (hE.g e0)
 intro a12 hE e16 kp; replace e14 := kt kp e14; replace e15 := kt kp e15; apply Z04 17 hE k rfl rfl rfl rfl rfl e14
 case h =>
  exact Z17 rfl e16
 intro a13 hE e17 kp; replace e14 := kt kp e14; replace e15 := kt kp e15; apply Z04 18 hE k rfl rfl rfl rfl rfl e14
 case h =>
  simp [go_sem, ↓IntWalk.iteOmega, ev e17]
  with_reducible rfl
 intro a14 hE e18 kp; replace e14 := kt kp e14; replace e15 := kt kp e15; apply Z04 19 hE k rfl rfl rfl rfl rfl e14
 case h =>
  simp [go_sem, ↓IntWalk.iteOmega, ev e18, cs0]
  with_reducible rfl
 intro a15 hE e19 kp; replace e14 := kt kp e14; replace e15 := kt kp e15; apply Z04 20 hE k rfl rfl rfl rfl rfl e14
 case h =>
  exact Z0j Try.underlying42 rfl e19
 intro a16 hE e20 kp; replace e14 := kt kp e14; replace e15 := kt kp e15; apply Z04 21 hE k rfl rfl rfl rfl rfl e14
 case h =>
  exact Z05 (Z2b rfl e15 e20) (decide_eq_false (by omega))
 intro a17 hE e21 kp; replace e14 := kt kp e14; refine sd 22 hE k (Z07 rfl e14 e21) ?_; intro a18 hE e22 kp; refine sd 11 hE k (Z01 rfl e22) ?_; intro a19 hE e11 kp; refine wpList_nil ?_; replace e0 := hE.g e0; replace e1 := hE.g e1; replace e4 := hE.g e4; replace k := k.env hE; clear hE e7; refine Z00 ?_; refine Z06 e11 rfl ?_
 refine wp_skip ?_; refine Z0u ?_; refine Z00 ?_; have d0 : w3.cell? ⟨g, i * 2, none⟩ = some (.int .i64 (l : Int)) := cellB O.below c0
 have d1 : w3.cell? ⟨g, i * 2 + 1, none⟩ = some (.slice Bu ps.length cu) := cellB O.below c1
 refine wp_seq ?_; refine wp_region_lit ?_
 have hE := Env.refl a19 [24, 25, 26, 27, 28, 29, 30, 31, 6]; refine zm 24 hE k e0 ?_; intro a20 hE e24 kp; refine sd 25 hE k (Z17 rfl e24) ?_; intro a21 hE e25 kp; apply Z03 26 hE k rfl rfl rfl rfl; case h =>
  simp [go_sem, ↓IntWalk.iteOmega, ev e25]
  with_reducible rfl
 intro a22 hE e26 kp; apply Z03 27 hE k rfl rfl rfl rfl; case h =>
  simp [go_sem, ↓IntWalk.iteOmega, ev e26, cs0]
  with_reducible rfl
 intro a23 hE e27 kp; refine zm 28 hE k e1 ?_; intro a24 hE e28 kp; replace e27 := kt kp e27; refine sd 29 hE k (Z5q rfl e28 rfl (by omega)) ?_; intro a25 hE e29 kp; replace e27 := kt kp e27; replace e29 := e29.trans (Z0s (show ((i + 1 : Nat) : Int) - 1 = (i : Int) by omega))
 apply Z03 30 hE k rfl rfl rfl rfl; case h =>
  simp [go_sem, ↓IntWalk.iteOmega, ev e27, ev e29]
  with_reducible rfl
 intro a26 hE e30 kp; apply Z03 31 hE k rfl rfl rfl rfl; case h =>
  simp [go_sem, ↓IntWalk.iteOmega, ev e30, d0, d1]
  with_reducible rfl
 intro a27 hE e31 kp; refine Z0k O (cs := #[.int .i64 0, .slice none 0 0]) (t := 46) 6 hE k rfl (by rfl) (by rfl) rfl (by simp [go_sem, ↓IntWalk.iteOmega]) ?_
 clear O; intro nb a28 w29 O hE e6 kp; replace e31 := kt kp e31; refine Z1f O 0 0 hE e6 e31 ?_
 clear O; intro w30 O; replace O : OwnT _ _ ((tBlk nb 46 #[.int .i64 ↑l, .slice Bu ps.length cu]) :: _) w30 := O
 refine wpList_nil ?_; replace e4 := hE.g e4; replace k := k.env hE; clear hE e0 e1 e11 e31; refine Z00 (wp_seq ?_); refine wp_region_lit ?_
 have hE := Env.refl a28 [32, 33, 34, 35]; apply Z03 32 hE k rfl rfl rfl rfl; case h =>
  simp [go_sem, ↓IntWalk.iteOmega, ev (hE.g e6)]
  with_reducible rfl
 intro a31 hE e32 kp; refine sd 33 hE k (Z08 O 0 rfl rfl e32 rfl Try.underlying44 rfl) ?_; intro a32 hE e33 kp; apply Z09 34 hE k rfl (by rfl) (by rfl) rfl
 case h =>
  simp [go_sem, ↓IntWalk.iteOmega, ev e33]
  with_reducible exact ⟨rfl, rfl⟩
 case hc => exact Z6g ps _ O rfl (hur.below O.below) hus hps
 clear O; rintro e w34 ⟨v, rfl, O, -⟩
 obtain ⟨Bv, cv, rfl⟩ := Z0c (OwnT.t0 O : World.ownsRow _ 0 103 2 v ps.length _)
 refine ⟨_, rfl, ?_⟩
 intro a33 hE e34 kp; apply Z03 35 hE k rfl rfl rfl rfl; case h =>
  simp [go_sem, ↓IntWalk.iteOmega, ev (hE.g e6)]
  with_reducible rfl
 intro a35 hE e35 kp; replace e34 := kt kp e34; refine Z1f O 1 1 hE e35 e34 ?_
 clear O; intro w36 O; replace O : OwnT _ _ (_ :: (tBlk nb 46 #[.int .i64 ↑l, .slice Bv ps.length cv]) :: _) w36 := O
 refine wpList_nil ?_; replace e4 := hE.g e4; replace e6 := hE.g e6; replace k := k.env hE; clear hE e34 e35; refine Z00 (wp_seq ?_); refine wp_region_lit ?_
 have hE := Env.refl a35 [36, 5]; refine sd 36 hE k (Z1s O 1 rfl rfl (hE.g e6) [.int .i64 ↑l, .slice Bv ps.length cv] rfl Try.underlying46 rfl (by kernel_rfl)) ?_; intro a37 hE e36 kp; refine Z1f O 2 0 hE (hE.g e4) e36 ?_
 clear O; intro w38 O; replace O : OwnT _ _ (_ :: _ :: (tBlk lb 46 #[.int .i64 ↑l, .slice Bv ps.length cv]) :: _) w38 := O
 refine sd 5 hE k (Z01 rfl rfl) ?_; intro a39 hE e5 kp; refine wpList_nil ?_; replace e4 := hE.g e4; replace k := k.env hE; clear hE e6; refine Z00 ?_; refine wp_ret ?_
 have q0 : w38.cell? ⟨lb, 0, none⟩ = some (.int .i64 ↑l) := (OwnT.blk O 2 rfl).cell 0
 have q1 : w38.cell? ⟨lb, 1, none⟩ = some (.slice Bv ps.length cv) := (OwnT.blk O 2 rfl).cell 1
 refine Z3a rfl k e4 e5 (v := .agg #[.int .i64 ↑l, .slice Bv ps.length cv]) (by simp [go_sem, ↓IntWalk.iteOmega, q0, q1]) ?_
 exact ⟨_, rfl, Ob.newRow O.below ((OwnT.pick O [0] (by decide) : OwnT _ _ [tPs (.slice Bv ps.length cv) ps] _).rowBase), O.below⟩
set_option maxRecDepth 100000 in
set_option maxHeartbeats 4000000 in
theorem Z2u {H : Nat} {A0 : World} {R : List Thing} {sb cap : Nat} {room : Int} {B : Option Addr} {vs : List Value} {N : List Nd} {Bx : Option Addr} {cx l : Nat} (ps : List Pr) (w : World) (O : OwnT H A0 (shT sb room B cap vs N R) w) (hN : N.length ≤ 1000000) (hf : ¬ (N.length < 511 ∧ (N.length : Int) < room)) : Calls Try.prog 148 #[.pointer (some ⟨sb, 0, none⟩), .agg #[.int .i64 ↑l, .slice Bx ps.length cx]] w fun e w' => e = .returned (.tuple #[.int .i64 0, .int .i64 6]) ∧ OwnT H A0 (shT sb room B cap vs N R) w'  := by
 refine Z0a Try.func148 rfl 40 rfl (by rfl) ?_
 intro a1 k hargs; have e0 : a1.eval (.tmp 0) = .pointer (some ⟨sb, 0, none⟩) := hargs 0 _ rfl
 have e1 : a1.eval (.tmp 1) = .agg #[.int .i64 ↑l, .slice Bx ps.length cx] := hargs 1 _ rfl
 clear hargs; refine wp_seq ?_; refine wp_region_lit ?_
 have hE := Env.refl a1 [3, 4, 5]; refine Z0k O (cs := #[.int .i64 ↑l, .slice Bx ps.length cx]) (t := 46) 3 hE k rfl (by rfl) (by rfl) rfl (by simp [go_sem, ↓IntWalk.iteOmega, ev (hE.g e1)]) ?_
 clear O; intro lb a2 w3 O hE e3 kp; refine sd 4 hE k (Z01 rfl rfl) ?_; intro a4 hE e4 kp; replace e3 := kt kp e3; refine sd 5 hE k (Z01 rfl rfl) ?_; intro a5 hE e5 kp; replace e3 := kt kp e3; refine wpList_nil ?_; replace e0 := hE.g e0; replace k := k.env hE; clear hE e1 e5; refine Z00 (wp_seq ?_); refine wp_block ?_; refine wp_seq ?_; refine wp_region_lit ?_
 have hE := Env.refl a5 [7, 8, 6]; refine zm 7 hE k e0 ?_; intro a6 hE e7 kp; apply Z03 8 hE k rfl rfl rfl rfl; case h =>
  simp [go_sem, ↓IntWalk.iteOmega, ev e7]
  with_reducible rfl
 intro a7 hE e8 kp; refine sd 6 hE k (Z01 rfl e8) ?_; intro a8 hE e6 kp; refine wpList_nil ?_; replace e0 := hE.g e0; replace e3 := hE.g e3; replace k := k.env hE; clear hE; refine Z00 ?_; refine Z06 e6 rfl ?_
 refine wp_seq ?_; refine Z0b (R := Ext) (w0 := w3) [[], [0], [0, 1], [0, 1, 2], rg 4, [], [5], [5, 6], [5, 6, 7], [5, 6, 7, 8], rg 10, rg 11] [10, 11, 12, 13, 14, 15, 16, 17, 18, 19, 20, 9] Ext.refl (fun _ _ _ => Ext.trans) (Ext.drew _) (by kernel_rfl) ?_
 refine bd 10 k rfl rfl rfl (fun ax wx hE hR hF => Z02 rfl (hE.g e0)) ?_
 refine bd 11 k rfl rfl rfl (fun ax wx hE hR hF => have e10 := zhF hF 0 10 ml0; Z17 rfl e10) ?_
 apply bd 12 k rfl rfl rfl; case h =>
  intro ax wx hE hR hF; have e11 := zhF hF 1 11 ml0; simp [go_sem, ↓IntWalk.iteOmega, ev e11]
  with_reducible rfl
 refine bd 13 k rfl rfl rfl (fun ax wx hE hR hF => have e12 := zhF hF 2 12 ml0; Z08 (OwnT.ext O hR) 1 rfl rfl e12 rfl Try.underlying42 rfl) ?_
 refine bd 14 k rfl rfl rfl (fun ax wx hE hR hF => have e13 := zhF hF 3 13 ml0; Z0j Try.underlying42 rfl e13) ?_
 refine bd 15 k rfl rfl rfl (fun ax wx hE hR hF => Z02 rfl (hE.g e0)) ?_
 refine bd 16 k rfl rfl rfl (fun ax wx hE hR hF => have e15 := zhF hF 5 15 ml0; Z17 rfl e15) ?_
 apply bd 17 k rfl rfl rfl; case h =>
  intro ax wx hE hR hF; have e16 := zhF hF 6 16 ml0; simp [go_sem, ↓IntWalk.iteOmega, ev e16]
  with_reducible rfl
 refine bd 18 k rfl rfl rfl (fun ax wx hE hR hF => have e17 := zhF hF 7 17 ml0; Z08 (OwnT.ext O hR) 1 rfl rfl e17 rfl Try.underlying3 rfl) ?_
 refine bd 19 k rfl rfl rfl (fun ax wx hE hR hF => have e18 := zhF hF 8 18 ml0; x_min rfl e18 rfl) ?_
 refine bd 20 k rfl rfl rfl (fun ax wx hE hR hF => have e14 := zhF hF 4 14 ml5; have e19 := zhF hF 9 19 ml0; Z05 (Z6m rfl e14 e19) (decide_eq_true (by omega))) ?_
 refine bd 9 k rfl rfl rfl (fun ax wx hE hR hF => have e20 := zhF hF 10 20 ml0; Z01 rfl e20) ?_
 apply Build.stop
 refine ⟨by kernel_rfl, .inl ⟨rfl, ?_⟩⟩
 intro a9 w10 hE R hF; have e9 : a9.eval (.tmp 9) = _ := hF 11 (det 9 _) ml0
 clear hF; replace O := OwnT.ext O R; clear R; replace e0 := hE.g e0; replace e3 := hE.g e3; replace k := k.env hE; clear hE e6; refine Z00 ?_; refine Z0h e9 rfl ?_
 refine wp_seq ?_; refine wp_region_lit ?_
 have hE := Env.refl a9 [4, 5]; refine sd 4 hE k (Z01 rfl rfl) ?_; intro a11 hE e4 kp; refine sd 5 hE k (Z01 rfl rfl) ?_; intro a12 hE e5 kp; replace e4 := kt kp e4; refine wpList_nil ?_; replace k := k.env hE; clear hE e0 e3 e9; refine Z00 ?_; refine wp_ret ?_
 refine Z1l ?_
 refine Z0o ?_
 refine Z1p rfl k e4 e5 ?_
 exact ⟨rfl, O.tail⟩
set_option maxRecDepth 100000 in
set_option maxHeartbeats 4000000 in
theorem Z54 {H : Nat} {A0 : World} {R : List Thing} {sb cap : Nat} {room : Int} {B : Option Addr} {vs : List Value} {N : List Nd} {Bx : Option Addr} {cx l : Nat} (ps : List Pr) (w : World) (O : OwnT H A0 (shT sb room B cap vs N R) w) (hN : N.length ≤ 1000000) (hf : N.length < 511 ∧ (N.length : Int) < room) (hrow : Row w Bx 2 pairC ps) (hB : SlB Bx cx ps) (hn : ps.length ≤ 1000000) : Calls Try.prog 148 #[.pointer (some ⟨sb, 0, none⟩), .agg #[.int .i64 ↑l, .slice Bx ps.length cx]] w fun e w' => e = .returned (.tuple #[.int .i64 ((N.length + 1 : Nat) : Int), .int .i64 0]) ∧ ∃ B' cap' vs', OwnT H A0 (shT sb room B' cap' vs' (N ++ [(l, ps)]) R) w'  := by
 refine Z0a Try.func148 rfl 40 rfl (by rfl) ?_
 intro a1 k hargs; have e0 : a1.eval (.tmp 0) = .pointer (some ⟨sb, 0, none⟩) := hargs 0 _ rfl
 have e1 : a1.eval (.tmp 1) = .agg #[.int .i64 ↑l, .slice Bx ps.length cx] := hargs 1 _ rfl
 clear hargs; refine wp_seq ?_; refine wp_region_lit ?_
 have hE := Env.refl a1 [3, 4, 5]; refine sq_newE O (cs := #[.int .i64 ↑l, .slice Bx ps.length cx]) (t := 46) 3 hE k rfl (by rfl) (by rfl) rfl (by simp [go_sem, ↓IntWalk.iteOmega, ev (hE.g e1)]) ?_
 clear O; intro lb a2 w3 RX O hE e3 kp; replace hrow := Row.below hrow RX
 clear RX; refine sd 4 hE k (Z01 rfl rfl) ?_; intro a4 hE e4 kp; replace e3 := kt kp e3; refine sd 5 hE k (Z01 rfl rfl) ?_; intro a5 hE e5 kp; replace e3 := kt kp e3; refine wpList_nil ?_; replace e0 := hE.g e0; replace k := k.env hE; clear hE e1 e5; refine Z00 (wp_seq ?_); refine wp_block ?_; refine wp_seq ?_; refine wp_region_lit ?_
 have hE := Env.refl a5 [7, 8, 6]; refine zm 7 hE k e0 ?_; intro a6 hE e7 kp; apply Z03 8 hE k rfl rfl rfl rfl; case h =>
  simp [go_sem, ↓IntWalk.iteOmega, ev e7]
  with_reducible rfl
 intro a7 hE e8 kp; refine sd 6 hE k (Z01 rfl e8) ?_; intro a8 hE e6 kp; refine wpList_nil ?_; replace e0 := hE.g e0; replace e3 := hE.g e3; replace k := k.env hE; clear hE; refine Z00 ?_; refine Z06 e6 rfl ?_
 refine wp_seq ?_; refine Z0b (R := Ext) (w0 := w3) [[], [0], [0, 1], [0, 1, 2], rg 4, [], [5], [5, 6], [5, 6, 7], [5, 6, 7, 8], rg 10, rg 11] [10, 11, 12, 13, 14, 15, 16, 17, 18, 19, 20, 9] Ext.refl (fun _ _ _ => Ext.trans) (Ext.drew _) (by kernel_rfl) ?_
 refine bd 10 k rfl rfl rfl (fun ax wx hE hR hF => Z02 rfl (hE.g e0)) ?_
 refine bd 11 k rfl rfl rfl (fun ax wx hE hR hF => have e10 := zhF hF 0 10 ml0; Z17 rfl e10) ?_
 apply bd 12 k rfl rfl rfl; case h =>
  intro ax wx hE hR hF; have e11 := zhF hF 1 11 ml0; simp [go_sem, ↓IntWalk.iteOmega, ev e11]
  with_reducible rfl
 refine bd 13 k rfl rfl rfl (fun ax wx hE hR hF => have e12 := zhF hF 2 12 ml0; Z08 (OwnT.ext O hR) 1 rfl rfl e12 rfl Try.underlying42 rfl) ?_
 refine bd 14 k rfl rfl rfl (fun ax wx hE hR hF => have e13 := zhF hF 3 13 ml0; Z0j Try.underlying42 rfl e13) ?_
 refine bd 15 k rfl rfl rfl (fun ax wx hE hR hF => Z02 rfl (hE.g e0)) ?_
 refine bd 16 k rfl rfl rfl (fun ax wx hE hR hF => have e15 := zhF hF 5 15 ml0; Z17 rfl e15) ?_
 apply bd 17 k rfl rfl rfl; case h =>
  intro ax wx hE hR hF; have e16 := zhF hF 6 16 ml0; simp [go_sem, ↓IntWalk.iteOmega, ev e16]
  with_reducible rfl
 refine bd 18 k rfl rfl rfl (fun ax wx hE hR hF => have e17 := zhF hF 7 17 ml0; Z08 (OwnT.ext O hR) 1 rfl rfl e17 rfl Try.underlying3 rfl) ?_
 refine bd 19 k rfl rfl rfl (fun ax wx hE hR hF => have e18 := zhF hF 8 18 ml0; x_min rfl e18 rfl) ?_
 refine bd 20 k rfl rfl rfl (fun ax wx hE hR hF => have e14 := zhF hF 4 14 ml5; have e19 := zhF hF 9 19 ml0; Z05 (Z6m rfl e14 e19) (decide_eq_false (by omega))) ?_
 refine bd 9 k rfl rfl rfl (fun ax wx hE hR hF => have e20 := zhF hF 10 20 ml0; Z01 rfl e20) ?_
 apply Build.stop
 refine ⟨by kernel_rfl, .inl ⟨rfl, ?_⟩⟩
 intro a9 w10 hE R hF; have e9 : a9.eval (.tmp 9) = _ := hF 11 (det 9 _) ml0
 clear hF; replace O := OwnT.ext O R; replace hrow := Row.below hrow R
 clear R; replace e0 := hE.g e0; replace e3 := hE.g e3; replace k := k.env hE; clear hE e6; refine Z00 ?_; refine Z06 e9 rfl ?_
 refine wp_skip ?_; refine Z0u ?_; refine Z00 (wp_seq ?_); refine wp_region_lit ?_
 have hE := Env.refl a9 [21, 22, 23, 24]; apply Z03 21 hE k rfl rfl rfl rfl; case h =>
  simp [go_sem, ↓IntWalk.iteOmega, ev (hE.g e3)]
  with_reducible rfl
 intro a11 hE e21 kp; refine sd 22 hE k (Z08 O 0 rfl rfl e21 rfl Try.underlying44 rfl) ?_; intro a12 hE e22 kp; apply Z09 23 hE k rfl (by rfl) (by rfl) rfl
 case h =>
  simp [go_sem, ↓IntWalk.iteOmega, ev e22]
  with_reducible exact ⟨rfl, rfl⟩
 case hc => exact Z6g ps _ O rfl hrow hB hn
 clear O; rintro e w14 ⟨v, rfl, O, -⟩
 obtain ⟨Bv, cv, rfl⟩ := Z0c (OwnT.t0 O : World.ownsRow _ 0 103 2 v ps.length _)
 refine ⟨_, rfl, ?_⟩
 intro a13 hE e23 kp; apply Z03 24 hE k rfl rfl rfl rfl; case h =>
  simp [go_sem, ↓IntWalk.iteOmega, ev (hE.g e3)]
  with_reducible rfl
 intro a15 hE e24 kp; replace e23 := kt kp e23; refine Z1f O 1 1 hE e24 e23 ?_
 clear O; intro w16 O; replace O : OwnT _ _ (_ :: (tBlk lb 46 #[.int .i64 ↑l, .slice Bv ps.length cv]) :: _) w16 := O
 refine wpList_nil ?_; replace e0 := hE.g e0; replace e3 := hE.g e3; replace k := k.env hE; clear hE e9 e23 e24; refine Z00 ?_; clear hrow; have hvl := sh_len (OwnT.pickR (L := [_, _, _, _, _]) (R := R) O [2, 3, 4] (by decide))
 replace O : OwnT _ _ ((tRow 46 2 (.slice B N.length cap) N.length (leafV vs N)) :: (tBlk sb 49 #[.slice B N.length cap, .int .i64 room]) :: (tPs (.slice Bv ps.length cv) ps) :: (tPool vs N) :: (tBlk lb 46 #[.int .i64 ↑l, .slice Bv ps.length cv]) :: R) w16 := OwnT.pickR (L := [_, _, _, _, _]) (R := R) O [3, 2, 0, 4, 1] (by decide)
 replace O : OwnT _ _ ((tRow 46 2 (.slice B N.length cap) N.length (leafV vs N)) :: (tBlk sb 49 #[.slice B N.length cap, .int .i64 room]) :: (tPs (.slice Bv ps.length cv) ps) :: (tPool vs N) :: (tBlk lb 46 #[.int .i64 ↑l, .slice Bv ps.length cv]) :: R) w16 := O
 refine wp_seq ?_; obtain ⟨gs, hgs⟩ : ∃ z, w16.heap.size = z := ⟨_, rfl⟩
 refine Z4b (fun l_ w_ w_' => if l_ 7 = true then Ext w_ w_' else True) (fun l_ w_ => AppI _ _ 46 2 (.slice B N.length cap) N.length (leafV vs N) gs [Value.int .i64 (l : Int), Value.slice Bv ps.length cv] ((tBlk sb 49 #[.slice B N.length cap, .int .i64 room]) :: (tPs (.slice Bv ps.length cv) ps) :: (tPool vs N) :: (tBlk lb 46 #[.int .i64 ↑l, .slice Bv ps.length cv]) :: R) (l_ 6) (l_ 7) w_) [[], [], [1], [1, 2], [1, 2, 3], [], [5], [1, 2, 3, 4, 5, 6], rg 8, rg 9, rg 10] [25, 26, 27, 28, 29, 30, 31, 32, 33, 34] (fun l w => by split; exact Ext.refl _; exact True.intro) (by rw [← hgs]; exact AppI.start O) (by kernel_rfl) ?_
 apply BuildL.det 25 (fun l w => by split; exact Ext.refl _; exact True.intro) (fun l w h => h) (by rfl) (by rw [k.size]; rfl) rfl
 case h =>
  intro lx ax wx hE hR hF; exact Z02 rfl (hE.g e0)
 apply BuildL.det 26 (fun l w => by split; exact Ext.refl _; exact True.intro) (fun l w h => h) (by rfl) (by rw [k.size]; rfl) rfl
 case h =>
  intro lx ax wx hE hR hF; exact Z02 rfl (hE.g e0)
 apply BuildL.det 27 (fun l w => by split; exact Ext.refl _; exact True.intro) (fun l w h => h) (by rfl) (by rw [k.size]; rfl) rfl
 case h =>
  intro lx ax wx hE hR hF; have e26 := hF 1 (detL 1 26 _) (by decide) ml0
  exact Z17 rfl e26
 apply BuildL.det 28 (fun l w => by split; exact Ext.refl _; exact True.intro) (fun l w h => h) (by rfl) (by rw [k.size]; rfl) rfl
 case h =>
  intro lx ax wx hE hR hF; have e27 := hF 2 (detL 2 27 _) (by decide) ml0
  simp [go_sem, ↓IntWalk.iteOmega, ev e27]
  with_reducible rfl
 apply BuildL.det 29 (fun l w => by split; exact Ext.refl _; exact True.intro) (fun l w h => h) (by rfl) (by rw [k.size]; rfl) rfl
 case h =>
  intro lx ax wx hE hR hF; have e28 := hF 3 (detL 3 28 _) (by decide) ml0
  exact Z08 (AppI.own hR) 0 rfl rfl e28 rfl Try.underlying42 rfl
 apply BuildL.det 30 (fun l w => by split; exact Ext.refl _; exact True.intro) (fun l w h => h) (by rfl) (by rw [k.size]; rfl) rfl
 case h =>
  intro lx ax wx hE hR hF; exact Z1s (AppI.own hR) 3 rfl rfl (hE.g e3) [.int .i64 ↑l, .slice Bv ps.length cv] rfl Try.underlying46 rfl (by kernel_rfl)
 refine BuildL.new 31 (fun v w => v = .slice (some ⟨gs, 0, none⟩) 1 1) (fun l v w w' _ _ h => h) (by rfl) (by rw [k.size]; rfl) rfl ?_ ?_
 · intro lx ax wx hE hR hl hA hF; have e30 := hF 5 (detL 5 30 _) (by decide) ml0
   exact app_build hR hl (by decide) (by simp [go_sem, ↓IntWalk.iteOmega, ev e30])
 refine BuildL.new 32 (fun v_ w_ => OwnT H A0 (tRow 46 2 v_ (N.length + 1) ((leafV vs N) ++ [Value.int .i64 (l : Int), Value.slice Bv ps.length cv]) :: tBlk gs 46 #[Value.int .i64 (l : Int), Value.slice Bv ps.length cv] :: (tBlk sb 49 #[.slice B N.length cap, .int .i64 room]) :: (tPs (.slice Bv ps.length cv) ps) :: (tPool vs N) :: (tBlk lb 46 #[.int .i64 ↑l, .slice Bv ps.length cv]) :: R) w_) (fun l_ v_ w_ w_' hl hR h => by rw [if_pos hl] at hR; exact h.ext hR) (by rfl) (by rw [k.size]; rfl) rfl ?_ ?_
 · intro lx ax wx hE hR hl hA hF; have e29 := hF 4 (detL 4 29 _) (by decide) ml2
   have f31 := hF 6 _ (by decide) ml0
   exact app_grow hR hl (hA 6 (by decide)) (by decide) elemLf (by decide) rfl (by intro u hu; simp at hu; rcases hu with rfl | rfl <;> rfl) (by unfold maxLen; omega) (by omega) (fun r w' h => Z1e rfl e29 f31 h)
 apply BuildL.det 33 (fun l w => by split; exact Ext.refl _; exact True.intro) (fun l w h => h) (by rfl) (by rw [k.size]; rfl) rfl
 case h =>
  intro lx ax wx hE hR hF; have e25 := hF 0 (detL 0 25 _) (by decide) ml7
  exact Z17 rfl e25
 apply BuildL.det 34 (fun l w => by split; exact Ext.refl _; exact True.intro) (fun l w h => h) (by rfl) (by rw [k.size]; rfl) rfl
 case h =>
  intro lx ax wx hE hR hF; have e33 := hF 8 (detL 8 33 _) (by decide) ml0
  simp [go_sem, ↓IntWalk.iteOmega, ev e33]
  with_reducible rfl
 apply BuildL.stop
 refine ⟨by kernel_rfl, ?_⟩
 clear O; intro lx a17 w18 hE RI hL hF; clear RI; have f32 := hF 7 _ ml2
 have e34 : a17.eval (.tmp 34) = _ := hF 9 (detL 9 34 _) ml0
 clear hF hL; obtain ⟨vr, e32, O⟩ : ∃ v', a17.eval (.tmp 32) = v' ∧ OwnT H A0 (tRow 46 2 v' (N.length + 1) ((leafV vs N) ++ [Value.int .i64 (l : Int), Value.slice Bv ps.length cv]) :: tBlk gs 46 #[Value.int .i64 (l : Int), Value.slice Bv ps.length cv] :: (tBlk sb 49 #[.slice B N.length cap, .int .i64 room]) :: (tPs (.slice Bv ps.length cv) ps) :: (tPool vs N) :: (tBlk lb 46 #[.int .i64 ↑l, .slice Bv ps.length cv]) :: R) w18 := ⟨_, rfl, f32⟩
 clear f32; obtain ⟨gr, cr, rfl⟩ := OwnT.slice0 O (by omega)
 replace O := OwnT.pick01 O
 simp only [List.length_cons, List.length_nil, Nat.zero_add, Nat.reduceAdd, List.drop_succ_cons, List.drop_zero, List.drop_nil, tailOps]
 show Oper.wp _ _ _ _ _ _
 have q0 : w18.cell? ⟨sb, 0, none⟩ = some (.slice B N.length cap) := (OwnT.blk O 1 rfl).cell 0
 have q1 : w18.frozen? ⟨sb, 0, none⟩ = false := (OwnT.blk O 1 rfl).frozen 0
 refine Z4l (off := 0) (v := .slice (some ⟨gr, 0, none⟩) ((N.length + 1)) cr) O 1 rfl rfl (by simp [go_sem, ↓IntWalk.iteOmega, ev e32, ev e34, q0, q1]) ?_
 clear q0 q1; clear O; intro w19 O; replace O : OwnT _ _ (_ :: (tBlk sb 49 #[.slice (some ⟨gr, 0, none⟩) ((N.length + 1)) cr, .int .i64 room]) :: _) w19 := O
 replace e0 := hE.g e0; replace k := k.env hE; clear hE e3 e32 e34; refine Z00 (wp_seq ?_); refine wp_region_lit ?_
 have hE := Env.refl a17 [35, 36, 37, 38, 39, 4, 5]; refine zm 35 hE k e0 ?_; intro a20 hE e35 kp; refine sd 36 hE k (Z17 rfl e35) ?_; intro a21 hE e36 kp; apply Z03 37 hE k rfl rfl rfl rfl; case h =>
  simp [go_sem, ↓IntWalk.iteOmega, ev e36]
  with_reducible rfl
 intro a22 hE e37 kp; refine sd 38 hE k (Z08 O 1 rfl rfl e37 rfl Try.underlying42 rfl) ?_; intro a23 hE e38 kp; refine sd 39 hE k (Z0j Try.underlying42 rfl e38) ?_; intro a24 hE e39 kp; refine sd 4 hE k (Z01 rfl e39) ?_; intro a25 hE e4 kp; refine sd 5 hE k (Z01 rfl rfl) ?_; intro a26 hE e5 kp; replace e4 := kt kp e4; refine wpList_nil ?_; replace k := k.env hE; clear hE e0; refine Z00 ?_; refine wp_ret ?_
 replace O : OwnT _ _ ((tPs (.slice Bv ps.length cv) ps) :: (tPool vs N) :: (tBlk sb 49 #[.slice (some ⟨gr, 0, none⟩) ((N.length + 1)) cr, .int .i64 room]) :: (tRow 46 2 (.slice (some ⟨gr, 0, none⟩) ((N.length + 1)) cr) (N.length + 1) ((leafV vs N) ++ [Value.int .i64 (l : Int), Value.slice Bv ps.length cv])) :: R) w19 := OwnT.pickR (L := [_, _, _, _, _]) (R := R) O [2, 3, 1, 0] (by decide)
 replace O := OwnT.poolAdd (l := l) O
 replace O : OwnT _ _ ((tBlk sb 49 #[.slice (some ⟨gr, 0, none⟩) ((N.length + 1)) cr, .int .i64 room]) :: (tRow 46 2 (.slice (some ⟨gr, 0, none⟩) ((N.length + 1)) cr) (N.length + 1) ((leafV vs N) ++ [Value.int .i64 (l : Int), Value.slice Bv ps.length cv])) :: (tPool (vs ++ [.slice Bv ps.length cv]) (N ++ [(l, ps)])) :: R) w19 := OwnT.pickR (L := [_, _, _]) (R := R) O [1, 2, 0] (by decide)
 have hN2 : (N ++ [(l, ps)]).length = N.length + 1 := by simp
 rw [show leafV vs N ++ [Value.int .i64 (l : Int), Value.slice Bv ps.length cv] = leafV (vs ++ [.slice Bv ps.length cv]) (N ++ [(l, ps)]) from (Z6a (v := .slice Bv ps.length cv) (nd := (l, ps)) hvl).symm, ← hN2] at O
 refine Z1p rfl k e4 e5 ?_
 exact ⟨rfl, some ⟨gr, 0, none⟩, cr, vs ++ [.slice Bv ps.length cv], O⟩
end Go.Proofs.Ytbfgacmfjfbooaa
