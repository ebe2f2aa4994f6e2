/- Trees in laws: Get, Drop. -/
import Derived.Test.YtngehbhhpkkijaaKTreeBuilds26
import Derived.Test.YtngehbhhpkkijaaKTreeBuilds27
import Derived.Test.YtngehbhhpkkijaaKTreeBuilds31
namespace Go.Proofs.Ytngehbhhpkkijaa
set_option linter.unusedVariables false
set_option linter.unusedSimpArgs false
open Go.RowKit Go.Maps
section
variable {H : Nat} {A0 : World} {R : List Thing} {sb cap : Nat} {room : Int} {B : Option Addr} {vs : List Value} {N : List Nd} {root ky vl c : Nat} {P : List Pr}
theorem lGet (w : World) (O : OwnT H A0 (shT sb room B cap vs N R) w) (hT : Tre N root c P) (hN : N.length ≤ 511) :
    Calls Try.prog 19 #[.iface 24 (.pointer (some ⟨sb, 0, none⟩)), .int .i64 root, .int .u64 ky] w fun e w' => e = .returned (.tuple #[.int .u64 ((lookP ky P).getD 0 : Nat), .bool (lookP ky P).isSome, .int .i64 0]) ∧ OwnT H A0 (shT sb room B cap vs N R) w' := by
  obtain ⟨m, L, g, h1, h2, rfl, h4⟩ := hT
  exact tGet w O h1 (by omega) hN
end
end Go.Proofs.Ytngehbhhpkkijaa

/- trees: awake of layer 8 (printed by XTrAw.gen.py). -/
namespace Go.Proofs.Ytngehbhhpkkijaa
attribute [local simp] BigFrame.eval_const BigFrame.eval_global BigFrame.eval_func
set_option linter.unusedVariables false
set_option linter.unusedSimpArgs false
open Go.RowKit Go.Maps


def ps0 (i : Nat) : List Pr := (List.range i).map fun j => (3 * j, j)
theorem ps0_succ (i : Nat) : ps0 (i + 1) = ps0 i ++ [(3 * i, i)] := by simp [ps0, List.range_succ]
theorem Z7o (i : Nat) : (ps0 i).length = i := by simp [ps0]
theorem ps0_lt {i : Nat} : ∀ y ∈ ps0 i, y.1 < 3 * i := fun y hy => by
 obtain ⟨j, hj, rfl⟩ := List.mem_map.1 hy
 have := List.mem_range.1 hj
 show 3 * j < _
 omega
theorem ins_ps0 (i : Nat) : insP (3 * i, i) (ps0 i) = ps0 (i + 1) := by
 unfold insP
 rw [ps0_succ, Z1r (fun y hy => decide_eq_true (ps0_lt y hy)), Z2k (fun y hy => decide_eq_false (by have := ps0_lt y hy; simp only; omega))]
theorem Z7h {x : Pr} {c : List Pr} {L' : List (List Pr)} (h : SplitL x [c] L') : L' = parts (insP x c) := by
 obtain ⟨A, c', B, e, rfl, _⟩ := h
 cases A with
 | nil =>
  injection e with e1 e2
  subst e1 e2
  simp
 | cons a A =>
  injection e with _ e
  exact absurd (congrArg List.length e) (by simp)
/-- The leaves of sixteen pairs, put one behind the other. -/
theorem grow_ps0 {root i : Nat} {L' : List (List Pr)} (hi : i < 16) (h : GrowL root (3 * i, i) (if i = 0 then [] else [ps0 i]) L') (hr : root = 0 ↔ i = 0) : L' = parts (ps0 (i + 1)) := by
 rcases h with ⟨h1, h2, rfl⟩ | ⟨h1, h2⟩
 · have hi0 := hr.1 h1
   subst hi0
   decide
 · have hi0 : i ≠ 0 := fun e => h1 (hr.2 e)
   rw [if_neg hi0] at h2
   rw [Z7h h2, ins_ps0]
theorem Z8b {N : List Nd} {l root : Nat} {a b : List Pr} {g : List Nat} (hT : Tr N l root [a, b] g) (hl : l ≤ 1) : l = 1 ∧ ∃ x1 x2, ndAt N root = some (1, [x1, x2]) ∧ hdk [b] = some x2.1 := by
 have h01 : l = 0 ∨ l = 1 := by omega
 rcases h01 with rfl | rfl
 · obtain ⟨xs, h, _, h2, _, h4, _⟩ := Z2s.1 hT
   have := (Z0i.1 h4).1
   rw [if_neg h2] at this
   exact absurd (congrArg List.length this) (by simp)
 · refine ⟨rfl, ?_⟩
   obtain ⟨xs, h, h1, h2, _, h4, _⟩ := Z2s.1 hT
   have hk := Z0l.1 h4
   have one : ∀ {p : Nat} {L : List (List Pr)} {g : List Nat}, Tr N 0 p L g → L.length = 1 := fun h => by
    obtain ⟨ys, h', _, k2, _, k4, _⟩ := Z2s.1 h
    rw [(Z0i.1 k4).1, if_neg k2]
    rfl
   match xs, hk with
   | [], hk => obtain ⟨e, _⟩ := hk; cases e
   | [x], hk =>
    obtain ⟨hT1, _⟩ := hk.of_one
    exact absurd (one hT1) (by simp)
   | x1 :: x2 :: x3 :: r, hk => exact absurd hk.len (by simp)
   | [x1, x2], hk =>
    obtain ⟨L1, g1, L2, g2, k1, k2, k3, k4, k5⟩ := hk
    obtain ⟨k6, k7⟩ := k3.of_one
    have e1 := one k1
    obtain ⟨y, rfl⟩ : ∃ y, L1 = [y] := List.length_eq_one_iff.1 e1
    injection k4 with _ k4
    exact ⟨x1, x2, h1, by rw [k4]; exact k7⟩

set_option maxRecDepth 100000 in
set_option maxHeartbeats 4000000 in
theorem awake08 (W0 : World) : Calls Try.prog 14 #[] W0 fun e w' => e = .returned (.bool true) ∧ Ext W0 w' := by
 have O := OwnT.start W0
 refine Z0c Try.func14 rfl 85 rfl (by rfl) ?_
 intro a1 k hargs
 clear hargs
 refine wp_seq ?_
 refine wp_region_lit ?_
 have hE := Env.refl a1 [0]
 refine sd 0 hE k (Z01 rfl rfl) ?_
 intro a2 hE e0 kp
 refine wpList_nil ?_
 replace k := k.env hE
 clear hE e0
 refine Z00 (wp_seq ?_)
 refine wp_region_lit ?_
 have hE := Env.refl a2 [11, 12, 1]
 apply Z02 11 hE k rfl rfl rfl rfl
 case h =>
  simp [go_sem, ↓IntWalk.iteOmega]
  with_reducible rfl
 intro a3 hE e11 kp
 refine Z0k O (cs := #[.slice none 0 0, .int .i64 100]) (t := 28) 12 hE k rfl (by rfl) (by rfl) rfl (by simp [go_sem, ↓IntWalk.iteOmega, ev e11]) ?_
 clear O
 intro sb a4 w5 O hE e12 kp
 refine sd 1 hE k (Z01 rfl e12) ?_
 intro a6 hE e1 kp
 refine wpList_nil ?_
 replace k := k.env hE
 clear hE
 refine Z00 ?_
 replace O := sh_nil O
 refine wp_seq ?_
 refine wp_region_lit ?_
 have hE := Env.refl a6 [2]
 refine sd 2 hE k (Z01 rfl rfl) ?_
 intro a7 hE e2 kp
 refine wpList_nil ?_
 replace e1 := hE.g e1
 replace k := k.env hE
 clear hE
 refine Z00 (wp_seq ?_)
 refine wp_seq ?_
 refine wp_region_lit ?_
 have hE := Env.refl a7 [3]
 refine sd 3 hE k (Z01 rfl rfl) ?_
 intro a8 hE e3 kp
 refine wpList_nil ?_
 replace e1 := hE.g e1; replace e2 := hE.g e2
 replace k := k.env hE
 clear hE
 refine Z00 ?_
 refine wp_block ?_
 refine wp_loop (fun a w => Fr 85 a ∧ a.eval (.tmp 1) = .pointer (some ⟨sb, 0, none⟩) ∧ ∃ (i rt : Nat) (L : List (List Pr)) (g : List Nat) (N : List Nd) (B : Option Addr) (cap : Nat) (vs : List Value), a.eval (.tmp 2) = .int .i64 ↑rt ∧ a.eval (.tmp 3) = .int .i64 ↑i ∧ i ≤ 16 ∧ N.length ≤ 5 * i ∧ (rt = 0 ↔ i = 0) ∧ L = parts (ps0 i) ∧ RT 1 N rt L g ∧ OwnT W0.heap.size W0 ((tBlk sb 28 #[.slice B N.length cap, .int .i64 100]) :: (tRow 125 2 (.slice B N.length cap) N.length (leafV vs N)) :: (tPool vs N) :: []) w) (fun a w => 16 - (intOf (a.eval (.tmp 3))).toNat) ?_ ?_
 · exact ⟨k, e1, 0, 0, [], [], [], none, 0, [], e2, e3, Nat.zero_le _, Nat.zero_le _, Iff.rfl, rfl, Z7i 1 [], O⟩
 intro a9 w10 hI
 clear k e1
 obtain ⟨k, e1, h_⟩ := hI
 clear O e2 e3
 obtain ⟨i, rt, L, g, N, B, cap, vs, e2, e3, hi, hN, hr0, hL, hRT, O⟩ := h_
 have mi := e3
 by_cases hlt : i < 16
 · have hltI : (i : Int) < 16 := by omega
   have hL0 : L = if i = 0 then [] else [ps0 i] := by
    rw [hL]; split
    · rename_i h; rw [h]; rfl
    · exact Z2d (fun e => by have := congrArg List.length e; rw [Z7o] at this; simp at this; omega) (by rw [Z7o]; omega)
   refine wp_seq ?_
   refine wp_seq ?_
   refine wp_region_lit ?_
   have hE := Env.refl a9 [13, 14]
   refine zm 13 hE k e3 ?_
   intro a11 hE e13 kp
   refine sd 14 hE k (Z06 (Z1c rfl e13 rfl) (decide_eq_true (by omega))) ?_
   intro a12 hE e14 kp
   refine wpList_nil ?_
   replace e1 := hE.g e1; replace e2 := hE.g e2; replace e3 := hE.g e3
   replace k := k.env hE
   clear hE
   refine Z00 ?_
   refine Z0g e14 rfl ?_
   refine wp_skip ?_
   refine Z00 (wp_seq ?_)
   refine wp_block ?_
   refine wp_seq ?_
   refine wp_region_lit ?_
   have hE := Env.refl a12 [18, 19, 20, 21, 22, 23, 24, 25, 26, 17, 27, 28, 4, 5]
   refine zm 18 hE k e1 ?_
   intro a13 hE e18 kp
   apply Z02 19 hE k rfl rfl rfl rfl
   case h =>
    simp [go_sem, ↓IntWalk.iteOmega, ev e18]
    with_reducible rfl
   intro a14 hE e19 kp
   refine zm 20 hE k e2 ?_
   intro a15 hE e20 kp
   replace e19 := kt kp e19
   refine zm 21 hE k e3 ?_
   intro a16 hE e21 kp
   replace e19 := kt kp e19; replace e20 := kt kp e20
   refine sd 22 hE k (Z16 (v := .int .i64 ((3 * i : Nat) : Int)) (x_mul rfl rfl e21 (by omega)) (Z0h (by omega))) ?_
   intro a17 hE e22 kp
   replace e19 := kt kp e19; replace e20 := kt kp e20
   refine sd 23 hE k (Z1w rfl e22 (Z2q (3 * i) _ (by omega))) ?_
   intro a18 hE e23 kp
   replace e19 := kt kp e19; replace e20 := kt kp e20
   refine zm 24 hE k e3 ?_
   intro a19 hE e24 kp
   replace e19 := kt kp e19; replace e20 := kt kp e20; replace e23 := kt kp e23
   refine sd 25 hE k (Z1w rfl e24 (Z2q i _ (by omega))) ?_
   intro a20 hE e25 kp
   replace e19 := kt kp e19; replace e20 := kt kp e20; replace e23 := kt kp e23
   apply Z08 26 hE k rfl (by rfl) (by rfl) rfl
   case h =>
    simp [go_sem, ↓IntWalk.iteOmega, ev e19, ev e20, ev e23, ev e25]
    with_reducible exact ⟨rfl, rfl⟩
   case hc => exact tPut (ky := 3 * i) (vl := i) _ O hRT (by omega) (by omega) (by omega) (by omega)
   clear O
   rintro e w22 ⟨N2, r2, er, B2, cap2, vs2, rfl, O, hP⟩
   refine ⟨_, rfl, ?_⟩
   intro a21 hE e26 kp
   refine sd 17 hE k (Z03 rfl e26) ?_
   intro a23 hE e17 kp
   apply Z02 27 hE k rfl rfl rfl rfl
   case h =>
    simp [go_sem, ↓IntWalk.iteOmega, ev e17]
    with_reducible rfl
   intro a24 hE e27 kp
   replace e17 := kt kp e17
   apply Z02 28 hE k rfl rfl rfl rfl
   case h =>
    simp [go_sem, ↓IntWalk.iteOmega, ev e17]
    with_reducible rfl
   intro a25 hE e28 kp
   replace e27 := kt kp e27
   refine sd 4 hE k (Z01 rfl e27) ?_
   intro a26 hE e4 kp
   replace e28 := kt kp e28
   refine sd 5 hE k (Z01 rfl e28) ?_
   intro a27 hE e5 kp
   replace e4 := kt kp e4
   refine wpList_nil ?_
   replace e1 := hE.g e1; replace e3 := hE.g e3
   replace k := k.env hE
   clear hE e2 e14
   refine Z00 ?_
   obtain ⟨⟨M, rfl, hM⟩, hP⟩ := hP
   obtain ⟨rfl, r, L', g', m', rfl, hr1, hr2, hRT2, hfl, hgr, hm1, hm2⟩ := hP.resolve_left (fun h => h.2.2 (by omega))
   rw [hL0] at hgr
   have hL' := grow_ps0 hlt hgr hr0
   have hm : m' = 1 := by
    rcases hm2 with h | h | h
    · exact h
    · omega
    · have := (Z1y (ps0 (i + 1))); rw [hL'] at h; omega
   subst hm

   refine wp_seq ?_
   refine wp_seq ?_
   refine wp_region_lit ?_
   have hE := Env.refl a27 [29, 30]
   refine zm 29 hE k e5 ?_
   intro a28 hE e29 kp
   refine sd 30 hE k (Z1f rfl e29 rfl) ?_
   intro a29 hE e30 kp
   refine wpList_nil ?_
   replace e1 := hE.g e1; replace e3 := hE.g e3; replace e4 := hE.g e4
   replace k := k.env hE
   clear hE e5
   refine Z00 ?_
   refine Z05 e30 rfl ?_
   refine wp_skip ?_
   refine Z00 ?_
   refine wp_region_lit ?_
   have hE := Env.refl a29 [31, 2]
   refine zm 31 hE k e4 ?_
   intro a30 hE e31 kp
   refine sd 2 hE k (Z01 rfl e31) ?_
   intro a31 hE e2 kp
   refine wpList_nil ?_
   replace e1 := hE.g e1; replace e3 := hE.g e3
   replace k := k.env hE
   clear hE e4 e30
   refine Z0t ?_
   refine Z00 ?_
   refine wp_region_lit ?_
   have hE := Env.refl a31 [15, 16, 3]
   refine sd 15 hE k (Z03 rfl e3) ?_
   intro a32 hE e15 kp
   replace e3 := kt kp e3
   refine sd 16 hE k (Z0x rfl e15 rfl (by omega)) ?_
   intro a33 hE e16 kp
   replace e3 := kt kp e3
   refine sd 3 hE k (Z01 rfl e16) ?_
   intro a34 hE e3 kp
   refine wpList_nil ?_
   replace e1 := hE.g e1; replace e2 := hE.g e2
   replace k := k.env hE
   clear hE
   refine Z00 ?_
   refine ⟨⟨k, e1, i + 1, r, L', g', N ++ M, B2, cap2, vs2, e2, e3, by omega, by rw [List.length_append]; omega, by omega, hL', hRT2, O⟩, ?_⟩
   rw [e3, mi]; simp only [intOf]; omega
 · skip
   obtain rfl : i = 16 := by omega
   clear mi
   have hfl : L.flatten = ps0 16 := by rw [hL]; exact Z2w _
   have hTre : Tre N rt 1000 (ps0 16) := ⟨1, L, g, hRT, Nat.le_refl _, hfl, by rw [hL]; decide⟩
   have hL2 : L = [(ps0 16).take 8, (ps0 16).drop 8] := by rw [hL]; exact Z2c rfl
   obtain ⟨l, hl1, hT⟩ : ∃ l, l ≤ 1 ∧ Tr N l rt L g := by
    rcases hRT.rt with ⟨h, _⟩ | ⟨l, h1, h2, _⟩
    · exact absurd (hr0.1 h) (by decide)
    · exact ⟨l, h1, h2⟩
   rw [hL2] at hT
   obtain ⟨rfl, x1, x2, hnd, hx2⟩ := Z8b hT hl1
   have hx24 : x2.1 = 24 := by
    have h : hdk [(ps0 16).drop 8] = some 24 := by decide
    rw [h] at hx2
    injection hx2 with hx2
    exact hx2.symm
   clear hT hL hL2 hRT hfl hr0

   refine wp_seq ?_
   refine wp_seq ?_
   refine wp_region_lit ?_
   have hE := Env.refl a9 [13, 14]
   refine zm 13 hE k e3 ?_
   intro a35 hE e13 kp
   refine sd 14 hE k (Z06 (Z1c rfl e13 rfl) (decide_eq_false (by omega))) ?_
   intro a36 hE e14 kp
   refine wpList_nil ?_
   replace e1 := hE.g e1; replace e2 := hE.g e2; replace e3 := hE.g e3
   replace k := k.env hE
   clear hE
   refine Z00 ?_
   refine Z05 e14 rfl ?_
   refine wp_exit ?_
   refine Z0z ?_
   refine Z0z ?_
   refine Z1j ?_
   refine Z00 (wp_seq ?_)
   refine wp_region_lit ?_
   have hE := Env.refl a36 [33, 34, 35, 36, 32, 37, 38, 39, 6, 7, 8]
   refine zm 33 hE k e1 ?_
   intro a37 hE e33 kp
   apply Z02 34 hE k rfl rfl rfl rfl
   case h =>
    simp [go_sem, ↓IntWalk.iteOmega, ev e33]
    with_reducible rfl
   intro a38 hE e34 kp
   refine zm 35 hE k e2 ?_
   intro a39 hE e35 kp
   replace e34 := kt kp e34
   apply Z08 36 hE k rfl (by rfl) (by rfl) rfl
   case h =>
    simp [go_sem, ↓IntWalk.iteOmega, ev e34, ev e35]
    with_reducible exact ⟨rfl, rfl⟩
   case hc => exact lGet (ky := 21) _ O hTre (by omega)
   clear O
   rintro e w41 ⟨rfl, O⟩
   refine ⟨.tuple #[.int .u64 7, .bool true, .int .i64 0], congrArg (fun o : Option Nat => Ending.returned (.tuple #[.int .u64 (o.getD 0 : Nat), .bool o.isSome, .int .i64 0])) (show lookP 21 (ps0 16) = some 7 by decide), ?_⟩
   intro a40 hE e36 kp
   refine sd 32 hE k (Z03 rfl e36) ?_
   intro a42 hE e32 kp
   apply Z02 37 hE k rfl rfl rfl rfl
   case h =>
    simp [go_sem, ↓IntWalk.iteOmega, ev e32]
    with_reducible rfl
   intro a43 hE e37 kp
   replace e32 := kt kp e32
   apply Z02 38 hE k rfl rfl rfl rfl
   case h =>
    simp [go_sem, ↓IntWalk.iteOmega, ev e32]
    with_reducible rfl
   intro a44 hE e38 kp
   replace e32 := kt kp e32; replace e37 := kt kp e37
   apply Z02 39 hE k rfl rfl rfl rfl
   case h =>
    simp [go_sem, ↓IntWalk.iteOmega, ev e32]
    with_reducible rfl
   intro a45 hE e39 kp
   replace e37 := kt kp e37; replace e38 := kt kp e38
   refine sd 6 hE k (Z01 rfl e37) ?_
   intro a46 hE e6 kp
   replace e38 := kt kp e38; replace e39 := kt kp e39
   refine sd 7 hE k (Z01 rfl e38) ?_
   intro a47 hE e7 kp
   replace e39 := kt kp e39; replace e6 := kt kp e6
   refine sd 8 hE k (Z01 rfl e39) ?_
   intro a48 hE e8 kp
   replace e6 := kt kp e6; replace e7 := kt kp e7
   refine wpList_nil ?_
   replace e1 := hE.g e1; replace e2 := hE.g e2
   replace k := k.env hE
   clear hE e3 e14
   refine Z00 (wp_seq ?_)
   refine wp_region_lit ?_
   have hE := Env.refl a48 [41, 42, 43, 40, 44, 45, 9, 10]
   refine zm 41 hE k e1 ?_
   intro a49 hE e41 kp
   refine zm 42 hE k e2 ?_
   intro a50 hE e42 kp
   replace e41 := kt kp e41
   apply Z08 43 hE k rfl (by rfl) (by rfl) rfl
   case h =>
    simp [go_sem, ↓IntWalk.iteOmega, ev e41, ev e42]
    with_reducible exact ⟨rfl, rfl⟩
   case hc => exact Z47 rt 1 [x1, x2] _ O (by omega) hnd (by simp)
   clear O
   rintro e w52 ⟨v, rfl, O, -⟩
   obtain ⟨Bv, cv, rfl, -, -, hrow, -⟩ := Z0r (OwnT.t0 O)
   replace O : OwnT _ _ ((tPs (.slice Bv 2 cv) [x1, x2]) :: (tBlk sb 28 #[.slice B N.length cap, .int .i64 100]) :: (tRow 125 2 (.slice B N.length cap) N.length (leafV vs N)) :: (tPool vs N) :: []) w52 := O
   refine ⟨_, rfl, ?_⟩
   intro a51 hE e43 kp
   refine sd 40 hE k (Z03 rfl e43) ?_
   intro a53 hE e40 kp
   apply Z02 44 hE k rfl rfl rfl rfl
   case h =>
    simp [go_sem, ↓IntWalk.iteOmega, ev e40]
    with_reducible rfl
   intro a54 hE e44 kp
   replace e40 := kt kp e40
   apply Z02 45 hE k rfl rfl rfl rfl
   case h =>
    simp [go_sem, ↓IntWalk.iteOmega, ev e40]
    with_reducible rfl
   intro a55 hE e45 kp
   replace e44 := kt kp e44
   refine Z0k O (cs := #[.int .i64 0, .slice none 0 0]) (t := 125) 9 hE k rfl (by rfl) (by rfl) rfl (by simp [go_sem, ↓IntWalk.iteOmega]) ?_
   clear O
   intro nb a56 w57 O hE e9 kp
   replace e44 := kt kp e44; replace e45 := kt kp e45
   have q0 : w57.cell? ⟨nb, 0, none⟩ = some (.int .i64 0) := (OwnT.blk O 0 rfl).cell 0
   have z0 : w57.frozen? ⟨nb, 0, none⟩ = false := (OwnT.blk O 0 rfl).frozen 0
   have q1 : w57.cell? ⟨nb, 1, none⟩ = some (.slice none 0 0) := (OwnT.blk O 0 rfl).cell 1
   have z1 : w57.frozen? ⟨nb, 1, none⟩ = false := (OwnT.blk O 0 rfl).frozen 1
   refine Z0y (w' := ((w57.setCell ⟨nb, 0, none⟩ (.int .i64 1)).setCell ⟨nb, 1, none⟩ (.slice Bv 2 cv))) hE rfl rfl (by simp [go_sem, ↓IntWalk.iteOmega, ev e9, ev e44, q0, z0, q1, z1]) ?_
   replace O := OwnT.push 0 rfl (((OwnT.pull O 0 rfl).set 0 (.int .i64 1)).set 1 (.slice Bv 2 cv))
   clear q0 z0 q1 z1
   generalize ((w57.setCell ⟨nb, 0, none⟩ (.int .i64 1)).setCell ⟨nb, 1, none⟩ (.slice Bv 2 cv)) = w58 at O ⊢
   replace O : OwnT _ _ ((tBlk nb 125 #[.int .i64 1, .slice Bv 2 cv]) :: (tPs (.slice Bv 2 cv) [x1, x2]) :: (tBlk sb 28 #[.slice B N.length cap, .int .i64 100]) :: (tRow 125 2 (.slice B N.length cap) N.length (leafV vs N)) :: (tPool vs N) :: []) w58 := O
   refine sd 10 hE k (Z01 rfl e45) ?_
   intro a59 hE e10 kp
   replace e9 := kt kp e9
   refine wpList_nil ?_
   replace e1 := hE.g e1; replace e2 := hE.g e2; replace e6 := hE.g e6; replace e7 := hE.g e7; replace e8 := hE.g e8
   replace k := k.env hE
   clear hE
   refine Z00 ?_
   obtain ⟨gv, ev⟩ : ∃ gv, Bv = some ⟨gv, 0, none⟩ := by
    obtain ⟨g2, c2, _, e2, _⟩ := Z17 (OwnT.get O 1 rfl : World.ownsRow _ 0 38 2 _ [x1, x2].length _) (by simp)
    injection e2 with e2; exact ⟨g2, e2⟩
   subst ev
   have hcc : ∀ W, OwnT W0.heap.size W0 ((tBlk nb 125 #[.int .i64 1, .slice (some ⟨gv, 0, none⟩) 2 cv]) :: (tPs (.slice (some ⟨gv, 0, none⟩) 2 cv) [x1, x2]) :: (tBlk sb 28 #[.slice B N.length cap, .int .i64 100]) :: (tRow 125 2 (.slice B N.length cap) N.length (leafV vs N)) :: (tPool vs N) :: []) W → W.cell? ⟨gv, 2, none⟩ = some (.int .u64 24) := fun W hW => by
    obtain ⟨_, g2, e, h, _⟩ := ps_cells (i := 1) (x := x2) (hW.get 1 rfl) rfl; injection e with e; injection e with e; subst e; rw [hx24] at h; exact h
   have hcc2 := hcc _ O
   replace O : OwnT _ _ ((tBlk sb 28 #[.slice B N.length cap, .int .i64 100]) :: (tRow 125 2 (.slice B N.length cap) N.length (leafV vs N)) :: (tPool vs N) :: (tPs (.slice (some ⟨gv, 0, none⟩) 2 cv) [x1, x2]) :: (tBlk nb 125 #[.int .i64 1, .slice (some ⟨gv, 0, none⟩) 2 cv]) :: []) w58 := OwnT.pickR (L := [_, _, _, _, _]) (R := []) O [2, 3, 4, 1, 0] (by decide)
   refine wp_seq ?_
   refine wp_region_lit ?_
   have hE := Env.refl a59 [46, 47, 48, 49, 50, 51, 52, 53, 54, 55, 56, 57, 58, 59, 60, 61, 62, 63, 64, 65, 66, 67, 68, 69, 70, 71, 72, 73, 74, 75, 76, 77, 78, 79, 80, 81, 82, 83, 84, 0]
   refine zm 46 hE k e7 ?_
   intro a60 hE e46 kp
   refine sd 47 hE k (Z03 rfl e46) ?_
   intro a61 hE e47 kp
   apply Z04 48 hE k rfl rfl rfl rfl rfl e47
   case h =>
    exact Z03 rfl (hE.g e6)
   intro a62 hE e48 kp
   replace e47 := kt kp e47
   apply Z04 49 hE k rfl rfl rfl rfl rfl e47
   case h =>
    exact Z0n rfl e48 rfl
   intro a63 hE e49 kp
   replace e47 := kt kp e47
   refine sd 50 hE k (Z09 rfl e47 e49) ?_
   intro a64 hE e50 kp
   refine sd 51 hE k (Z03 rfl e50) ?_
   intro a65 hE e51 kp
   apply Z04 52 hE k rfl rfl rfl rfl rfl e51
   case h =>
    exact Z03 rfl (hE.g e8)
   intro a66 hE e52 kp
   replace e51 := kt kp e51
   apply Z04 53 hE k rfl rfl rfl rfl rfl e51
   case h =>
    exact Z0n rfl e52 rfl
   intro a67 hE e53 kp
   replace e51 := kt kp e51
   refine sd 54 hE k (Z09 rfl e51 e53) ?_
   intro a68 hE e54 kp
   refine sd 55 hE k (Z03 rfl e54) ?_
   intro a69 hE e55 kp
   apply Z04 56 hE k rfl rfl rfl rfl rfl e55
   case h =>
    exact Z03 rfl (hE.g e10)
   intro a70 hE e56 kp
   replace e55 := kt kp e55
   apply Z04 57 hE k rfl rfl rfl rfl rfl e55
   case h =>
    exact Z0n rfl e56 rfl
   intro a71 hE e57 kp
   replace e55 := kt kp e55
   refine sd 58 hE k (Z09 rfl e55 e57) ?_
   intro a72 hE e58 kp
   refine sd 59 hE k (Z03 rfl e58) ?_
   intro a73 hE e59 kp
   apply Z04 60 hE k rfl rfl rfl rfl rfl e59
   case h =>
    simp [go_sem, ↓IntWalk.iteOmega, ev (hE.g e9)]
    with_reducible rfl
   intro a74 hE e60 kp
   replace e59 := kt kp e59
   apply Z04 61 hE k rfl rfl rfl rfl rfl e59
   case h =>
    have q0 : w58.cell? ⟨nb, 0, none⟩ = some (.int .i64 1) := (OwnT.blk O 4 rfl).cell 0
    simp [go_sem, ↓IntWalk.iteOmega, ev e60, q0]
    with_reducible rfl
   intro a75 hE e61 kp
   replace e59 := kt kp e59
   apply Z04 62 hE k rfl rfl rfl rfl rfl e59
   case h =>
    exact Z0n rfl e61 rfl
   intro a76 hE e62 kp
   replace e59 := kt kp e59
   refine sd 63 hE k (Z09 rfl e59 e62) ?_
   intro a77 hE e63 kp
   refine sd 64 hE k (Z03 rfl e63) ?_
   intro a78 hE e64 kp
   apply Z04 65 hE k rfl rfl rfl rfl rfl e64
   case h =>
    simp [go_sem, ↓IntWalk.iteOmega, ev (hE.g e9)]
    with_reducible rfl
   intro a79 hE e65 kp
   replace e64 := kt kp e64
   apply Z04 66 hE k rfl rfl rfl rfl rfl e64
   case h =>
    have q0 : w58.cell? ⟨nb, 1, none⟩ = some (.slice (some ⟨gv, 0, none⟩) 2 cv) := (OwnT.blk O 4 rfl).cell 1
    simp [go_sem, ↓IntWalk.iteOmega, ev e65, q0]
    with_reducible rfl
   intro a80 hE e66 kp
   replace e64 := kt kp e64
   apply Z04 67 hE k rfl rfl rfl rfl rfl e64
   case h =>
    exact Z0f Try.underlying29 rfl e66
   intro a81 hE e67 kp
   replace e64 := kt kp e64
   apply Z04 68 hE k rfl rfl rfl rfl rfl e64
   case h =>
    exact Z0n rfl e67 rfl
   intro a82 hE e68 kp
   replace e64 := kt kp e64
   refine sd 69 hE k (Z09 rfl e64 e68) ?_
   intro a83 hE e69 kp
   refine sd 70 hE k (Z03 rfl e69) ?_
   intro a84 hE e70 kp
   apply Z04 71 hE k rfl rfl rfl rfl rfl e70
   case h =>
    simp [go_sem, ↓IntWalk.iteOmega, ev (hE.g e9)]
    with_reducible rfl
   intro a85 hE e71 kp
   replace e70 := kt kp e70
   apply Z04 72 hE k rfl rfl rfl rfl rfl e70
   case h =>
    have q0 : w58.cell? ⟨nb, 1, none⟩ = some (.slice (some ⟨gv, 0, none⟩) 2 cv) := (OwnT.blk O 4 rfl).cell 1
    simp [go_sem, ↓IntWalk.iteOmega, ev e71, q0]
    with_reducible rfl
   intro a86 hE e72 kp
   replace e70 := kt kp e70
   apply Z04 73 hE k rfl rfl rfl rfl rfl e70
   case h =>
    simp [go_sem, ↓IntWalk.iteOmega, ev e72]
    with_reducible rfl
   intro a87 hE e73 kp
   replace e70 := kt kp e70
   apply Z04 74 hE k rfl rfl rfl rfl rfl e70
   case h =>
    simp [go_sem, ↓IntWalk.iteOmega, ev e73]
    with_reducible rfl
   intro a88 hE e74 kp
   replace e70 := kt kp e70
   apply Z04 75 hE k rfl rfl rfl rfl rfl e70
   case h =>
    simp [go_sem, ↓IntWalk.iteOmega, ev e74, hcc2]
    with_reducible rfl
   intro a89 hE e75 kp
   replace e70 := kt kp e70
   apply Z04 76 hE k rfl rfl rfl rfl rfl e70
   case h =>
    exact Z0n rfl e75 rfl
   intro a90 hE e76 kp
   replace e70 := kt kp e70
   refine sd 77 hE k (Z09 rfl e70 e76) ?_
   intro a91 hE e77 kp
   refine sd 78 hE k (Z03 rfl e77) ?_
   intro a92 hE e78 kp
   apply Z04 79 hE k rfl rfl rfl rfl rfl e78
   case h =>
    exact Z03 rfl (hE.g e1)
   intro a93 hE e79 kp
   replace e78 := kt kp e78
   apply Z04 80 hE k rfl rfl rfl rfl rfl e78
   case h =>
    simp [go_sem, ↓IntWalk.iteOmega, ev e79]
    with_reducible rfl
   intro a94 hE e80 kp
   replace e78 := kt kp e78
   apply Z04 81 hE k rfl rfl rfl rfl rfl e78
   case h =>
    exact Z03 rfl (hE.g e2)
   intro a95 hE e81 kp
   replace e78 := kt kp e78; replace e80 := kt kp e80
   apply Z1p 82 hE k rfl (by rfl) (by rfl) rfl rfl e78
   case h =>
    simp [go_sem, ↓IntWalk.iteOmega, ev e80, ev e81]
    with_reducible exact ⟨rfl, rfl⟩
   case hc => exact lCheck (R := _ :: _ :: []) _ O hTre (by omega) (by omega)
   clear O
   rintro e w97 ⟨rfl, O⟩
   refine ⟨_, rfl, ?_⟩
   intro a96 hE e82 kp
   replace e78 := kt kp e78
   apply Z04 83 hE k rfl rfl rfl rfl rfl e78
   case h =>
    exact Z0n rfl e82 rfl
   intro a98 hE e83 kp
   replace e78 := kt kp e78
   refine sd 84 hE k (Z09 rfl e78 e83) ?_
   intro a99 hE e84 kp
   refine sd 0 hE k (Z01 rfl e84) ?_
   intro a100 hE e0 kp
   refine wpList_nil ?_
   replace k := k.env hE
   clear hE e1 e2 e6 e7 e8 e9 e10
   refine Z00 ?_
   refine wp_ret ?_
   refine Z0p rfl k e0 ?_
   exact ⟨rfl, O.below⟩
end Go.Proofs.Ytngehbhhpkkijaa
