/- trees: awake of layer 8 (printed by XTrAw.gen.py). -/
import Derived.Test.YtngehbhhpkkijaaKTreeShares28
import Derived.Test.YtngehbhhpkkijaaKTreeShares06
import Derived.Test.YtngehbhhpkkijaaKTreeShares02
namespace Go.Proofs.Ytngehbhhpkkijaa
attribute [local simp] BigFrame.eval_const BigFrame.eval_global BigFrame.eval_func
set_option linter.unusedVariables false
set_option linter.unusedSimpArgs false
open Go.RowKit Go.Maps


def ps0 (i : Nat) : List Pr := (List.range i).map fun j => (3 * j, j)
theorem ps0_succ (i : Nat) : ps0 (i + 1) = ps0 i ++ [(3 * i, i)] := by simp [ps0, List.range_succ]
theorem ps0_len (i : Nat) : (ps0 i).length = i := by simp [ps0]
theorem ps0_lt {i : Nat} : ∀ y ∈ ps0 i, y.1 < 3 * i := fun y hy => by
  obtain ⟨j, hj, rfl⟩ := List.mem_map.1 hy
  have := List.mem_range.1 hj
  show 3 * j < _
  omega
theorem ins_ps0 (i : Nat) : insP (3 * i, i) (ps0 i) = ps0 (i + 1) := by
  unfold insP
  rw [ps0_succ, filter_all (fun y hy => decide_eq_true (ps0_lt y hy)), filter_none (fun y hy => decide_eq_false (by have := ps0_lt y hy; simp only; omega))]
theorem split_one {x : Pr} {c : List Pr} {L' : List (List Pr)} (h : SplitL x [c] L') : L' = parts (insP x c) := by
  obtain ⟨A, c', B, e, rfl, _⟩ := h
  cases A with
  | nil =>
    injection e with e1 e2
    subst e1 e2
    simp
  | cons a A =>
    injection e with _ e
    exact absurd (congrArg List.length e) (by simp)
/-- The leaves of sixteen pairs, put one behind the other. -/
theorem grow_ps0 {root i : Nat} {L' : List (List Pr)} (hi : i < 16) (h : GrowL root (3 * i, i) (if i = 0 then [] else [ps0 i]) L') (hr : root = 0 ↔ i = 0) : L' = parts (ps0 (i + 1)) := by
  rcases h with ⟨h1, h2, rfl⟩ | ⟨h1, h2⟩
  · have hi0 := hr.1 h1
    subst hi0
    decide
  · have hi0 : i ≠ 0 := fun e => h1 (hr.2 e)
    rw [if_neg hi0] at h2
    rw [split_one h2, ins_ps0]
theorem root_two {N : List Nd} {l root : Nat} {a b : List Pr} {g : List Nat} (hT : Tr N l root [a, b] g) (hl : l ≤ 1) : l = 1 ∧ ∃ x1 x2, ndAt N root = some (1, [x1, x2]) ∧ hdk [b] = some x2.1 := by
  have h01 : l = 0 ∨ l = 1 := by omega
  rcases h01 with rfl | rfl
  · obtain ⟨xs, h, _, h2, _, h4, _⟩ := Tr_iff.1 hT
    have := (body_zero.1 h4).1
    rw [if_neg h2] at this
    exact absurd (congrArg List.length this) (by simp)
  · refine ⟨rfl, ?_⟩
    obtain ⟨xs, h, h1, h2, _, h4, _⟩ := Tr_iff.1 hT
    have hk := body_succ.1 h4
    have one : ∀ {p : Nat} {L : List (List Pr)} {g : List Nat}, Tr N 0 p L g → L.length = 1 := fun h => by
      obtain ⟨ys, h', _, k2, _, k4, _⟩ := Tr_iff.1 h
      rw [(body_zero.1 k4).1, if_neg k2]
      rfl
    match xs, hk with
    | [], hk => obtain ⟨e, _⟩ := hk; cases e
    | [x], hk =>
      obtain ⟨hT1, _⟩ := hk.of_one
      exact absurd (one hT1) (by simp)
    | x1 :: x2 :: x3 :: r, hk => exact absurd hk.len (by simp)
    | [x1, x2], hk =>
      obtain ⟨L1, g1, L2, g2, k1, k2, k3, k4, k5⟩ := hk
      obtain ⟨k6, k7⟩ := k3.of_one
      have e1 := one k1
      obtain ⟨y, rfl⟩ : ∃ y, L1 = [y] := List.length_eq_one_iff.1 e1
      injection k4 with _ k4
      exact ⟨x1, x2, h1, by rw [k4]; exact k7⟩

set_option maxRecDepth 100000 in
set_option maxHeartbeats 4000000 in
theorem awake08 (W0 : World) : Calls Try.prog 14 #[] W0 fun e w' => e = .returned (.bool true) ∧ Ext W0 w' := by
  have O := OwnT.start W0
  refine calls_F Try.func14 rfl 85 rfl (by rfl) ?_
  intro a1 k hargs
  clear hargs
  refine wp_seq ?_
  refine wp_region_lit ?_
  have hE := Env.refl a1 [0]
  apply sq_det 0 hE k rfl (by rfl) (by rfl) rfl
  case h =>
    exact x_assign rfl rfl
  intro a2 hE e0 kp
  refine wpList_nil ?_
  replace k := k.env hE
  clear hE e0
  refine then_n ?_
  refine wp_seq ?_
  refine wp_region_lit ?_
  have hE := Env.refl a2 [11, 12, 1]
  apply sq_det 11 hE k rfl (by rfl) (by rfl) rfl
  case h =>
    simp [go_sem, ↓IntWalk.iteOmega]
    with_reducible rfl
  intro a3 hE e11 kp
  refine sq_new O (cs := #[.slice none 0 0, .int .i64 100]) (t := 28) 12 hE k rfl (by rfl) (by rfl) rfl (by simp [go_sem, ↓IntWalk.iteOmega, ev e11]) ?_
  clear O
  intro sb a4 w5 O hE e12 kp
  apply sq_det 1 hE k rfl (by rfl) (by rfl) rfl
  case h =>
    exact x_assign rfl e12
  intro a6 hE e1 kp
  refine wpList_nil ?_
  replace k := k.env hE
  clear hE
  refine then_n ?_
  replace O := sh_nil O
  refine wp_seq ?_
  refine wp_region_lit ?_
  have hE := Env.refl a6 [2]
  apply sq_det 2 hE k rfl (by rfl) (by rfl) rfl
  case h =>
    exact x_assign rfl rfl
  intro a7 hE e2 kp
  refine wpList_nil ?_
  replace e1 := hE.eval 1 (by rfl) e1
  replace k := k.env hE
  clear hE
  refine then_n ?_
  refine wp_seq ?_
  refine wp_seq ?_
  refine wp_region_lit ?_
  have hE := Env.refl a7 [3]
  apply sq_det 3 hE k rfl (by rfl) (by rfl) rfl
  case h =>
    exact x_assign rfl rfl
  intro a8 hE e3 kp
  refine wpList_nil ?_
  replace e1 := hE.eval 1 (by rfl) e1
  replace e2 := hE.eval 2 (by rfl) e2
  replace k := k.env hE
  clear hE
  refine then_n ?_
  refine wp_block ?_
  refine wp_loop (fun a w => Fr 85 a ∧ a.eval (.tmp 1) = .pointer (some ⟨sb, 0, none⟩) ∧ ∃ (i rt : Nat) (L : List (List Pr)) (g : List Nat) (N : List Nd) (B : Option Addr) (cap : Nat) (vs : List Value), a.eval (.tmp 2) = .int .i64 ↑rt ∧ a.eval (.tmp 3) = .int .i64 ↑i ∧ i ≤ 16 ∧ N.length ≤ 5 * i ∧ (rt = 0 ↔ i = 0) ∧ L = parts (ps0 i) ∧ RT 1 N rt L g ∧ OwnT W0.heap.size W0 ((tBlk sb 28 #[.slice B N.length cap, .int .i64 100]) :: (tRow 125 2 (.slice B N.length cap) N.length (leafV vs N)) :: (tPool vs N) :: []) w) (fun a w => 16 - (intOf (a.eval (.tmp 3))).toNat) ?_ ?_
  · exact ⟨k, e1, 0, 0, [], [], [], none, 0, [], e2, e3, Nat.zero_le _, Nat.zero_le _, Iff.rfl, rfl, rt_zero 1 [], O⟩
  intro a9 w10 hI
  clear k e1
  obtain ⟨k, e1, h_⟩ := hI
  clear O e2 e3
  obtain ⟨i, rt, L, g, N, B, cap, vs, e2, e3, hi, hN, hr0, hL, hRT, O⟩ := h_
  have mi := e3
  by_cases hlt : i < 16
  · have hltI : (i : Int) < 16 := by omega
    have hL0 : L = if i = 0 then [] else [ps0 i] := by
      rw [hL]; split
      · rename_i h; rw [h]; rfl
      · exact parts_one (fun e => by have := congrArg List.length e; rw [ps0_len] at this; simp at this; omega) (by rw [ps0_len]; omega)
    refine wp_seq ?_
    refine wp_seq ?_
    refine wp_region_lit ?_
    have hE := Env.refl a9 [13, 14]
    apply sq_det 13 hE k rfl (by rfl) (by rfl) rfl
    case h =>
      exact x_move rfl (hE.eval 3 (by rfl) e3)
    intro a11 hE e13 kp
    apply sq_det 14 hE k rfl (by rfl) (by rfl) rfl
    case h =>
      exact x_dec (x_lss rfl e13 rfl) (decide_eq_true (by omega))
    intro a12 hE e14 kp
    refine wpList_nil ?_
    replace e1 := hE.eval 1 (by rfl) e1
    replace e2 := hE.eval 2 (by rfl) e2
    replace e3 := hE.eval 3 (by rfl) e3
    replace k := k.env hE
    clear hE
    refine then_n ?_
    refine cond_t e14 rfl ?_
    refine wp_skip ?_
    refine then_n ?_
    refine wp_seq ?_
    refine wp_block ?_
    refine wp_seq ?_
    refine wp_region_lit ?_
    have hE := Env.refl a12 [18, 19, 20, 21, 22, 23, 24, 25, 26, 17, 27, 28, 4, 5]
    apply sq_det 18 hE k rfl (by rfl) (by rfl) rfl
    case h =>
      exact x_move rfl (hE.eval 1 (by rfl) e1)
    intro a13 hE e18 kp
    apply sq_det 19 hE k rfl (by rfl) (by rfl) rfl
    case h =>
      simp [go_sem, ↓IntWalk.iteOmega, ev e18]
      with_reducible rfl
    intro a14 hE e19 kp
    apply sq_det 20 hE k rfl (by rfl) (by rfl) rfl
    case h =>
      exact x_move rfl (hE.eval 2 (by rfl) e2)
    intro a15 hE e20 kp
    replace e19 := (kp 19 rfl).trans e19
    apply sq_det 21 hE k rfl (by rfl) (by rfl) rfl
    case h =>
      exact x_move rfl (hE.eval 3 (by rfl) e3)
    intro a16 hE e21 kp
    replace e19 := (kp 19 rfl).trans e19
    replace e20 := (kp 20 rfl).trans e20
    apply sq_det 22 hE k rfl (by rfl) (by rfl) rfl
    case h =>
      exact x_val (v := .int .i64 ((3 * i : Nat) : Int)) (x_mul rfl rfl e21 (by omega)) (int_eq (by omega))
    intro a17 hE e22 kp
    replace e19 := (kp 19 rfl).trans e19
    replace e20 := (kp 20 rfl).trans e20
    apply sq_det 23 hE k rfl (by rfl) (by rfl) rfl
    case h =>
      exact x_conv rfl e22 (conv_u64 (3 * i) _ (by omega))
    intro a18 hE e23 kp
    replace e19 := (kp 19 rfl).trans e19
    replace e20 := (kp 20 rfl).trans e20
    apply sq_det 24 hE k rfl (by rfl) (by rfl) rfl
    case h =>
      exact x_move rfl (hE.eval 3 (by rfl) e3)
    intro a19 hE e24 kp
    replace e19 := (kp 19 rfl).trans e19
    replace e20 := (kp 20 rfl).trans e20
    replace e23 := (kp 23 rfl).trans e23
    apply sq_det 25 hE k rfl (by rfl) (by rfl) rfl
    case h =>
      exact x_conv rfl e24 (conv_u64 i _ (by omega))
    intro a20 hE e25 kp
    replace e19 := (kp 19 rfl).trans e19
    replace e20 := (kp 20 rfl).trans e20
    replace e23 := (kp 23 rfl).trans e23
    apply sq_call 26 hE k rfl (by rfl) (by rfl) rfl
    case h =>
      simp [go_sem, ↓IntWalk.iteOmega, ev e19, ev e20, ev e23, ev e25]
      with_reducible exact ⟨rfl, rfl⟩
    case hc => exact tPut (ky := 3 * i) (vl := i) _ O hRT (by omega) (by omega) (by omega) (by omega)
    clear O
    rintro e w22 ⟨N2, r2, er, B2, cap2, vs2, rfl, O, hP⟩
    refine ⟨_, rfl, ?_⟩
    intro a21 hE e26 kp
    apply sq_det 17 hE k rfl (by rfl) (by rfl) rfl
    case h =>
      exact x_move rfl e26
    intro a23 hE e17 kp
    apply sq_det 27 hE k rfl (by rfl) (by rfl) rfl
    case h =>
      simp [go_sem, ↓IntWalk.iteOmega, ev e17]
      with_reducible rfl
    intro a24 hE e27 kp
    replace e17 := (kp 17 rfl).trans e17
    apply sq_det 28 hE k rfl (by rfl) (by rfl) rfl
    case h =>
      simp [go_sem, ↓IntWalk.iteOmega, ev e17]
      with_reducible rfl
    intro a25 hE e28 kp
    replace e27 := (kp 27 rfl).trans e27
    apply sq_det 4 hE k rfl (by rfl) (by rfl) rfl
    case h =>
      exact x_assign rfl e27
    intro a26 hE e4 kp
    replace e28 := (kp 28 rfl).trans e28
    apply sq_det 5 hE k rfl (by rfl) (by rfl) rfl
    case h =>
      exact x_assign rfl e28
    intro a27 hE e5 kp
    replace e4 := (kp 4 rfl).trans e4
    refine wpList_nil ?_
    replace e1 := hE.eval 1 (by rfl) e1
    replace e3 := hE.eval 3 (by rfl) e3
    replace k := k.env hE
    clear hE e2 e14
    refine then_n ?_
    obtain ⟨⟨M, rfl, hM⟩, hP⟩ := hP
    obtain ⟨rfl, r, L', g', m', rfl, hr1, hr2, hRT2, hfl, hgr, hm1, hm2⟩ := hP.resolve_left (fun h => h.2.2 (by omega))
    rw [hL0] at hgr
    have hL' := grow_ps0 hlt hgr hr0
    have hm : m' = 1 := by
      rcases hm2 with h | h | h
      · exact h
      · omega
      · have := (parts_len (ps0 (i + 1))); rw [hL'] at h; omega
    subst hm
    
    refine wp_seq ?_
    refine wp_seq ?_
    refine wp_region_lit ?_
    have hE := Env.refl a27 [29, 30]
    apply sq_det 29 hE k rfl (by rfl) (by rfl) rfl
    case h =>
      exact x_move rfl (hE.eval 5 (by rfl) e5)
    intro a28 hE e29 kp
    apply sq_det 30 hE k rfl (by rfl) (by rfl) rfl
    case h =>
      exact x_neq rfl e29 rfl
    intro a29 hE e30 kp
    refine wpList_nil ?_
    replace e1 := hE.eval 1 (by rfl) e1
    replace e3 := hE.eval 3 (by rfl) e3
    replace e4 := hE.eval 4 (by rfl) e4
    replace k := k.env hE
    clear hE e5
    refine then_n ?_
    refine cond_f e30 rfl ?_
    refine wp_skip ?_
    refine then_n ?_
    refine wp_region_lit ?_
    have hE := Env.refl a29 [31, 2]
    apply sq_det 31 hE k rfl (by rfl) (by rfl) rfl
    case h =>
      exact x_move rfl (hE.eval 4 (by rfl) e4)
    intro a30 hE e31 kp
    apply sq_det 2 hE k rfl (by rfl) (by rfl) rfl
    case h =>
      exact x_assign rfl e31
    intro a31 hE e2 kp
    refine wpList_nil ?_
    replace e1 := hE.eval 1 (by rfl) e1
    replace e3 := hE.eval 3 (by rfl) e3
    replace k := k.env hE
    clear hE e4 e30
    refine block_n ?_
    refine then_n ?_
    refine wp_region_lit ?_
    have hE := Env.refl a31 [15, 16, 3]
    apply sq_det 15 hE k rfl (by rfl) (by rfl) rfl
    case h =>
      exact x_move rfl e3
    intro a32 hE e15 kp
    replace e3 := (kp 3 rfl).trans e3
    apply sq_det 16 hE k rfl (by rfl) (by rfl) rfl
    case h =>
      exact x_add rfl e15 rfl (by omega)
    intro a33 hE e16 kp
    replace e3 := (kp 3 rfl).trans e3
    apply sq_det 3 hE k rfl (by rfl) (by rfl) rfl
    case h =>
      exact x_assign rfl e16
    intro a34 hE e3 kp
    refine wpList_nil ?_
    replace e1 := hE.eval 1 (by rfl) e1
    replace e2 := hE.eval 2 (by rfl) e2
    replace k := k.env hE
    clear hE
    refine then_n ?_
    refine ⟨⟨k, e1, i + 1, r, L', g', N ++ M, B2, cap2, vs2, e2, e3, by omega, by rw [List.length_append]; omega, by omega, hL', hRT2, O⟩, ?_⟩
    rw [e3, mi]; simp only [intOf]; omega
  · skip
    obtain rfl : i = 16 := by omega
    clear mi
    have hfl : L.flatten = ps0 16 := by rw [hL]; exact parts_flat _
    have hTre : Tre N rt 1000 (ps0 16) := ⟨1, L, g, hRT, Nat.le_refl _, hfl, by rw [hL]; decide⟩
    have hL2 : L = [(ps0 16).take 8, (ps0 16).drop 8] := by rw [hL]; exact parts_two rfl
    obtain ⟨l, hl1, hT⟩ : ∃ l, l ≤ 1 ∧ Tr N l rt L g := by
      rcases hRT.rt with ⟨h, _⟩ | ⟨l, h1, h2, _⟩
      · exact absurd (hr0.1 h) (by decide)
      · exact ⟨l, h1, h2⟩
    rw [hL2] at hT
    obtain ⟨rfl, x1, x2, hnd, hx2⟩ := root_two hT hl1
    have hx24 : x2.1 = 24 := by
      have h : hdk [(ps0 16).drop 8] = some 24 := by decide
      rw [h] at hx2
      injection hx2 with hx2
      exact hx2.symm
    clear hT hL hL2 hRT hfl hr0
    
    refine wp_seq ?_
    refine wp_seq ?_
    refine wp_region_lit ?_
    have hE := Env.refl a9 [13, 14]
    apply sq_det 13 hE k rfl (by rfl) (by rfl) rfl
    case h =>
      exact x_move rfl (hE.eval 3 (by rfl) e3)
    intro a35 hE e13 kp
    apply sq_det 14 hE k rfl (by rfl) (by rfl) rfl
    case h =>
      exact x_dec (x_lss rfl e13 rfl) (decide_eq_false (by omega))
    intro a36 hE e14 kp
    refine wpList_nil ?_
    replace e1 := hE.eval 1 (by rfl) e1
    replace e2 := hE.eval 2 (by rfl) e2
    replace e3 := hE.eval 3 (by rfl) e3
    replace k := k.env hE
    clear hE
    refine then_n ?_
    refine cond_f e14 rfl ?_
    refine wp_exit ?_
    refine then_x ?_
    refine then_x ?_
    refine block_x ?_
    refine then_n ?_
    refine wp_seq ?_
    refine wp_region_lit ?_
    have hE := Env.refl a36 [33, 34, 35, 36, 32, 37, 38, 39, 6, 7, 8]
    apply sq_det 33 hE k rfl (by rfl) (by rfl) rfl
    case h =>
      exact x_move rfl (hE.eval 1 (by rfl) e1)
    intro a37 hE e33 kp
    apply sq_det 34 hE k rfl (by rfl) (by rfl) rfl
    case h =>
      simp [go_sem, ↓IntWalk.iteOmega, ev e33]
      with_reducible rfl
    intro a38 hE e34 kp
    apply sq_det 35 hE k rfl (by rfl) (by rfl) rfl
    case h =>
      exact x_move rfl (hE.eval 2 (by rfl) e2)
    intro a39 hE e35 kp
    replace e34 := (kp 34 rfl).trans e34
    apply sq_call 36 hE k rfl (by rfl) (by rfl) rfl
    case h =>
      simp [go_sem, ↓IntWalk.iteOmega, ev e34, ev e35]
      with_reducible exact ⟨rfl, rfl⟩
    case hc => exact lGet (ky := 21) _ O hTre (by omega)
    clear O
    rintro e w41 ⟨rfl, O⟩
    refine ⟨.tuple #[.int .u64 7, .bool true, .int .i64 0], congrArg (fun o : Option Nat => Ending.returned (.tuple #[.int .u64 (o.getD 0 : Nat), .bool o.isSome, .int .i64 0])) (show lookP 21 (ps0 16) = some 7 by decide), ?_⟩
    intro a40 hE e36 kp
    apply sq_det 32 hE k rfl (by rfl) (by rfl) rfl
    case h =>
      exact x_move rfl e36
    intro a42 hE e32 kp
    apply sq_det 37 hE k rfl (by rfl) (by rfl) rfl
    case h =>
      simp [go_sem, ↓IntWalk.iteOmega, ev e32]
      with_reducible rfl
    intro a43 hE e37 kp
    replace e32 := (kp 32 rfl).trans e32
    apply sq_det 38 hE k rfl (by rfl) (by rfl) rfl
    case h =>
      simp [go_sem, ↓IntWalk.iteOmega, ev e32]
      with_reducible rfl
    intro a44 hE e38 kp
    replace e32 := (kp 32 rfl).trans e32
    replace e37 := (kp 37 rfl).trans e37
    apply sq_det 39 hE k rfl (by rfl) (by rfl) rfl
    case h =>
      simp [go_sem, ↓IntWalk.iteOmega, ev e32]
      with_reducible rfl
    intro a45 hE e39 kp
    replace e37 := (kp 37 rfl).trans e37
    replace e38 := (kp 38 rfl).trans e38
    apply sq_det 6 hE k rfl (by rfl) (by rfl) rfl
    case h =>
      exact x_assign rfl e37
    intro a46 hE e6 kp
    replace e38 := (kp 38 rfl).trans e38
    replace e39 := (kp 39 rfl).trans e39
    apply sq_det 7 hE k rfl (by rfl) (by rfl) rfl
    case h =>
      exact x_assign rfl e38
    intro a47 hE e7 kp
    replace e39 := (kp 39 rfl).trans e39
    replace e6 := (kp 6 rfl).trans e6
    apply sq_det 8 hE k rfl (by rfl) (by rfl) rfl
    case h =>
      exact x_assign rfl e39
    intro a48 hE e8 kp
    replace e6 := (kp 6 rfl).trans e6
    replace e7 := (kp 7 rfl).trans e7
    refine wpList_nil ?_
    replace e1 := hE.eval 1 (by rfl) e1
    replace e2 := hE.eval 2 (by rfl) e2
    replace k := k.env hE
    clear hE e3 e14
    refine then_n ?_
    refine wp_seq ?_
    refine wp_region_lit ?_
    have hE := Env.refl a48 [41, 42, 43, 40, 44, 45, 9, 10]
    apply sq_det 41 hE k rfl (by rfl) (by rfl) rfl
    case h =>
      exact x_move rfl (hE.eval 1 (by rfl) e1)
    intro a49 hE e41 kp
    apply sq_det 42 hE k rfl (by rfl) (by rfl) rfl
    case h =>
      exact x_move rfl (hE.eval 2 (by rfl) e2)
    intro a50 hE e42 kp
    replace e41 := (kp 41 rfl).trans e41
    apply sq_call 43 hE k rfl (by rfl) (by rfl) rfl
    case h =>
      simp [go_sem, ↓IntWalk.iteOmega, ev e41, ev e42]
      with_reducible exact ⟨rfl, rfl⟩
    case hc => exact sread_ok rt 1 [x1, x2] _ O (by omega) hnd (by simp)
    clear O
    rintro e w52 ⟨v, rfl, O, -⟩
    obtain ⟨Bv, cv, rfl, -, -, hrow, -⟩ := ps_row (OwnT.t0 O)
    replace O : OwnT _ _ ((tPs (.slice Bv 2 cv) [x1, x2]) :: (tBlk sb 28 #[.slice B N.length cap, .int .i64 100]) :: (tRow 125 2 (.slice B N.length cap) N.length (leafV vs N)) :: (tPool vs N) :: []) w52 := O
    refine ⟨_, rfl, ?_⟩
    intro a51 hE e43 kp
    apply sq_det 40 hE k rfl (by rfl) (by rfl) rfl
    case h =>
      exact x_move rfl e43
    intro a53 hE e40 kp
    apply sq_det 44 hE k rfl (by rfl) (by rfl) rfl
    case h =>
      simp [go_sem, ↓IntWalk.iteOmega, ev e40]
      with_reducible rfl
    intro a54 hE e44 kp
    replace e40 := (kp 40 rfl).trans e40
    apply sq_det 45 hE k rfl (by rfl) (by rfl) rfl
    case h =>
      simp [go_sem, ↓IntWalk.iteOmega, ev e40]
      with_reducible rfl
    intro a55 hE e45 kp
    replace e44 := (kp 44 rfl).trans e44
    refine sq_new O (cs := #[.int .i64 0, .slice none 0 0]) (t := 125) 9 hE k rfl (by rfl) (by rfl) rfl (by simp [go_sem, ↓IntWalk.iteOmega]) ?_
    clear O
    intro nb a56 w57 O hE e9 kp
    replace e44 := (kp 44 rfl).trans e44
    replace e45 := (kp 45 rfl).trans e45
    have q0 : w57.cell? ⟨nb, 0, none⟩ = some (.int .i64 0) := (OwnT.blk O 0 rfl).cell 0
    have z0 : w57.frozen? ⟨nb, 0, none⟩ = false := (OwnT.blk O 0 rfl).frozen 0
    have q1 : w57.cell? ⟨nb, 1, none⟩ = some (.slice none 0 0) := (OwnT.blk O 0 rfl).cell 1
    have z1 : w57.frozen? ⟨nb, 1, none⟩ = false := (OwnT.blk O 0 rfl).frozen 1
    refine sq_unit (w' := ((w57.setCell ⟨nb, 0, none⟩ (.int .i64 1)).setCell ⟨nb, 1, none⟩ (.slice Bv 2 cv))) hE rfl rfl (by simp [go_sem, ↓IntWalk.iteOmega, ev e9, ev e44, q0, z0, q1, z1]) ?_
    replace O := OwnT.push 0 rfl (((OwnT.pull O 0 rfl).set 0 (.int .i64 1)).set 1 (.slice Bv 2 cv))
    clear q0 z0 q1 z1
    generalize ((w57.setCell ⟨nb, 0, none⟩ (.int .i64 1)).setCell ⟨nb, 1, none⟩ (.slice Bv 2 cv)) = w58 at O ⊢
    replace O : OwnT _ _ ((tBlk nb 125 #[.int .i64 1, .slice Bv 2 cv]) :: (tPs (.slice Bv 2 cv) [x1, x2]) :: (tBlk sb 28 #[.slice B N.length cap, .int .i64 100]) :: (tRow 125 2 (.slice B N.length cap) N.length (leafV vs N)) :: (tPool vs N) :: []) w58 := O
    apply sq_det 10 hE k rfl (by rfl) (by rfl) rfl
    case h =>
      exact x_assign rfl e45
    intro a59 hE e10 kp
    replace e9 := (kp 9 rfl).trans e9
    refine wpList_nil ?_
    replace e1 := hE.eval 1 (by rfl) e1
    replace e2 := hE.eval 2 (by rfl) e2
    replace e6 := hE.eval 6 (by rfl) e6
    replace e7 := hE.eval 7 (by rfl) e7
    replace e8 := hE.eval 8 (by rfl) e8
    replace k := k.env hE
    clear hE
    refine then_n ?_
    obtain ⟨gv, ev⟩ : ∃ gv, Bv = some ⟨gv, 0, none⟩ := by
      obtain ⟨g2, c2, _, e2, _⟩ := row_some (OwnT.get O 1 rfl : World.ownsRow _ 0 38 2 _ [x1, x2].length _) (by simp)
      injection e2 with e2; exact ⟨g2, e2⟩
    subst ev
    have hcc : ∀ W, OwnT W0.heap.size W0 ((tBlk nb 125 #[.int .i64 1, .slice (some ⟨gv, 0, none⟩) 2 cv]) :: (tPs (.slice (some ⟨gv, 0, none⟩) 2 cv) [x1, x2]) :: (tBlk sb 28 #[.slice B N.length cap, .int .i64 100]) :: (tRow 125 2 (.slice B N.length cap) N.length (leafV vs N)) :: (tPool vs N) :: []) W → W.cell? ⟨gv, 2, none⟩ = some (.int .u64 24) := fun W hW => by
      obtain ⟨_, g2, e, h, _⟩ := ps_cells (i := 1) (x := x2) (hW.get 1 rfl) rfl; injection e with e; injection e with e; subst e; rw [hx24] at h; exact h
    have hcc2 := hcc _ O
    replace O : OwnT _ _ ((tBlk sb 28 #[.slice B N.length cap, .int .i64 100]) :: (tRow 125 2 (.slice B N.length cap) N.length (leafV vs N)) :: (tPool vs N) :: (tPs (.slice (some ⟨gv, 0, none⟩) 2 cv) [x1, x2]) :: (tBlk nb 125 #[.int .i64 1, .slice (some ⟨gv, 0, none⟩) 2 cv]) :: []) w58 := OwnT.pickR (L := [_, _, _, _, _]) (R := []) O [2, 3, 4, 1, 0] (by decide)
    refine wp_seq ?_
    refine wp_region_lit ?_
    have hE := Env.refl a59 [46, 47, 48, 49, 50, 51, 52, 53, 54, 55, 56, 57, 58, 59, 60, 61, 62, 63, 64, 65, 66, 67, 68, 69, 70, 71, 72, 73, 74, 75, 76, 77, 78, 79, 80, 81, 82, 83, 84, 0]
    apply sq_det 46 hE k rfl (by rfl) (by rfl) rfl
    case h =>
      exact x_move rfl (hE.eval 7 (by rfl) e7)
    intro a60 hE e46 kp
    apply sq_det 47 hE k rfl (by rfl) (by rfl) rfl
    case h =>
      exact x_move rfl e46
    intro a61 hE e47 kp
    apply sq_detg 48 hE k rfl (by rfl) (by rfl) rfl rfl e47
    case h =>
      exact x_move rfl (hE.eval 6 (by rfl) e6)
    intro a62 hE e48 kp
    replace e47 := (kp 47 rfl).trans e47
    apply sq_detg 49 hE k rfl (by rfl) (by rfl) rfl rfl e47
    case h =>
      exact x_eql rfl e48 rfl
    intro a63 hE e49 kp
    replace e47 := (kp 47 rfl).trans e47
    apply sq_det 50 hE k rfl (by rfl) (by rfl) rfl
    case h =>
      exact x_pick_t rfl e47 e49
    intro a64 hE e50 kp
    apply sq_det 51 hE k rfl (by rfl) (by rfl) rfl
    case h =>
      exact x_move rfl e50
    intro a65 hE e51 kp
    apply sq_detg 52 hE k rfl (by rfl) (by rfl) rfl rfl e51
    case h =>
      exact x_move rfl (hE.eval 8 (by rfl) e8)
    intro a66 hE e52 kp
    replace e51 := (kp 51 rfl).trans e51
    apply sq_detg 53 hE k rfl (by rfl) (by rfl) rfl rfl e51
    case h =>
      exact x_eql rfl e52 rfl
    intro a67 hE e53 kp
    replace e51 := (kp 51 rfl).trans e51
    apply sq_det 54 hE k rfl (by rfl) (by rfl) rfl
    case h =>
      exact x_pick_t rfl e51 e53
    intro a68 hE e54 kp
    apply sq_det 55 hE k rfl (by rfl) (by rfl) rfl
    case h =>
      exact x_move rfl e54
    intro a69 hE e55 kp
    apply sq_detg 56 hE k rfl (by rfl) (by rfl) rfl rfl e55
    case h =>
      exact x_move rfl (hE.eval 10 (by rfl) e10)
    intro a70 hE e56 kp
    replace e55 := (kp 55 rfl).trans e55
    apply sq_detg 57 hE k rfl (by rfl) (by rfl) rfl rfl e55
    case h =>
      exact x_eql rfl e56 rfl
    intro a71 hE e57 kp
    replace e55 := (kp 55 rfl).trans e55
    apply sq_det 58 hE k rfl (by rfl) (by rfl) rfl
    case h =>
      exact x_pick_t rfl e55 e57
    intro a72 hE e58 kp
    apply sq_det 59 hE k rfl (by rfl) (by rfl) rfl
    case h =>
      exact x_move rfl e58
    intro a73 hE e59 kp
    apply sq_detg 60 hE k rfl (by rfl) (by rfl) rfl rfl e59
    case h =>
      simp [go_sem, ↓IntWalk.iteOmega, ev (hE.eval 9 (by rfl) e9)]
      with_reducible rfl
    intro a74 hE e60 kp
    replace e59 := (kp 59 rfl).trans e59
    apply sq_detg 61 hE k rfl (by rfl) (by rfl) rfl rfl e59
    case h =>
      have q0 : w58.cell? ⟨nb, 0, none⟩ = some (.int .i64 1) := (OwnT.blk O 4 rfl).cell 0
      simp [go_sem, ↓IntWalk.iteOmega, ev e60, q0]
      with_reducible rfl
    intro a75 hE e61 kp
    replace e59 := (kp 59 rfl).trans e59
    apply sq_detg 62 hE k rfl (by rfl) (by rfl) rfl rfl e59
    case h =>
      exact x_eql rfl e61 rfl
    intro a76 hE e62 kp
    replace e59 := (kp 59 rfl).trans e59
    apply sq_det 63 hE k rfl (by rfl) (by rfl) rfl
    case h =>
      exact x_pick_t rfl e59 e62
    intro a77 hE e63 kp
    apply sq_det 64 hE k rfl (by rfl) (by rfl) rfl
    case h =>
      exact x_move rfl e63
    intro a78 hE e64 kp
    apply sq_detg 65 hE k rfl (by rfl) (by rfl) rfl rfl e64
    case h =>
      simp [go_sem, ↓IntWalk.iteOmega, ev (hE.eval 9 (by rfl) e9)]
      with_reducible rfl
    intro a79 hE e65 kp
    replace e64 := (kp 64 rfl).trans e64
    apply sq_detg 66 hE k rfl (by rfl) (by rfl) rfl rfl e64
    case h =>
      have q0 : w58.cell? ⟨nb, 1, none⟩ = some (.slice (some ⟨gv, 0, none⟩) 2 cv) := (OwnT.blk O 4 rfl).cell 1
      simp [go_sem, ↓IntWalk.iteOmega, ev e65, q0]
      with_reducible rfl
    intro a80 hE e66 kp
    replace e64 := (kp 64 rfl).trans e64
    apply sq_detg 67 hE k rfl (by rfl) (by rfl) rfl rfl e64
    case h =>
      exact x_len Try.underlying29 rfl e66
    intro a81 hE e67 kp
    replace e64 := (kp 64 rfl).trans e64
    apply sq_detg 68 hE k rfl (by rfl) (by rfl) rfl rfl e64
    case h =>
      exact x_eql rfl e67 rfl
    intro a82 hE e68 kp
    replace e64 := (kp 64 rfl).trans e64
    apply sq_det 69 hE k rfl (by rfl) (by rfl) rfl
    case h =>
      exact x_pick_t rfl e64 e68
    intro a83 hE e69 kp
    apply sq_det 70 hE k rfl (by rfl) (by rfl) rfl
    case h =>
      exact x_move rfl e69
    intro a84 hE e70 kp
    apply sq_detg 71 hE k rfl (by rfl) (by rfl) rfl rfl e70
    case h =>
      simp [go_sem, ↓IntWalk.iteOmega, ev (hE.eval 9 (by rfl) e9)]
      with_reducible rfl
    intro a85 hE e71 kp
    replace e70 := (kp 70 rfl).trans e70
    apply sq_detg 72 hE k rfl (by rfl) (by rfl) rfl rfl e70
    case h =>
      have q0 : w58.cell? ⟨nb, 1, none⟩ = some (.slice (some ⟨gv, 0, none⟩) 2 cv) := (OwnT.blk O 4 rfl).cell 1
      simp [go_sem, ↓IntWalk.iteOmega, ev e71, q0]
      with_reducible rfl
    intro a86 hE e72 kp
    replace e70 := (kp 70 rfl).trans e70
    apply sq_detg 73 hE k rfl (by rfl) (by rfl) rfl rfl e70
    case h =>
      simp [go_sem, ↓IntWalk.iteOmega, ev e72]
      with_reducible rfl
    intro a87 hE e73 kp
    replace e70 := (kp 70 rfl).trans e70
    apply sq_detg 74 hE k rfl (by rfl) (by rfl) rfl rfl e70
    case h =>
      simp [go_sem, ↓IntWalk.iteOmega, ev e73]
      with_reducible rfl
    intro a88 hE e74 kp
    replace e70 := (kp 70 rfl).trans e70
    apply sq_detg 75 hE k rfl (by rfl) (by rfl) rfl rfl e70
    case h =>
      simp [go_sem, ↓IntWalk.iteOmega, ev e74, hcc2]
      with_reducible rfl
    intro a89 hE e75 kp
    replace e70 := (kp 70 rfl).trans e70
    apply sq_detg 76 hE k rfl (by rfl) (by rfl) rfl rfl e70
    case h =>
      exact x_eql rfl e75 rfl
    intro a90 hE e76 kp
    replace e70 := (kp 70 rfl).trans e70
    apply sq_det 77 hE k rfl (by rfl) (by rfl) rfl
    case h =>
      exact x_pick_t rfl e70 e76
    intro a91 hE e77 kp
    apply sq_det 78 hE k rfl (by rfl) (by rfl) rfl
    case h =>
      exact x_move rfl e77
    intro a92 hE e78 kp
    apply sq_detg 79 hE k rfl (by rfl) (by rfl) rfl rfl e78
    case h =>
      exact x_move rfl (hE.eval 1 (by rfl) e1)
    intro a93 hE e79 kp
    replace e78 := (kp 78 rfl).trans e78
    apply sq_detg 80 hE k rfl (by rfl) (by rfl) rfl rfl e78
    case h =>
      simp [go_sem, ↓IntWalk.iteOmega, ev e79]
      with_reducible rfl
    intro a94 hE e80 kp
    replace e78 := (kp 78 rfl).trans e78
    apply sq_detg 81 hE k rfl (by rfl) (by rfl) rfl rfl e78
    case h =>
      exact x_move rfl (hE.eval 2 (by rfl) e2)
    intro a95 hE e81 kp
    replace e78 := (kp 78 rfl).trans e78
    replace e80 := (kp 80 rfl).trans e80
    apply sq_callg 82 hE k rfl (by rfl) (by rfl) rfl rfl e78
    case h =>
      simp [go_sem, ↓IntWalk.iteOmega, ev e80, ev e81]
      with_reducible exact ⟨rfl, rfl⟩
    case hc => exact lCheck (R := _ :: _ :: []) _ O hTre (by omega) (by omega)
    clear O
    rintro e w97 ⟨rfl, O⟩
    refine ⟨_, rfl, ?_⟩
    intro a96 hE e82 kp
    replace e78 := (kp 78 rfl).trans e78
    apply sq_detg 83 hE k rfl (by rfl) (by rfl) rfl rfl e78
    case h =>
      exact x_eql rfl e82 rfl
    intro a98 hE e83 kp
    replace e78 := (kp 78 rfl).trans e78
    apply sq_det 84 hE k rfl (by rfl) (by rfl) rfl
    case h =>
      exact x_pick_t rfl e78 e83
    intro a99 hE e84 kp
    apply sq_det 0 hE k rfl (by rfl) (by rfl) rfl
    case h =>
      exact x_assign rfl e84
    intro a100 hE e0 kp
    refine wpList_nil ?_
    replace k := k.env hE
    clear hE e1 e2 e6 e7 e8 e9 e10
    refine then_n ?_
    refine wp_ret ?_
    refine ret_F1 rfl k e0 ?_
    exact ⟨rfl, O.below⟩
end Go.Proofs.Ytngehbhhpkkijaa

/- Numbers turned: int to uint and back, the rest of a uint. -/
namespace Go.Proofs.Ytngehbhhpkkijaa
set_option linter.unusedVariables false
set_option linter.unusedSimpArgs false
open Go.RowKit Go.Maps
/-- 'uint(N)'. -/
def uN (N : Int) : Nat := (IntKind.u64.wrap N).toNat
theorem conv_uint (N : Int) (w : World) : (convert 3 25 (.int .i64 N)).run Try.prog w = .ok (.int .u64 ((uN N : Nat) : Int)) w := by
  have h : ((uN N : Nat) : Int) = IntKind.u64.wrap N := by
    unfold uN
    have : 0 ≤ IntKind.u64.wrap N := by
      show 0 ≤ N % 18446744073709551616
      omega
    omega
  rw [h]
  simp [convert, run_underlying Try.underlying3, run_underlying Try.underlying25, Conv.intToInt]
theorem conv_int (m : Nat) (w : World) (h : m ≤ 1000000) : (convert 25 3 (.int .u64 ((m : Nat) : Int))).run Try.prog w = .ok (.int .i64 ((m : Nat) : Int)) w := by
  simp [convert, run_underlying Try.underlying3, run_underlying Try.underlying25, Conv.intToInt, IntWalk.i64_in _ (show -9223372036854775808 ≤ (m : Int) ∧ (m : Int) ≤ 9223372036854775807 by omega)]
section
variable {w : World} {o : Oper} {ρ : Operand → Value} {t u : TypeId} {x y : Operand}
theorem x_remU {m j : Nat} {k : Int} (ho : o.op = .binOp .rem t x y u) (hx : ρ x = .int .u64 (m : Nat)) (hy : ρ y = .int .u64 k) (hk : k = (j : Nat)) (hj : 0 < j) : (execOp ρ o).run Try.prog w = .ok (.value (.int .u64 ((m % j : Nat) : Int))) w := by
  subst hk
  refine x_bin ho hx hy ?_
  have h0 : ¬ ((j : Int) = 0) := by omega
  have h2 : (m : Int).tmod (j : Int) = ((m % j : Nat) : Int) := rfl
  simp only [binOp, Op.intDiv, if_neg h0, h2]
  rfl
end
/-- A number of a row of arguments. -/
theorem row1I {w w' : World} {A : Option Addr} {xs : List Int} (h : Row1 w A (Value.int .i64) xs) (hb : Below w.heap.size w w') {i : Nat} {x : Int} (hi : xs[i]? = some x) : ∃ b off, A = some ⟨b, off, none⟩ ∧ w'.cell? ⟨b, off + i, none⟩ = some (.int .i64 x) := by
  obtain ⟨b, o, e, _, hc⟩ := (h.below hb) i x hi
  exact ⟨b, o, e, hc⟩
theorem row1B {w w' : World} {A : Option Addr} {xs : List Bool} (h : Row1 w A Value.bool xs) (hb : Below w.heap.size w w') {i : Nat} {x : Bool} (hi : xs[i]? = some x) : ∃ b off, A = some ⟨b, off, none⟩ ∧ w'.cell? ⟨b, off + i, none⟩ = some (.bool x) := by
  obtain ⟨b, o, e, _, hc⟩ := (h.below hb) i x hi
  exact ⟨b, o, e, hc⟩
end Go.Proofs.Ytngehbhhpkkijaa
