/- trees: Drop (printed by XTrDr.gen.py). -/
import Derived.Test.YtngehbhhpkkijaaKTreeShares26
namespace Go.Proofs.Ytngehbhhpkkijaa
attribute [local simp] BigFrame.eval_const BigFrame.eval_global BigFrame.eval_func
set_option linter.unusedVariables false
set_option linter.unusedSimpArgs false
open Go.RowKit Go.Maps

/-- What 'Drop' brings. -/
def DropT (m : Nat) (N N' : List Nd) (room : Int) (root k : Nat) (L : List (List Pr)) (root' : Int) (ok : Bool) (er : Int) : Prop :=
  (er = 0 ∧ ok = false ∧ root' = root ∧ N' = N ∧ lookP k L.flatten = none) ∨
  (er = 6 ∧ ok = false ∧ root' = 0 ∧ (lookP k L.flatten).isSome = true ∧ (∃ M, N' = N ++ M ∧ M.length ≤ m + 1) ∧ ¬ (N.length + (m + 1) ≤ 511 ∧ ((N.length + (m + 1) : Nat) : Int) ≤ room)) ∨
  (er = 0 ∧ ok = true ∧ (lookP k L.flatten).isSome = true ∧ (∃ M, N' = N ++ M ∧ M.length ≤ m + 1) ∧ ∃ (r : Nat) (L' : List (List Pr)) (g' : List Nat), root' = r ∧ RT m N' r L' g' ∧ L'.flatten = delP k L.flatten ∧ phi L' ≤ phi L)
def lvC : Option Value → Nat
  | some (.int _ i) => i.toNat
  | _ => 0
/-- Down to the only child. -/
theorem only_kid {N : List Nd} {l : Nat} {x : Pr} {L : List (List Pr)} {h : List Nat} (hb : Body (Tb N (l + 1)) (l + 1) [x] L h) (hn : h.Nodup) :
    Tr N l x.2 L h ∧ ∃ xs h2, ndAt N x.2 = some (l, xs) ∧ xs ≠ [] ∧ Body (Tb N l) l xs L h2 ∧ h = x.2 :: h2 ∧ h2.Nodup ∧ x.2 ∉ h2 := by
  have hT := (Kids.of_one (body_succ.1 hb)).1
  refine ⟨hT, ?_⟩
  obtain ⟨xs, h2, e1, e2, e3, e4, rfl⟩ := Tr_iff.1 hT
  obtain ⟨n1, n2⟩ := List.nodup_cons.1 hn
  exact ⟨xs, h2, e1, e2, e4, rfl, n2, n1⟩

set_option maxRecDepth 100000 in
set_option maxHeartbeats 4000000 in
theorem tDrop_zero {H : Nat} {A0 : World} {R : List Thing} {sb cap : Nat} {room : Int} {B : Option Addr} {vs : List Value} {N : List Nd} {root ky m : Nat} {L : List (List Pr)} {g : List Nat} (w : World) (O : OwnT H A0 (shT sb room B cap vs N R) w) (hRT : RT m N root L g) (h7 : m ≤ 7) (hN : N.length ≤ 500) (hr : root = 0) : Calls Try.prog 17 #[.iface 24 (.pointer (some ⟨sb, 0, none⟩)), .int .i64 root, .int .u64 ky] w fun e w' => ∃ N' root' ok er B' cap' vs', e = .returned (.tuple #[.int .i64 root', .bool ok, .int .i64 er]) ∧ OwnT H A0 (shT sb room B' cap' vs' N' R) w' ∧ DropT m N N' room root ky L root' ok er := by
  refine calls_F Try.func17 rfl 77 rfl (by rfl) ?_
  intro a1 k hargs
  have e0 : a1.eval (.tmp 0) = .iface 24 (.pointer (some ⟨sb, 0, none⟩)) := hargs 0 _ rfl
  have e1 : a1.eval (.tmp 1) = .int .i64 ↑root := hargs 1 _ rfl
  have e2 : a1.eval (.tmp 2) = .int .u64 ↑ky := hargs 2 _ rfl
  clear hargs
  refine wp_seq ?_
  refine wp_region_lit ?_
  have hE := Env.refl a1 [6, 7, 8]
  apply sq_det 6 hE k rfl (by rfl) (by rfl) rfl
  case h =>
    exact x_assign rfl rfl
  intro a2 hE e6 kp
  apply sq_det 7 hE k rfl (by rfl) (by rfl) rfl
  case h =>
    exact x_assign rfl rfl
  intro a3 hE e7 kp
  apply sq_det 8 hE k rfl (by rfl) (by rfl) rfl
  case h =>
    exact x_assign rfl rfl
  intro a4 hE e8 kp
  refine wpList_nil ?_
  replace e0 := hE.eval 0 (by rfl) e0
  replace e1 := hE.eval 1 (by rfl) e1
  replace e2 := hE.eval 2 (by rfl) e2
  replace k := k.env hE
  clear hE e8
  refine then_n ?_
  have hLg : L = [] := by
    rcases hRT.rt with ⟨_, h1, h2⟩ | ⟨l, _, hT, _⟩
    · exact h1
    · obtain ⟨r, e⟩ := Tr.one hT; have := Tr.pages hT root (by rw [e]; simp); omega
  refine wp_seq ?_
  refine wp_seq ?_
  refine wp_region_lit ?_
  have hE := Env.refl a4 [13, 14]
  apply sq_det 13 hE k rfl (by rfl) (by rfl) rfl
  case h =>
    exact x_move rfl (hE.eval 1 (by rfl) e1)
  intro a5 hE e13 kp
  apply sq_det 14 hE k rfl (by rfl) (by rfl) rfl
  case h =>
    exact x_dec (x_eql rfl e13 rfl) (decide_eq_true (by omega))
  intro a6 hE e14 kp
  refine wpList_nil ?_
  replace e0 := hE.eval 0 (by rfl) e0
  replace e1 := hE.eval 1 (by rfl) e1
  replace e2 := hE.eval 2 (by rfl) e2
  replace k := k.env hE
  clear hE
  refine then_n ?_
  refine cond_t e14 rfl ?_
  refine wp_seq ?_
  refine wp_region_lit ?_
  have hE := Env.refl a6 [6, 7, 8]
  apply sq_det 6 hE k rfl (by rfl) (by rfl) rfl
  case h =>
    exact x_assign rfl rfl
  intro a7 hE e6 kp
  apply sq_det 7 hE k rfl (by rfl) (by rfl) rfl
  case h =>
    exact x_assign rfl rfl
  intro a8 hE e7 kp
  replace e6 := (kp 6 rfl).trans e6
  apply sq_det 8 hE k rfl (by rfl) (by rfl) rfl
  case h =>
    exact x_assign rfl rfl
  intro a9 hE e8 kp
  replace e6 := (kp 6 rfl).trans e6
  replace e7 := (kp 7 rfl).trans e7
  refine wpList_nil ?_
  replace k := k.env hE
  clear hE e0 e1 e2 e14
  refine then_n ?_
  refine wp_ret ?_
  refine then_r ?_
  refine ret_F3 rfl k e6 e7 e8 ?_
  exact ⟨N, 0, false, 0, B, cap, vs, rfl, O, .inl ⟨rfl, rfl, by omega, rfl, by rw [hLg]; rfl⟩⟩
set_option maxRecDepth 100000 in
set_option maxHeartbeats 4000000 in
theorem tDrop_some {H : Nat} {A0 : World} {R : List Thing} {sb cap : Nat} {room : Int} {B : Option Addr} {vs : List Value} {N : List Nd} {root ky m : Nat} {L : List (List Pr)} {g : List Nat} (w : World) (O : OwnT H A0 (shT sb room B cap vs N R) w) (hRT : RT m N root L g) (h7 : m ≤ 7) (hN : N.length ≤ 500) (hr : root ≠ 0) : Calls Try.prog 17 #[.iface 24 (.pointer (some ⟨sb, 0, none⟩)), .int .i64 root, .int .u64 ky] w fun e w' => ∃ N' root' ok er B' cap' vs', e = .returned (.tuple #[.int .i64 root', .bool ok, .int .i64 er]) ∧ OwnT H A0 (shT sb room B' cap' vs' N' R) w' ∧ DropT m N N' room root ky L root' ok er := by
  refine calls_F Try.func17 rfl 77 rfl (by rfl) ?_
  intro a1 k hargs
  have e0 : a1.eval (.tmp 0) = .iface 24 (.pointer (some ⟨sb, 0, none⟩)) := hargs 0 _ rfl
  have e1 : a1.eval (.tmp 1) = .int .i64 ↑root := hargs 1 _ rfl
  have e2 : a1.eval (.tmp 2) = .int .u64 ↑ky := hargs 2 _ rfl
  clear hargs
  refine wp_seq ?_
  refine wp_region_lit ?_
  have hE := Env.refl a1 [6, 7, 8]
  apply sq_det 6 hE k rfl (by rfl) (by rfl) rfl
  case h =>
    exact x_assign rfl rfl
  intro a2 hE e6 kp
  apply sq_det 7 hE k rfl (by rfl) (by rfl) rfl
  case h =>
    exact x_assign rfl rfl
  intro a3 hE e7 kp
  apply sq_det 8 hE k rfl (by rfl) (by rfl) rfl
  case h =>
    exact x_assign rfl rfl
  intro a4 hE e8 kp
  refine wpList_nil ?_
  replace e0 := hE.eval 0 (by rfl) e0
  replace e1 := hE.eval 1 (by rfl) e1
  replace e2 := hE.eval 2 (by rfl) e2
  replace k := k.env hE
  clear hE e8
  refine then_n ?_
  obtain ⟨l, hlm, hT, h2⟩ : ∃ l, l ≤ m ∧ Tr N l root L g ∧ (0 < l → ∃ xs, ndAt N root = some (l, xs) ∧ 2 ≤ xs.length) := by
    rcases hRT.rt with ⟨h, _⟩ | h
    · exact absurd h hr
    · exact h
  refine wp_seq ?_
  refine wp_seq ?_
  refine wp_region_lit ?_
  have hE := Env.refl a4 [13, 14]
  apply sq_det 13 hE k rfl (by rfl) (by rfl) rfl
  case h =>
    exact x_move rfl (hE.eval 1 (by rfl) e1)
  intro a5 hE e13 kp
  apply sq_det 14 hE k rfl (by rfl) (by rfl) rfl
  case h =>
    exact x_dec (x_eql rfl e13 rfl) (decide_eq_false (by omega))
  intro a6 hE e14 kp
  refine wpList_nil ?_
  replace e0 := hE.eval 0 (by rfl) e0
  replace e1 := hE.eval 1 (by rfl) e1
  replace e2 := hE.eval 2 (by rfl) e2
  replace k := k.env hE
  clear hE
  refine then_n ?_
  refine cond_f e14 rfl ?_
  refine wp_skip ?_
  refine then_n ?_
  refine wp_seq ?_
  refine wp_region_lit ?_
  have hE := Env.refl a6 [16, 17, 18, 19, 15, 20, 21, 22, 9, 10, 11]
  apply sq_det 16 hE k rfl (by rfl) (by rfl) rfl
  case h =>
    exact x_move rfl (hE.eval 0 (by rfl) e0)
  intro a7 hE e16 kp
  apply sq_det 17 hE k rfl (by rfl) (by rfl) rfl
  case h =>
    exact x_move rfl (hE.eval 1 (by rfl) e1)
  intro a8 hE e17 kp
  replace e16 := (kp 16 rfl).trans e16
  apply sq_det 18 hE k rfl (by rfl) (by rfl) rfl
  case h =>
    exact x_move rfl (hE.eval 2 (by rfl) e2)
  intro a9 hE e18 kp
  replace e16 := (kp 16 rfl).trans e16
  replace e17 := (kp 17 rfl).trans e17
  apply sq_call 19 hE k rfl (by rfl) (by rfl) rfl
  case h =>
    simp [go_sem, ↓IntWalk.iteOmega, ev e16, ev e17, ev e18]
    with_reducible exact ⟨rfl, rfl⟩
  case hc => exact tdrop l (ky := ky) _ O hT hRT.up hRT.nod (by omega) (by omega) hRT.wf (.inl (by decide))
  clear O
  rintro e w11 ⟨N1, lv, o, os, ok, er, B1, cap1, vs1, rfl, O, hPE⟩
  obtain ⟨Bo, co, rfl, hc1, hc2, -, hc4⟩ := ps_row (OwnT.t0 O)
  refine ⟨_, rfl, ?_⟩
  intro a10 hE e19 kp
  apply sq_det 15 hE k rfl (by rfl) (by rfl) rfl
  case h =>
    exact x_move rfl e19
  intro a12 hE e15 kp
  apply sq_det 20 hE k rfl (by rfl) (by rfl) rfl
  case h =>
    simp [go_sem, ↓IntWalk.iteOmega, ev e15]
    with_reducible rfl
  intro a13 hE e20 kp
  replace e15 := (kp 15 rfl).trans e15
  apply sq_det 21 hE k rfl (by rfl) (by rfl) rfl
  case h =>
    simp [go_sem, ↓IntWalk.iteOmega, ev e15]
    with_reducible rfl
  intro a14 hE e21 kp
  replace e15 := (kp 15 rfl).trans e15
  replace e20 := (kp 20 rfl).trans e20
  apply sq_det 22 hE k rfl (by rfl) (by rfl) rfl
  case h =>
    simp [go_sem, ↓IntWalk.iteOmega, ev e15]
    with_reducible rfl
  intro a15 hE e22 kp
  replace e20 := (kp 20 rfl).trans e20
  replace e21 := (kp 21 rfl).trans e21
  refine sq_new O (cs := #[.int .i64 0, .slice none 0 0]) (t := 125) 9 hE k rfl (by rfl) (by rfl) rfl (by simp [go_sem, ↓IntWalk.iteOmega]) ?_
  clear O
  intro nb a16 w17 O hE e9 kp
  replace e20 := (kp 20 rfl).trans e20
  replace e21 := (kp 21 rfl).trans e21
  replace e22 := (kp 22 rfl).trans e22
  have q0 : w17.cell? ⟨nb, 0, none⟩ = some (.int .i64 0) := (OwnT.blk O 0 rfl).cell 0
  have z0 : w17.frozen? ⟨nb, 0, none⟩ = false := (OwnT.blk O 0 rfl).frozen 0
  have q1 : w17.cell? ⟨nb, 1, none⟩ = some (.slice none 0 0) := (OwnT.blk O 0 rfl).cell 1
  have z1 : w17.frozen? ⟨nb, 1, none⟩ = false := (OwnT.blk O 0 rfl).frozen 1
  refine sq_unit (w' := ((w17.setCell ⟨nb, 0, none⟩ (.int .i64 lv)).setCell ⟨nb, 1, none⟩ (.slice Bo os.length co))) hE rfl rfl (by simp [go_sem, ↓IntWalk.iteOmega, ev e9, ev e20, q0, z0, q1, z1]) ?_
  replace O := OwnT.push 0 rfl (((OwnT.pull O 0 rfl).set 0 (.int .i64 lv)).set 1 (.slice Bo os.length co))
  clear q0 z0 q1 z1
  generalize ((w17.setCell ⟨nb, 0, none⟩ (.int .i64 lv)).setCell ⟨nb, 1, none⟩ (.slice Bo os.length co)) = w18 at O ⊢
  replace O : OwnT _ _ ((tBlk nb 125 #[.int .i64 lv, .slice Bo os.length co]) :: (tPs (.slice Bo os.length co) os) :: (tBlk sb 28 #[.slice B1 N1.length cap1, .int .i64 room]) :: (tRow 125 2 (.slice B1 N1.length cap1) N1.length (leafV vs1 N1)) :: (tPool vs1 N1) :: R) w18 := O
  apply sq_det 10 hE k rfl (by rfl) (by rfl) rfl
  case h =>
    exact x_assign rfl e21
  intro a19 hE e10 kp
  replace e22 := (kp 22 rfl).trans e22
  replace e9 := (kp 9 rfl).trans e9
  apply sq_det 11 hE k rfl (by rfl) (by rfl) rfl
  case h =>
    exact x_assign rfl e22
  intro a20 hE e11 kp
  replace e9 := (kp 9 rfl).trans e9
  replace e10 := (kp 10 rfl).trans e10
  refine wpList_nil ?_
  replace e0 := hE.eval 0 (by rfl) e0
  replace e1 := hE.eval 1 (by rfl) e1
  replace k := k.env hE
  clear hE e2 e14
  refine then_n ?_
  refine wp_seq ?_
  refine wp_block ?_
  rcases hPE with ⟨rfl, rfl, rfl, hln⟩ | ⟨rfl, rfl, hls, ⟨M1, rfl, hM1⟩, hrm⟩ | ⟨rfl, rfl, rfl, hls, hDR⟩
  · skip
    refine wp_seq ?_
    refine wp_region_lit ?_
    have hE := Env.refl a20 [24, 25, 23]
    apply sq_det 24 hE k rfl (by rfl) (by rfl) rfl
    case h =>
      exact x_move rfl (hE.eval 11 (by rfl) e11)
    intro a21 hE e24 kp
    apply sq_det 25 hE k rfl (by rfl) (by rfl) rfl
    case h =>
      exact x_neq rfl e24 rfl
    intro a22 hE e25 kp
    apply sq_det 23 hE k rfl (by rfl) (by rfl) rfl
    case h =>
      exact x_assign rfl e25
    intro a23 hE e23 kp
    refine wpList_nil ?_
    replace e0 := hE.eval 0 (by rfl) e0
    replace e1 := hE.eval 1 (by rfl) e1
    replace e9 := hE.eval 9 (by rfl) e9
    replace e10 := hE.eval 10 (by rfl) e10
    replace e11 := hE.eval 11 (by rfl) e11
    replace k := k.env hE
    clear hE
    refine then_n ?_
    refine cond_f e23 rfl ?_
    refine wp_seq ?_
    refine wp_region_lit ?_
    have hE := Env.refl a23 [28, 29, 27]
    apply sq_det 28 hE k rfl (by rfl) (by rfl) rfl
    case h =>
      exact x_move rfl (hE.eval 10 (by rfl) e10)
    intro a24 hE e28 kp
    apply sq_det 29 hE k rfl (by rfl) (by rfl) rfl
    case h =>
      exact x_not rfl e28
    intro a25 hE e29 kp
    apply sq_det 27 hE k rfl (by rfl) (by rfl) rfl
    case h =>
      exact x_assign rfl e29
    intro a26 hE e27 kp
    refine wpList_nil ?_
    replace e0 := hE.eval 0 (by rfl) e0
    replace e1 := hE.eval 1 (by rfl) e1
    replace e9 := hE.eval 9 (by rfl) e9
    replace k := k.env hE
    clear hE e10 e11 e23
    refine then_n ?_
    refine cond_t e27 rfl ?_
    refine wp_seq ?_
    refine wp_region_lit ?_
    have hE := Env.refl a26 [30, 6, 7, 8]
    apply sq_det 30 hE k rfl (by rfl) (by rfl) rfl
    case h =>
      exact x_move rfl (hE.eval 1 (by rfl) e1)
    intro a27 hE e30 kp
    apply sq_det 6 hE k rfl (by rfl) (by rfl) rfl
    case h =>
      exact x_assign rfl e30
    intro a28 hE e6 kp
    apply sq_det 7 hE k rfl (by rfl) (by rfl) rfl
    case h =>
      exact x_assign rfl rfl
    intro a29 hE e7 kp
    replace e6 := (kp 6 rfl).trans e6
    apply sq_det 8 hE k rfl (by rfl) (by rfl) rfl
    case h =>
      exact x_assign rfl rfl
    intro a30 hE e8 kp
    replace e6 := (kp 6 rfl).trans e6
    replace e7 := (kp 7 rfl).trans e7
    refine wpList_nil ?_
    replace k := k.env hE
    clear hE e0 e1 e9 e27
    refine then_n ?_
    refine wp_ret ?_
    refine block_r ?_
    refine then_r ?_
    refine ret_F3 rfl k e6 e7 e8 ?_
    exact ⟨_, _, _, _, B1, cap1, vs1, rfl, OwnT.pickR (L := [_, _, _, _, _]) (R := R) O [2, 3, 4] (by decide), .inl ⟨rfl, rfl, rfl, rfl, hln⟩⟩
  · skip
    refine wp_seq ?_
    refine wp_region_lit ?_
    have hE := Env.refl a20 [24, 25, 23]
    apply sq_det 24 hE k rfl (by rfl) (by rfl) rfl
    case h =>
      exact x_move rfl (hE.eval 11 (by rfl) e11)
    intro a31 hE e24 kp
    apply sq_det 25 hE k rfl (by rfl) (by rfl) rfl
    case h =>
      exact x_neq rfl e24 rfl
    intro a32 hE e25 kp
    apply sq_det 23 hE k rfl (by rfl) (by rfl) rfl
    case h =>
      exact x_assign rfl e25
    intro a33 hE e23 kp
    refine wpList_nil ?_
    replace e0 := hE.eval 0 (by rfl) e0
    replace e1 := hE.eval 1 (by rfl) e1
    replace e9 := hE.eval 9 (by rfl) e9
    replace e10 := hE.eval 10 (by rfl) e10
    replace e11 := hE.eval 11 (by rfl) e11
    replace k := k.env hE
    clear hE
    refine then_n ?_
    refine cond_t e23 rfl ?_
    refine wp_seq ?_
    refine wp_region_lit ?_
    have hE := Env.refl a33 [26, 6, 7, 8]
    apply sq_det 26 hE k rfl (by rfl) (by rfl) rfl
    case h =>
      exact x_move rfl (hE.eval 11 (by rfl) e11)
    intro a34 hE e26 kp
    apply sq_det 6 hE k rfl (by rfl) (by rfl) rfl
    case h =>
      exact x_assign rfl rfl
    intro a35 hE e6 kp
    replace e26 := (kp 26 rfl).trans e26
    apply sq_det 7 hE k rfl (by rfl) (by rfl) rfl
    case h =>
      exact x_assign rfl rfl
    intro a36 hE e7 kp
    replace e26 := (kp 26 rfl).trans e26
    replace e6 := (kp 6 rfl).trans e6
    apply sq_det 8 hE k rfl (by rfl) (by rfl) rfl
    case h =>
      exact x_assign rfl e26
    intro a37 hE e8 kp
    replace e6 := (kp 6 rfl).trans e6
    replace e7 := (kp 7 rfl).trans e7
    refine wpList_nil ?_
    replace k := k.env hE
    clear hE e0 e1 e9 e10 e11 e23
    refine then_n ?_
    refine wp_ret ?_
    refine block_r ?_
    refine then_r ?_
    refine ret_F3 rfl k e6 e7 e8 ?_
    exact ⟨_, _, _, _, B1, cap1, vs1, rfl, OwnT.pickR (L := [_, _, _, _, _]) (R := R) O [2, 3, 4] (by decide), .inr (.inl ⟨rfl, rfl, rfl, hls, ⟨M1, rfl, by omega⟩, fun h => hrm (by omega)⟩)⟩
  · skip
    obtain ⟨M1, hM1, hM1l⟩ := hDR.app
    have hos := hDR.len
    have hN1l : N1.length = N.length + M1.length := by rw [hM1, List.length_append]
    obtain ⟨L', h', hb, hnd, hpg, hdl, hfl⟩ := hDR.body
    have hup : Up L'.flatten := by rw [hfl]; exact delP_up hRT.up
    have hwf : ∀ y ∈ L'.flatten, y.1 < 18446744073709551616 ∧ y.2 < 18446744073709551616 := fun y hy => hRT.wf y (by rw [hfl] at hy; exact (List.mem_filter.1 hy).1)
    have hph := phi_del hdl
    
    replace O : OwnT _ _ ((tBlk sb 28 #[.slice B1 N1.length cap1, .int .i64 room]) :: (tRow 125 2 (.slice B1 N1.length cap1) N1.length (leafV vs1 N1)) :: (tPool vs1 N1) :: (tPs (.slice Bo os.length co) os) :: (tBlk nb 125 #[.int .i64 ↑l, .slice Bo os.length co]) :: R) w18 := OwnT.pickR (L := [_, _, _, _, _]) (R := R) O [2, 3, 4, 1, 0] (by decide)
    refine wp_seq ?_
    refine wp_region_lit ?_
    have hE := Env.refl a20 [24, 25, 23]
    apply sq_det 24 hE k rfl (by rfl) (by rfl) rfl
    case h =>
      exact x_move rfl (hE.eval 11 (by rfl) e11)
    intro a38 hE e24 kp
    apply sq_det 25 hE k rfl (by rfl) (by rfl) rfl
    case h =>
      exact x_neq rfl e24 rfl
    intro a39 hE e25 kp
    apply sq_det 23 hE k rfl (by rfl) (by rfl) rfl
    case h =>
      exact x_assign rfl e25
    intro a40 hE e23 kp
    refine wpList_nil ?_
    replace e0 := hE.eval 0 (by rfl) e0
    replace e1 := hE.eval 1 (by rfl) e1
    replace e9 := hE.eval 9 (by rfl) e9
    replace e10 := hE.eval 10 (by rfl) e10
    replace e11 := hE.eval 11 (by rfl) e11
    replace k := k.env hE
    clear hE
    refine then_n ?_
    refine cond_f e23 rfl ?_
    refine wp_seq ?_
    refine wp_region_lit ?_
    have hE := Env.refl a40 [28, 29, 27]
    apply sq_det 28 hE k rfl (by rfl) (by rfl) rfl
    case h =>
      exact x_move rfl (hE.eval 10 (by rfl) e10)
    intro a41 hE e28 kp
    apply sq_det 29 hE k rfl (by rfl) (by rfl) rfl
    case h =>
      exact x_not rfl e28
    intro a42 hE e29 kp
    apply sq_det 27 hE k rfl (by rfl) (by rfl) rfl
    case h =>
      exact x_assign rfl e29
    intro a43 hE e27 kp
    refine wpList_nil ?_
    replace e0 := hE.eval 0 (by rfl) e0
    replace e1 := hE.eval 1 (by rfl) e1
    replace e9 := hE.eval 9 (by rfl) e9
    replace k := k.env hE
    clear hE e10 e11 e23
    refine then_n ?_
    refine cond_f e27 rfl ?_
    refine wp_skip ?_
    refine block_n ?_
    refine then_n ?_
    refine wp_seq ?_
    refine wp_region_lit ?_
    have hE := Env.refl a43 [12]
    apply sq_det 12 hE k rfl (by rfl) (by rfl) rfl
    case h =>
      exact x_assign rfl rfl
    intro a44 hE e12 kp
    refine wpList_nil ?_
    replace e0 := hE.eval 0 (by rfl) e0
    replace e9 := hE.eval 9 (by rfl) e9
    replace k := k.env hE
    clear hE e1 e27
    refine then_n ?_
    refine wp_seq ?_
    refine wp_block ?_
    refine wp_loop (fun a w => Fr 77 a ∧ a.eval (.tmp 0) = .iface 24 (.pointer (some ⟨sb, 0, none⟩)) ∧ a.eval (.tmp 9) = .pointer (some ⟨nb, 0, none⟩) ∧ ∃ (lc pg : Nat) (os : List Pr) (Bo : Option Addr) (co : Nat) (h' : List Nat), a.eval (.tmp 12) = .int .i64 ↑pg ∧ lc ≤ l ∧ os.length ≤ 15 ∧ Body (Tb N1 lc) lc os L' h' ∧ h'.Nodup ∧ (pg ≠ 0 → ndAt N1 pg = some (lc, os) ∧ os ≠ [] ∧ pg ∉ h') ∧ OwnT H A0 ((tBlk sb 28 #[.slice B1 N1.length cap1, .int .i64 room]) :: (tRow 125 2 (.slice B1 N1.length cap1) N1.length (leafV vs1 N1)) :: (tPool vs1 N1) :: (tPs (.slice Bo os.length co) os) :: (tBlk nb 125 #[.int .i64 ↑lc, .slice Bo os.length co]) :: R) w) (fun a w => lvC (w.cell? ⟨nb, 0, none⟩)) ?_ ?_
    · exact ⟨k, e0, e9, l, 0, os, Bo, co, h', e12, Nat.le_refl _, hos, hb, hnd, (fun h => absurd rfl h), O⟩
    intro a45 w46 hI
    clear k e0 e9
    obtain ⟨k, e0, e9, h_⟩ := hI
    clear O e12 hb hnd hos hc1 hc2 hc4
    obtain ⟨lc, pg, os, Bo, co, h', e12, hlc, hos, hb, hnd, hpgn, O⟩ := h_
    have mz : lvC (w46.cell? ⟨nb, 0, none⟩) = lc := by rw [(OwnT.blk O 4 rfl).cell 0]; rfl
    obtain ⟨_, _, e2q, hc1, hc2, hrow, hc4⟩ := ps_row (OwnT.get O 3 rfl : (tPs (.slice Bo os.length co) os).holds _)
    injection e2q with e2q _ e3q
    subst e2q e3q
    by_cases hc : 0 < lc ∧ os.length = 1
    · skip
      obtain ⟨hc0, hc1'⟩ := hc
      obtain ⟨x, rfl⟩ : ∃ x, os = [x] := List.length_eq_one_iff.1 hc1'
      obtain ⟨l1, rfl⟩ : ∃ l1, lc = l1 + 1 := ⟨lc - 1, by omega⟩
      obtain ⟨hTx, xs, h2', hnx, hne, hbx, rfl, hnd2, hnm⟩ := only_kid hb hnd
      obtain ⟨ys, hny, -, h15, huy, hgy, hyw⟩ := tr_node hTx hup (by omega) (by omega) hwf
      rw [hnx] at hny
      injection hny with hny
      injection hny with _ hny
      subst hny
      have hx5 : x.2 ≤ 511 := by have := (ndAt_le hnx).2; omega
      have hx1 := (ndAt_le hnx).1
      obtain ⟨go, rfl⟩ : ∃ go, Bo = some ⟨go, 0, none⟩ := by
        obtain ⟨g2, c2, _, e2, _⟩ := row_some (OwnT.get O 3 rfl : World.ownsRow _ 0 38 2 _ [x].length _) (by simp)
        injection e2 with e2
        exact ⟨g2, e2⟩
      have cq : w46.cell? ⟨go, 1, none⟩ = some (.int .u64 (x.2 : Int)) := by
        obtain ⟨b, o, e, _, hc⟩ := hrow 0 x rfl
        injection e with e
        injection e with e e'
        subst e e'
        have := hc 1 _ rfl
        simpa using this
      
      replace O : OwnT _ _ ((tBlk sb 28 #[.slice B1 N1.length cap1, .int .i64 room]) :: (tRow 125 2 (.slice B1 N1.length cap1) N1.length (leafV vs1 N1)) :: (tPool vs1 N1) :: (tPs (.slice (some ⟨go, 0, none⟩) 1 co) [x]) :: (tBlk nb 125 #[.int .i64 (↑(l1 + 1)), .slice (some ⟨go, 0, none⟩) 1 co]) :: R) w46 := O
      refine wp_seq ?_
      refine wp_seq ?_
      refine wp_region_lit ?_
      have hE := Env.refl a45 [31, 32, 33, 34, 35, 36, 37, 38, 39]
      apply sq_det 31 hE k rfl (by rfl) (by rfl) rfl
      case h =>
        simp [go_sem, ↓IntWalk.iteOmega, ev (hE.eval 9 (by rfl) e9)]
        with_reducible rfl
      intro a47 hE e31 kp
      apply sq_det 32 hE k rfl (by rfl) (by rfl) rfl
      case h =>
        have q0 : w46.cell? ⟨nb, 0, none⟩ = some (.int .i64 (↑(l1 + 1))) := (OwnT.blk O 4 rfl).cell 0
        simp [go_sem, ↓IntWalk.iteOmega, ev e31, q0]
        with_reducible rfl
      intro a48 hE e32 kp
      apply sq_det 33 hE k rfl (by rfl) (by rfl) rfl
      case h =>
        exact x_dec (x_gtr rfl e32 rfl) (decide_eq_true (by omega))
      intro a49 hE e33 kp
      apply sq_det 34 hE k rfl (by rfl) (by rfl) rfl
      case h =>
        exact x_move rfl e33
      intro a50 hE e34 kp
      apply sq_detg 35 hE k rfl (by rfl) (by rfl) rfl rfl e34
      case h =>
        simp [go_sem, ↓IntWalk.iteOmega, ev (hE.eval 9 (by rfl) e9)]
        with_reducible rfl
      intro a51 hE e35 kp
      replace e34 := (kp 34 rfl).trans e34
      apply sq_detg 36 hE k rfl (by rfl) (by rfl) rfl rfl e34
      case h =>
        have q0 : w46.cell? ⟨nb, 1, none⟩ = some (.slice (some ⟨go, 0, none⟩) 1 co) := (OwnT.blk O 4 rfl).cell 1
        simp [go_sem, ↓IntWalk.iteOmega, ev e35, q0]
        with_reducible rfl
      intro a52 hE e36 kp
      replace e34 := (kp 34 rfl).trans e34
      apply sq_detg 37 hE k rfl (by rfl) (by rfl) rfl rfl e34
      case h =>
        exact x_len Try.underlying29 rfl e36
      intro a53 hE e37 kp
      replace e34 := (kp 34 rfl).trans e34
      apply sq_detg 38 hE k rfl (by rfl) (by rfl) rfl rfl e34
      case h =>
        exact x_dec (x_eql rfl e37 rfl) (decide_eq_true (by omega))
      intro a54 hE e38 kp
      replace e34 := (kp 34 rfl).trans e34
      apply sq_det 39 hE k rfl (by rfl) (by rfl) rfl
      case h =>
        exact x_pick_t rfl e34 e38
      intro a55 hE e39 kp
      refine wpList_nil ?_
      replace e0 := hE.eval 0 (by rfl) e0
      replace e9 := hE.eval 9 (by rfl) e9
      replace e12 := hE.eval 12 (by rfl) e12
      replace k := k.env hE
      clear hE
      refine then_n ?_
      refine cond_t e39 rfl ?_
      refine wp_skip ?_
      refine then_n ?_
      refine wp_block ?_
      refine wp_seq ?_
      refine wp_region_lit ?_
      have hE := Env.refl a55 [40, 41, 42, 43, 44, 45, 12]
      apply sq_det 40 hE k rfl (by rfl) (by rfl) rfl
      case h =>
        simp [go_sem, ↓IntWalk.iteOmega, ev (hE.eval 9 (by rfl) e9)]
        with_reducible rfl
      intro a56 hE e40 kp
      apply sq_det 41 hE k rfl (by rfl) (by rfl) rfl
      case h =>
        have q0 : w46.cell? ⟨nb, 1, none⟩ = some (.slice (some ⟨go, 0, none⟩) 1 co) := (OwnT.blk O 4 rfl).cell 1
        simp [go_sem, ↓IntWalk.iteOmega, ev e40, q0]
        with_reducible rfl
      intro a57 hE e41 kp
      apply sq_det 42 hE k rfl (by rfl) (by rfl) rfl
      case h =>
        simp [go_sem, ↓IntWalk.iteOmega, ev e41]
        with_reducible rfl
      intro a58 hE e42 kp
      apply sq_det 43 hE k rfl (by rfl) (by rfl) rfl
      case h =>
        simp [go_sem, ↓IntWalk.iteOmega, ev e42]
        with_reducible rfl
      intro a59 hE e43 kp
      apply sq_det 44 hE k rfl (by rfl) (by rfl) rfl
      case h =>
        simp [go_sem, ↓IntWalk.iteOmega, ev e43, cq]
        with_reducible rfl
      intro a60 hE e44 kp
      apply sq_det 45 hE k rfl (by rfl) (by rfl) rfl
      case h =>
        exact x_conv rfl e44 (conv_u64i x.2 _ (by omega))
      intro a61 hE e45 kp
      apply sq_det 12 hE k rfl (by rfl) (by rfl) rfl
      case h =>
        exact x_assign rfl e45
      intro a62 hE e12 kp
      refine wpList_nil ?_
      replace e0 := hE.eval 0 (by rfl) e0
      replace e9 := hE.eval 9 (by rfl) e9
      replace k := k.env hE
      clear hE e39
      refine then_n ?_
      refine wp_seq ?_
      refine wp_region_lit ?_
      have hE := Env.refl a62 [47, 48, 49, 50, 51, 52, 46, 53, 54, 11]
      apply sq_det 47 hE k rfl (by rfl) (by rfl) rfl
      case h =>
        exact x_move rfl (hE.eval 0 (by rfl) e0)
      intro a63 hE e47 kp
      apply sq_det 48 hE k rfl (by rfl) (by rfl) rfl
      case h =>
        exact x_move rfl (hE.eval 12 (by rfl) e12)
      intro a64 hE e48 kp
      replace e47 := (kp 47 rfl).trans e47
      apply sq_det 49 hE k rfl (by rfl) (by rfl) rfl
      case h =>
        simp [go_sem, ↓IntWalk.iteOmega, ev (hE.eval 9 (by rfl) e9)]
        with_reducible rfl
      intro a65 hE e49 kp
      replace e47 := (kp 47 rfl).trans e47
      replace e48 := (kp 48 rfl).trans e48
      apply sq_det 50 hE k rfl (by rfl) (by rfl) rfl
      case h =>
        have q0 : w46.cell? ⟨nb, 0, none⟩ = some (.int .i64 (↑(l1 + 1))) := (OwnT.blk O 4 rfl).cell 0
        simp [go_sem, ↓IntWalk.iteOmega, ev e49, q0]
        with_reducible rfl
      intro a66 hE e50 kp
      replace e47 := (kp 47 rfl).trans e47
      replace e48 := (kp 48 rfl).trans e48
      apply sq_det 51 hE k rfl (by rfl) (by rfl) rfl
      case h =>
        exact x_val (v := .int .i64 (l1 : Int)) (x_sub rfl e50 rfl (by omega)) (int_eq (by omega))
      intro a67 hE e51 kp
      replace e47 := (kp 47 rfl).trans e47
      replace e48 := (kp 48 rfl).trans e48
      apply sq_call 52 hE k rfl (by rfl) (by rfl) rfl
      case h =>
        simp [go_sem, ↓IntWalk.iteOmega, ev e47, ev e48, ev e51]
        with_reducible exact ⟨rfl, rfl⟩
      case hc => exact tread (R := _ :: _ :: R) _ O (by omega) hnx hgy hne h15 (fun y hy => (hyw y hy).1) (.inr rfl)
      clear O
      rintro e w69 ⟨v, rfl, O⟩
      obtain ⟨Bv, cv, rfl, hv1, hv2, -, hv3⟩ := ps_row (OwnT.t0 O)
      refine ⟨_, rfl, ?_⟩
      intro a68 hE e52 kp
      apply sq_det 46 hE k rfl (by rfl) (by rfl) rfl
      case h =>
        exact x_move rfl e52
      intro a70 hE e46 kp
      apply sq_det 53 hE k rfl (by rfl) (by rfl) rfl
      case h =>
        simp [go_sem, ↓IntWalk.iteOmega, ev e46]
        with_reducible rfl
      intro a71 hE e53 kp
      replace e46 := (kp 46 rfl).trans e46
      apply sq_det 54 hE k rfl (by rfl) (by rfl) rfl
      case h =>
        simp [go_sem, ↓IntWalk.iteOmega, ev e46]
        with_reducible rfl
      intro a72 hE e54 kp
      replace e53 := (kp 53 rfl).trans e53
      have q0 : w69.cell? ⟨nb, 0, none⟩ = some (.int .i64 (↑(l1 + 1))) := (OwnT.blk O 5 rfl).cell 0
      have z0 : w69.frozen? ⟨nb, 0, none⟩ = false := (OwnT.blk O 5 rfl).frozen 0
      have q1 : w69.cell? ⟨nb, 1, none⟩ = some (.slice (some ⟨go, 0, none⟩) 1 co) := (OwnT.blk O 5 rfl).cell 1
      have z1 : w69.frozen? ⟨nb, 1, none⟩ = false := (OwnT.blk O 5 rfl).frozen 1
      refine sq_unit (w' := ((w69.setCell ⟨nb, 0, none⟩ (.int .i64 ↑l1)).setCell ⟨nb, 1, none⟩ (.slice Bv xs.length cv))) hE rfl rfl (by simp [go_sem, ↓IntWalk.iteOmega, ev (hE.eval 9 (by rfl) e9), ev e53, q0, z0, q1, z1]) ?_
      replace O := OwnT.push 5 rfl (((OwnT.pull O 5 rfl).set 0 (.int .i64 ↑l1)).set 1 (.slice Bv xs.length cv))
      clear q0 z0 q1 z1
      generalize ((w69.setCell ⟨nb, 0, none⟩ (.int .i64 ↑l1)).setCell ⟨nb, 1, none⟩ (.slice Bv xs.length cv)) = w73 at O ⊢
      replace O : OwnT _ _ ((tPs (.slice Bv xs.length cv) xs) :: (tBlk sb 28 #[.slice B1 N1.length cap1, .int .i64 room]) :: (tRow 125 2 (.slice B1 N1.length cap1) N1.length (leafV vs1 N1)) :: (tPool vs1 N1) :: (tPs (.slice (some ⟨go, 0, none⟩) 1 co) [x]) :: (tBlk nb 125 #[.int .i64 ↑l1, .slice Bv xs.length cv]) :: R) w73 := O
      apply sq_det 11 hE k rfl (by rfl) (by rfl) rfl
      case h =>
        exact x_assign rfl e54
      intro a74 hE e11 kp
      refine wpList_nil ?_
      replace e0 := hE.eval 0 (by rfl) e0
      replace e9 := hE.eval 9 (by rfl) e9
      replace e12 := hE.eval 12 (by rfl) e12
      replace k := k.env hE
      clear hE
      refine then_n ?_
      replace O : OwnT _ _ ((tBlk sb 28 #[.slice B1 N1.length cap1, .int .i64 room]) :: (tRow 125 2 (.slice B1 N1.length cap1) N1.length (leafV vs1 N1)) :: (tPool vs1 N1) :: (tPs (.slice Bv xs.length cv) xs) :: (tBlk nb 125 #[.int .i64 ↑l1, .slice Bv xs.length cv]) :: R) w73 := OwnT.pickR (L := [_, _, _, _, _, _]) (R := R) O [1, 2, 3, 0, 5] (by decide)
      refine wp_seq ?_
      refine wp_region_lit ?_
      have hE := Env.refl a74 [55, 56]
      apply sq_det 55 hE k rfl (by rfl) (by rfl) rfl
      case h =>
        exact x_move rfl (hE.eval 11 (by rfl) e11)
      intro a75 hE e55 kp
      apply sq_det 56 hE k rfl (by rfl) (by rfl) rfl
      case h =>
        exact x_dec (x_neq rfl e55 rfl) (decide_eq_false (by omega))
      intro a76 hE e56 kp
      refine wpList_nil ?_
      replace e0 := hE.eval 0 (by rfl) e0
      replace e9 := hE.eval 9 (by rfl) e9
      replace e11 := hE.eval 11 (by rfl) e11
      replace e12 := hE.eval 12 (by rfl) e12
      replace k := k.env hE
      clear hE
      refine then_n ?_
      refine cond_f e56 rfl ?_
      refine wp_skip ?_
      refine block_n ?_
      refine then_n ?_
      refine ⟨⟨k, e0, e9, l1, x.2, xs, Bv, cv, h2', e12, by omega, h15, hbx, hnd2, fun _ => ⟨hnx, hne, hnm⟩, O⟩, ?_⟩
      rw [mz, (OwnT.blk O 4 rfl).cell 0]; show lvC (some (.int .i64 (l1 : Int))) < _; simp only [lvC]; omega
    · skip
      clear mz
      by_cases h0 : 0 < lc
      · have h1 : os.length ≠ 1 := fun h => hc ⟨h0, h⟩
        refine wp_seq ?_
        refine wp_seq ?_
        refine wp_region_lit ?_
        have hE := Env.refl a45 [31, 32, 33, 34, 35, 36, 37, 38, 39]
        apply sq_det 31 hE k rfl (by rfl) (by rfl) rfl
        case h =>
          simp [go_sem, ↓IntWalk.iteOmega, ev (hE.eval 9 (by rfl) e9)]
          with_reducible rfl
        intro a77 hE e31 kp
        apply sq_det 32 hE k rfl (by rfl) (by rfl) rfl
        case h =>
          have q0 : w46.cell? ⟨nb, 0, none⟩ = some (.int .i64 ↑lc) := (OwnT.blk O 4 rfl).cell 0
          simp [go_sem, ↓IntWalk.iteOmega, ev e31, q0]
          with_reducible rfl
        intro a78 hE e32 kp
        apply sq_det 33 hE k rfl (by rfl) (by rfl) rfl
        case h =>
          exact x_dec (x_gtr rfl e32 rfl) (decide_eq_true (by omega))
        intro a79 hE e33 kp
        apply sq_det 34 hE k rfl (by rfl) (by rfl) rfl
        case h =>
          exact x_move rfl e33
        intro a80 hE e34 kp
        apply sq_detg 35 hE k rfl (by rfl) (by rfl) rfl rfl e34
        case h =>
          simp [go_sem, ↓IntWalk.iteOmega, ev (hE.eval 9 (by rfl) e9)]
          with_reducible rfl
        intro a81 hE e35 kp
        replace e34 := (kp 34 rfl).trans e34
        apply sq_detg 36 hE k rfl (by rfl) (by rfl) rfl rfl e34
        case h =>
          have q0 : w46.cell? ⟨nb, 1, none⟩ = some (.slice Bo os.length co) := (OwnT.blk O 4 rfl).cell 1
          simp [go_sem, ↓IntWalk.iteOmega, ev e35, q0]
          with_reducible rfl
        intro a82 hE e36 kp
        replace e34 := (kp 34 rfl).trans e34
        apply sq_detg 37 hE k rfl (by rfl) (by rfl) rfl rfl e34
        case h =>
          exact x_len Try.underlying29 rfl e36
        intro a83 hE e37 kp
        replace e34 := (kp 34 rfl).trans e34
        apply sq_detg 38 hE k rfl (by rfl) (by rfl) rfl rfl e34
        case h =>
          exact x_dec (x_eql rfl e37 rfl) (decide_eq_false (by omega))
        intro a84 hE e38 kp
        replace e34 := (kp 34 rfl).trans e34
        apply sq_det 39 hE k rfl (by rfl) (by rfl) rfl
        case h =>
          exact x_pick_t rfl e34 e38
        intro a85 hE e39 kp
        refine wpList_nil ?_
        replace e0 := hE.eval 0 (by rfl) e0
        replace e9 := hE.eval 9 (by rfl) e9
        replace e12 := hE.eval 12 (by rfl) e12
        replace k := k.env hE
        clear hE
        refine then_n ?_
        refine cond_f e39 rfl ?_
        refine wp_exit ?_
        refine then_x ?_
        refine then_x ?_
        refine block_x ?_
        refine then_n ?_
        by_cases hp0 : pg = 0
        rotate_left
        · skip
          refine wp_seq ?_
          refine wp_seq ?_
          refine wp_region_lit ?_
          have hE := Env.refl a85 [58, 59, 60, 61, 62, 63, 64, 65]
          apply sq_det 58 hE k rfl (by rfl) (by rfl) rfl
          case h =>
            exact x_move rfl (hE.eval 12 (by rfl) e12)
          intro a86 hE e58 kp
          apply sq_det 59 hE k rfl (by rfl) (by rfl) rfl
          case h =>
            exact x_dec (x_neq rfl e58 rfl) (decide_eq_true (by omega))
          intro a87 hE e59 kp
          apply sq_det 60 hE k rfl (by rfl) (by rfl) rfl
          case h =>
            exact x_move rfl e59
          intro a88 hE e60 kp
          refine sq_skipg 61 hE k rfl (by rfl) (by rfl) rfl rfl (.inl e60) ?_
          intro a89 hE e61 kp
          replace e60 := (kp 60 rfl).trans e60
          refine sq_skipg 62 hE k rfl (by rfl) (by rfl) rfl rfl (.inl e60) ?_
          intro a90 hE e62 kp
          replace e60 := (kp 60 rfl).trans e60
          refine sq_skipg 63 hE k rfl (by rfl) (by rfl) rfl rfl (.inl e60) ?_
          intro a91 hE e63 kp
          replace e60 := (kp 60 rfl).trans e60
          refine sq_skipg 64 hE k rfl (by rfl) (by rfl) rfl rfl (.inl e60) ?_
          intro a92 hE e64 kp
          replace e60 := (kp 60 rfl).trans e60
          apply sq_det 65 hE k rfl (by rfl) (by rfl) rfl
          case h =>
            exact x_pick_t rfl e60 rfl
          intro a93 hE e65 kp
          refine wpList_nil ?_
          replace e0 := hE.eval 0 (by rfl) e0
          replace e9 := hE.eval 9 (by rfl) e9
          replace e12 := hE.eval 12 (by rfl) e12
          replace k := k.env hE
          clear hE e39
          refine then_n ?_
          refine cond_t e65 rfl ?_
          refine wp_seq ?_
          refine wp_region_lit ?_
          have hE := Env.refl a93 [66, 6, 7, 8]
          apply sq_det 66 hE k rfl (by rfl) (by rfl) rfl
          case h =>
            exact x_move rfl (hE.eval 12 (by rfl) e12)
          intro a94 hE e66 kp
          apply sq_det 6 hE k rfl (by rfl) (by rfl) rfl
          case h =>
            exact x_assign rfl e66
          intro a95 hE e6 kp
          apply sq_det 7 hE k rfl (by rfl) (by rfl) rfl
          case h =>
            exact x_assign rfl rfl
          intro a96 hE e7 kp
          replace e6 := (kp 6 rfl).trans e6
          apply sq_det 8 hE k rfl (by rfl) (by rfl) rfl
          case h =>
            exact x_assign rfl rfl
          intro a97 hE e8 kp
          replace e6 := (kp 6 rfl).trans e6
          replace e7 := (kp 7 rfl).trans e7
          refine wpList_nil ?_
          replace k := k.env hE
          clear hE e0 e9 e12 e65
          refine then_n ?_
          refine wp_ret ?_
          refine then_r ?_
          obtain ⟨hn1, hn2, hn3⟩ := hpgn hp0
          refine ret_F3 rfl k e6 e7 e8 ?_
          exact ⟨N1, pg, true, 0, B1, cap1, vs1, rfl, OwnT.pickR (L := [_, _, _, _, _]) (R := R) O [0, 1, 2] (by decide), .inr (.inr ⟨rfl, rfl, hls, ⟨M1, hM1, by omega⟩, pg, L', pg :: h', rfl, ⟨.inr ⟨lc, by omega, Tr_iff.2 ⟨os, h', hn1, hn2, hos, hb, rfl⟩, fun h0 => ⟨os, hn1, by have := List.length_pos_iff.2 hn2; omega⟩⟩, hup, List.nodup_cons.2 ⟨hn3, hnd⟩, hwf⟩, hfl, hph⟩)⟩
        subst hp0
        by_cases ho : os = []
        · have hol : os.length = 0 := by rw [ho]; rfl
          have hL' : L' = [] := by
            subst ho
            cases lc with
            | zero => have := (body_zero.1 hb).1; simpa using this
            | succ lc => exact (body_succ.1 hb).1
          refine wp_seq ?_
          refine wp_seq ?_
          refine wp_region_lit ?_
          have hE := Env.refl a85 [58, 59, 60, 61, 62, 63, 64, 65]
          apply sq_det 58 hE k rfl (by rfl) (by rfl) rfl
          case h =>
            exact x_move rfl (hE.eval 12 (by rfl) e12)
          intro a98 hE e58 kp
          apply sq_det 59 hE k rfl (by rfl) (by rfl) rfl
          case h =>
            exact x_dec (x_neq rfl e58 rfl) (decide_eq_false (by omega))
          intro a99 hE e59 kp
          apply sq_det 60 hE k rfl (by rfl) (by rfl) rfl
          case h =>
            exact x_move rfl e59
          intro a100 hE e60 kp
          apply sq_detg 61 hE k rfl (by rfl) (by rfl) rfl rfl e60
          case h =>
            simp [go_sem, ↓IntWalk.iteOmega, ev (hE.eval 9 (by rfl) e9)]
            with_reducible rfl
          intro a101 hE e61 kp
          replace e60 := (kp 60 rfl).trans e60
          apply sq_detg 62 hE k rfl (by rfl) (by rfl) rfl rfl e60
          case h =>
            have q0 : w46.cell? ⟨nb, 1, none⟩ = some (.slice Bo os.length co) := (OwnT.blk O 4 rfl).cell 1
            simp [go_sem, ↓IntWalk.iteOmega, ev e61, q0]
            with_reducible rfl
          intro a102 hE e62 kp
          replace e60 := (kp 60 rfl).trans e60
          apply sq_detg 63 hE k rfl (by rfl) (by rfl) rfl rfl e60
          case h =>
            exact x_len Try.underlying29 rfl e62
          intro a103 hE e63 kp
          replace e60 := (kp 60 rfl).trans e60
          apply sq_detg 64 hE k rfl (by rfl) (by rfl) rfl rfl e60
          case h =>
            exact x_dec (x_eql rfl e63 rfl) (decide_eq_true (by omega))
          intro a104 hE e64 kp
          replace e60 := (kp 60 rfl).trans e60
          apply sq_det 65 hE k rfl (by rfl) (by rfl) rfl
          case h =>
            exact x_pick_f rfl e60 e64
          intro a105 hE e65 kp
          refine wpList_nil ?_
          replace e0 := hE.eval 0 (by rfl) e0
          replace e9 := hE.eval 9 (by rfl) e9
          replace e12 := hE.eval 12 (by rfl) e12
          replace k := k.env hE
          clear hE e39
          refine then_n ?_
          refine cond_t e65 rfl ?_
          refine wp_seq ?_
          refine wp_region_lit ?_
          have hE := Env.refl a105 [66, 6, 7, 8]
          apply sq_det 66 hE k rfl (by rfl) (by rfl) rfl
          case h =>
            exact x_move rfl (hE.eval 12 (by rfl) e12)
          intro a106 hE e66 kp
          apply sq_det 6 hE k rfl (by rfl) (by rfl) rfl
          case h =>
            exact x_assign rfl e66
          intro a107 hE e6 kp
          apply sq_det 7 hE k rfl (by rfl) (by rfl) rfl
          case h =>
            exact x_assign rfl rfl
          intro a108 hE e7 kp
          replace e6 := (kp 6 rfl).trans e6
          apply sq_det 8 hE k rfl (by rfl) (by rfl) rfl
          case h =>
            exact x_assign rfl rfl
          intro a109 hE e8 kp
          replace e6 := (kp 6 rfl).trans e6
          replace e7 := (kp 7 rfl).trans e7
          refine wpList_nil ?_
          replace k := k.env hE
          clear hE e0 e9 e12 e65
          refine then_n ?_
          refine wp_ret ?_
          refine then_r ?_
          refine ret_F3 rfl k e6 e7 e8 ?_
          exact ⟨N1, (0 : Nat), true, 0, B1, cap1, vs1, rfl, OwnT.pickR (L := [_, _, _, _, _]) (R := R) O [0, 1, 2] (by decide), .inr (.inr ⟨rfl, rfl, hls, ⟨M1, hM1, by omega⟩, 0, L', [], rfl, ⟨.inl ⟨rfl, hL', rfl⟩, hup, List.nodup_nil, hwf⟩, hfl, hph⟩)⟩
        · have hol := List.length_pos_iff.2 ho
          refine wp_seq ?_
          refine wp_seq ?_
          refine wp_region_lit ?_
          have hE := Env.refl a85 [58, 59, 60, 61, 62, 63, 64, 65]
          apply sq_det 58 hE k rfl (by rfl) (by rfl) rfl
          case h =>
            exact x_move rfl (hE.eval 12 (by rfl) e12)
          intro a110 hE e58 kp
          apply sq_det 59 hE k rfl (by rfl) (by rfl) rfl
          case h =>
            exact x_dec (x_neq rfl e58 rfl) (decide_eq_false (by omega))
          intro a111 hE e59 kp
          apply sq_det 60 hE k rfl (by rfl) (by rfl) rfl
          case h =>
            exact x_move rfl e59
          intro a112 hE e60 kp
          apply sq_detg 61 hE k rfl (by rfl) (by rfl) rfl rfl e60
          case h =>
            simp [go_sem, ↓IntWalk.iteOmega, ev (hE.eval 9 (by rfl) e9)]
            with_reducible rfl
          intro a113 hE e61 kp
          replace e60 := (kp 60 rfl).trans e60
          apply sq_detg 62 hE k rfl (by rfl) (by rfl) rfl rfl e60
          case h =>
            have q0 : w46.cell? ⟨nb, 1, none⟩ = some (.slice Bo os.length co) := (OwnT.blk O 4 rfl).cell 1
            simp [go_sem, ↓IntWalk.iteOmega, ev e61, q0]
            with_reducible rfl
          intro a114 hE e62 kp
          replace e60 := (kp 60 rfl).trans e60
          apply sq_detg 63 hE k rfl (by rfl) (by rfl) rfl rfl e60
          case h =>
            exact x_len Try.underlying29 rfl e62
          intro a115 hE e63 kp
          replace e60 := (kp 60 rfl).trans e60
          apply sq_detg 64 hE k rfl (by rfl) (by rfl) rfl rfl e60
          case h =>
            exact x_dec (x_eql rfl e63 rfl) (decide_eq_false (by omega))
          intro a116 hE e64 kp
          replace e60 := (kp 60 rfl).trans e60
          apply sq_det 65 hE k rfl (by rfl) (by rfl) rfl
          case h =>
            exact x_pick_f rfl e60 e64
          intro a117 hE e65 kp
          refine wpList_nil ?_
          replace e0 := hE.eval 0 (by rfl) e0
          replace e9 := hE.eval 9 (by rfl) e9
          replace e12 := hE.eval 12 (by rfl) e12
          replace k := k.env hE
          clear hE e39
          refine then_n ?_
          refine cond_f e65 rfl ?_
          refine wp_skip ?_
          refine then_n ?_
          by_cases hf : N1.length < 511 ∧ (N1.length : Int) < room
          · skip
            refine wp_seq ?_
            refine wp_region_lit ?_
            have hE := Env.refl a117 [68, 69, 70, 67, 71, 72, 12, 11]
            apply sq_det 68 hE k rfl (by rfl) (by rfl) rfl
            case h =>
              exact x_move rfl (hE.eval 0 (by rfl) e0)
            intro a118 hE e68 kp
            apply sq_det 69 hE k rfl (by rfl) (by rfl) rfl
            case h =>
              have q0 : w46.cell? ⟨nb, 0, none⟩ = some (.int .i64 ↑lc) := (OwnT.blk O 4 rfl).cell 0
              have q1 : w46.cell? ⟨nb, 1, none⟩ = some (.slice Bo os.length co) := (OwnT.blk O 4 rfl).cell 1
              simp [go_sem, ↓IntWalk.iteOmega, ev (hE.eval 9 (by rfl) e9), q0, q1]
              with_reducible rfl
            intro a119 hE e69 kp
            replace e68 := (kp 68 rfl).trans e68
            apply sq_call 70 hE k rfl (by rfl) (by rfl) rfl
            case h =>
              exact x_inv rfl e68 e69 (call_add _ _ _)
            case hc => exact sadd_ok (R := _ :: _ :: R) os _ O (by omega) hf hrow hc4 (by omega)
            clear O
            rintro e w121 ⟨rfl, B2, cap2, vs2, O⟩
            refine ⟨_, rfl, ?_⟩
            intro a120 hE e70 kp
            apply sq_det 67 hE k rfl (by rfl) (by rfl) rfl
            case h =>
              exact x_move rfl e70
            intro a122 hE e67 kp
            apply sq_det 71 hE k rfl (by rfl) (by rfl) rfl
            case h =>
              simp [go_sem, ↓IntWalk.iteOmega, ev e67]
              with_reducible rfl
            intro a123 hE e71 kp
            replace e67 := (kp 67 rfl).trans e67
            apply sq_det 72 hE k rfl (by rfl) (by rfl) rfl
            case h =>
              simp [go_sem, ↓IntWalk.iteOmega, ev e67]
              with_reducible rfl
            intro a124 hE e72 kp
            replace e71 := (kp 71 rfl).trans e71
            apply sq_det 12 hE k rfl (by rfl) (by rfl) rfl
            case h =>
              exact x_assign rfl e71
            intro a125 hE e12 kp
            replace e72 := (kp 72 rfl).trans e72
            apply sq_det 11 hE k rfl (by rfl) (by rfl) rfl
            case h =>
              exact x_assign rfl e72
            intro a126 hE e11 kp
            replace e12 := (kp 12 rfl).trans e12
            refine wpList_nil ?_
            replace k := k.env hE
            clear hE e0 e9 e65
            refine then_n ?_
            refine wp_seq ?_
            refine wp_region_lit ?_
            have hE := Env.refl a126 [73, 74, 75, 76, 6, 7, 8]
            apply sq_det 73 hE k rfl (by rfl) (by rfl) rfl
            case h =>
              exact x_move rfl (hE.eval 12 (by rfl) e12)
            intro a127 hE e73 kp
            apply sq_det 74 hE k rfl (by rfl) (by rfl) rfl
            case h =>
              exact x_move rfl (hE.eval 11 (by rfl) e11)
            intro a128 hE e74 kp
            replace e73 := (kp 73 rfl).trans e73
            apply sq_det 75 hE k rfl (by rfl) (by rfl) rfl
            case h =>
              exact x_eql rfl e74 rfl
            intro a129 hE e75 kp
            replace e73 := (kp 73 rfl).trans e73
            apply sq_det 76 hE k rfl (by rfl) (by rfl) rfl
            case h =>
              exact x_move rfl (hE.eval 11 (by rfl) e11)
            intro a130 hE e76 kp
            replace e73 := (kp 73 rfl).trans e73
            replace e75 := (kp 75 rfl).trans e75
            apply sq_det 6 hE k rfl (by rfl) (by rfl) rfl
            case h =>
              exact x_assign rfl e73
            intro a131 hE e6 kp
            replace e75 := (kp 75 rfl).trans e75
            replace e76 := (kp 76 rfl).trans e76
            apply sq_det 7 hE k rfl (by rfl) (by rfl) rfl
            case h =>
              exact x_assign rfl e75
            intro a132 hE e7 kp
            replace e76 := (kp 76 rfl).trans e76
            replace e6 := (kp 6 rfl).trans e6
            apply sq_det 8 hE k rfl (by rfl) (by rfl) rfl
            case h =>
              exact x_assign rfl e76
            intro a133 hE e8 kp
            replace e6 := (kp 6 rfl).trans e6
            replace e7 := (kp 7 rfl).trans e7
            refine wpList_nil ?_
            replace k := k.env hE
            clear hE e11 e12
            refine then_n ?_
            refine wp_ret ?_
            have hTn : Tr (N1 ++ [(lc, os)]) lc (N1.length + 1) L' ((N1.length + 1) :: h') := node_new hb ho hos (ndAt_new N1 _ [])
            have hpg2 := hb.pages
            refine ret_F3 rfl k e6 e7 e8 ?_
            exact ⟨N1 ++ [(lc, os)], ((N1.length + 1 : Nat) : Int), true, 0, B2, cap2, vs2, rfl, OwnT.pickR (L := [_, _, _, _, _]) (R := R) O [0, 1, 2] (by decide), .inr (.inr ⟨rfl, rfl, hls, ⟨M1 ++ [(lc, os)], by rw [hM1, List.append_assoc], by rw [List.length_append]; simp; omega⟩, N1.length + 1, L', _, rfl, ⟨.inr ⟨lc, by omega, hTn, fun h0 => ⟨os, ndAt_new N1 _ [], by omega⟩⟩, hup, List.nodup_cons.2 ⟨fun h => by have := (hpg2 _ h).2; omega, hnd⟩, hwf⟩, hfl, hph⟩)⟩
          · skip
            refine wp_seq ?_
            refine wp_region_lit ?_
            have hE := Env.refl a117 [68, 69, 70, 67, 71, 72, 12, 11]
            apply sq_det 68 hE k rfl (by rfl) (by rfl) rfl
            case h =>
              exact x_move rfl (hE.eval 0 (by rfl) e0)
            intro a134 hE e68 kp
            apply sq_det 69 hE k rfl (by rfl) (by rfl) rfl
            case h =>
              have q0 : w46.cell? ⟨nb, 0, none⟩ = some (.int .i64 ↑lc) := (OwnT.blk O 4 rfl).cell 0
              have q1 : w46.cell? ⟨nb, 1, none⟩ = some (.slice Bo os.length co) := (OwnT.blk O 4 rfl).cell 1
              simp [go_sem, ↓IntWalk.iteOmega, ev (hE.eval 9 (by rfl) e9), q0, q1]
              with_reducible rfl
            intro a135 hE e69 kp
            replace e68 := (kp 68 rfl).trans e68
            apply sq_call 70 hE k rfl (by rfl) (by rfl) rfl
            case h =>
              exact x_inv rfl e68 e69 (call_add _ _ _)
            case hc => exact sadd_full (R := _ :: _ :: R) os _ O (by omega) hf
            clear O
            rintro e w137 ⟨rfl, O⟩
            refine ⟨_, rfl, ?_⟩
            intro a136 hE e70 kp
            apply sq_det 67 hE k rfl (by rfl) (by rfl) rfl
            case h =>
              exact x_move rfl e70
            intro a138 hE e67 kp
            apply sq_det 71 hE k rfl (by rfl) (by rfl) rfl
            case h =>
              simp [go_sem, ↓IntWalk.iteOmega, ev e67]
              with_reducible rfl
            intro a139 hE e71 kp
            replace e67 := (kp 67 rfl).trans e67
            apply sq_det 72 hE k rfl (by rfl) (by rfl) rfl
            case h =>
              simp [go_sem, ↓IntWalk.iteOmega, ev e67]
              with_reducible rfl
            intro a140 hE e72 kp
            replace e71 := (kp 71 rfl).trans e71
            apply sq_det 12 hE k rfl (by rfl) (by rfl) rfl
            case h =>
              exact x_assign rfl e71
            intro a141 hE e12 kp
            replace e72 := (kp 72 rfl).trans e72
            apply sq_det 11 hE k rfl (by rfl) (by rfl) rfl
            case h =>
              exact x_assign rfl e72
            intro a142 hE e11 kp
            replace e12 := (kp 12 rfl).trans e12
            refine wpList_nil ?_
            replace k := k.env hE
            clear hE e0 e9 e65
            refine then_n ?_
            refine wp_seq ?_
            refine wp_region_lit ?_
            have hE := Env.refl a142 [73, 74, 75, 76, 6, 7, 8]
            apply sq_det 73 hE k rfl (by rfl) (by rfl) rfl
            case h =>
              exact x_move rfl (hE.eval 12 (by rfl) e12)
            intro a143 hE e73 kp
            apply sq_det 74 hE k rfl (by rfl) (by rfl) rfl
            case h =>
              exact x_move rfl (hE.eval 11 (by rfl) e11)
            intro a144 hE e74 kp
            replace e73 := (kp 73 rfl).trans e73
            apply sq_det 75 hE k rfl (by rfl) (by rfl) rfl
            case h =>
              exact x_eql rfl e74 rfl
            intro a145 hE e75 kp
            replace e73 := (kp 73 rfl).trans e73
            apply sq_det 76 hE k rfl (by rfl) (by rfl) rfl
            case h =>
              exact x_move rfl (hE.eval 11 (by rfl) e11)
            intro a146 hE e76 kp
            replace e73 := (kp 73 rfl).trans e73
            replace e75 := (kp 75 rfl).trans e75
            apply sq_det 6 hE k rfl (by rfl) (by rfl) rfl
            case h =>
              exact x_assign rfl e73
            intro a147 hE e6 kp
            replace e75 := (kp 75 rfl).trans e75
            replace e76 := (kp 76 rfl).trans e76
            apply sq_det 7 hE k rfl (by rfl) (by rfl) rfl
            case h =>
              exact x_assign rfl e75
            intro a148 hE e7 kp
            replace e76 := (kp 76 rfl).trans e76
            replace e6 := (kp 6 rfl).trans e6
            apply sq_det 8 hE k rfl (by rfl) (by rfl) rfl
            case h =>
              exact x_assign rfl e76
            intro a149 hE e8 kp
            replace e6 := (kp 6 rfl).trans e6
            replace e7 := (kp 7 rfl).trans e7
            refine wpList_nil ?_
            replace k := k.env hE
            clear hE e11 e12
            refine then_n ?_
            refine wp_ret ?_
            refine ret_F3 rfl k e6 e7 e8 ?_
            exact ⟨N1, 0, false, 6, B1, cap1, vs1, rfl, OwnT.pickR (L := [_, _, _, _, _]) (R := R) O [0, 1, 2] (by decide), .inr (.inl ⟨rfl, rfl, rfl, hls, ⟨M1, hM1, by omega⟩, fun h => hf (by omega)⟩)⟩
      · skip
        refine wp_seq ?_
        refine wp_seq ?_
        refine wp_region_lit ?_
        have hE := Env.refl a45 [31, 32, 33, 34, 35, 36, 37, 38, 39]
        apply sq_det 31 hE k rfl (by rfl) (by rfl) rfl
        case h =>
          simp [go_sem, ↓IntWalk.iteOmega, ev (hE.eval 9 (by rfl) e9)]
          with_reducible rfl
        intro a150 hE e31 kp
        apply sq_det 32 hE k rfl (by rfl) (by rfl) rfl
        case h =>
          have q0 : w46.cell? ⟨nb, 0, none⟩ = some (.int .i64 ↑lc) := (OwnT.blk O 4 rfl).cell 0
          simp [go_sem, ↓IntWalk.iteOmega, ev e31, q0]
          with_reducible rfl
        intro a151 hE e32 kp
        apply sq_det 33 hE k rfl (by rfl) (by rfl) rfl
        case h =>
          exact x_dec (x_gtr rfl e32 rfl) (decide_eq_false (by omega))
        intro a152 hE e33 kp
        apply sq_det 34 hE k rfl (by rfl) (by rfl) rfl
        case h =>
          exact x_move rfl e33
        intro a153 hE e34 kp
        refine sq_skipg 35 hE k rfl (by rfl) (by rfl) rfl rfl (.inl e34) ?_
        intro a154 hE e35 kp
        replace e34 := (kp 34 rfl).trans e34
        refine sq_skipg 36 hE k rfl (by rfl) (by rfl) rfl rfl (.inl e34) ?_
        intro a155 hE e36 kp
        replace e34 := (kp 34 rfl).trans e34
        refine sq_skipg 37 hE k rfl (by rfl) (by rfl) rfl rfl (.inl e34) ?_
        intro a156 hE e37 kp
        replace e34 := (kp 34 rfl).trans e34
        refine sq_skipg 38 hE k rfl (by rfl) (by rfl) rfl rfl (.inl e34) ?_
        intro a157 hE e38 kp
        replace e34 := (kp 34 rfl).trans e34
        apply sq_det 39 hE k rfl (by rfl) (by rfl) rfl
        case h =>
          exact x_pick_f rfl e34 rfl
        intro a158 hE e39 kp
        refine wpList_nil ?_
        replace e0 := hE.eval 0 (by rfl) e0
        replace e9 := hE.eval 9 (by rfl) e9
        replace e12 := hE.eval 12 (by rfl) e12
        replace k := k.env hE
        clear hE
        refine then_n ?_
        refine cond_f e39 rfl ?_
        refine wp_exit ?_
        refine then_x ?_
        refine then_x ?_
        refine block_x ?_
        refine then_n ?_
        by_cases hp0 : pg = 0
        rotate_left
        · skip
          refine wp_seq ?_
          refine wp_seq ?_
          refine wp_region_lit ?_
          have hE := Env.refl a158 [58, 59, 60, 61, 62, 63, 64, 65]
          apply sq_det 58 hE k rfl (by rfl) (by rfl) rfl
          case h =>
            exact x_move rfl (hE.eval 12 (by rfl) e12)
          intro a159 hE e58 kp
          apply sq_det 59 hE k rfl (by rfl) (by rfl) rfl
          case h =>
            exact x_dec (x_neq rfl e58 rfl) (decide_eq_true (by omega))
          intro a160 hE e59 kp
          apply sq_det 60 hE k rfl (by rfl) (by rfl) rfl
          case h =>
            exact x_move rfl e59
          intro a161 hE e60 kp
          refine sq_skipg 61 hE k rfl (by rfl) (by rfl) rfl rfl (.inl e60) ?_
          intro a162 hE e61 kp
          replace e60 := (kp 60 rfl).trans e60
          refine sq_skipg 62 hE k rfl (by rfl) (by rfl) rfl rfl (.inl e60) ?_
          intro a163 hE e62 kp
          replace e60 := (kp 60 rfl).trans e60
          refine sq_skipg 63 hE k rfl (by rfl) (by rfl) rfl rfl (.inl e60) ?_
          intro a164 hE e63 kp
          replace e60 := (kp 60 rfl).trans e60
          refine sq_skipg 64 hE k rfl (by rfl) (by rfl) rfl rfl (.inl e60) ?_
          intro a165 hE e64 kp
          replace e60 := (kp 60 rfl).trans e60
          apply sq_det 65 hE k rfl (by rfl) (by rfl) rfl
          case h =>
            exact x_pick_t rfl e60 rfl
          intro a166 hE e65 kp
          refine wpList_nil ?_
          replace e0 := hE.eval 0 (by rfl) e0
          replace e9 := hE.eval 9 (by rfl) e9
          replace e12 := hE.eval 12 (by rfl) e12
          replace k := k.env hE
          clear hE e39
          refine then_n ?_
          refine cond_t e65 rfl ?_
          refine wp_seq ?_
          refine wp_region_lit ?_
          have hE := Env.refl a166 [66, 6, 7, 8]
          apply sq_det 66 hE k rfl (by rfl) (by rfl) rfl
          case h =>
            exact x_move rfl (hE.eval 12 (by rfl) e12)
          intro a167 hE e66 kp
          apply sq_det 6 hE k rfl (by rfl) (by rfl) rfl
          case h =>
            exact x_assign rfl e66
          intro a168 hE e6 kp
          apply sq_det 7 hE k rfl (by rfl) (by rfl) rfl
          case h =>
            exact x_assign rfl rfl
          intro a169 hE e7 kp
          replace e6 := (kp 6 rfl).trans e6
          apply sq_det 8 hE k rfl (by rfl) (by rfl) rfl
          case h =>
            exact x_assign rfl rfl
          intro a170 hE e8 kp
          replace e6 := (kp 6 rfl).trans e6
          replace e7 := (kp 7 rfl).trans e7
          refine wpList_nil ?_
          replace k := k.env hE
          clear hE e0 e9 e12 e65
          refine then_n ?_
          refine wp_ret ?_
          refine then_r ?_
          obtain ⟨hn1, hn2, hn3⟩ := hpgn hp0
          refine ret_F3 rfl k e6 e7 e8 ?_
          exact ⟨N1, pg, true, 0, B1, cap1, vs1, rfl, OwnT.pickR (L := [_, _, _, _, _]) (R := R) O [0, 1, 2] (by decide), .inr (.inr ⟨rfl, rfl, hls, ⟨M1, hM1, by omega⟩, pg, L', pg :: h', rfl, ⟨.inr ⟨lc, by omega, Tr_iff.2 ⟨os, h', hn1, hn2, hos, hb, rfl⟩, fun h0 => ⟨os, hn1, by have := List.length_pos_iff.2 hn2; omega⟩⟩, hup, List.nodup_cons.2 ⟨hn3, hnd⟩, hwf⟩, hfl, hph⟩)⟩
        subst hp0
        by_cases ho : os = []
        · have hol : os.length = 0 := by rw [ho]; rfl
          have hL' : L' = [] := by
            subst ho
            cases lc with
            | zero => have := (body_zero.1 hb).1; simpa using this
            | succ lc => exact (body_succ.1 hb).1
          refine wp_seq ?_
          refine wp_seq ?_
          refine wp_region_lit ?_
          have hE := Env.refl a158 [58, 59, 60, 61, 62, 63, 64, 65]
          apply sq_det 58 hE k rfl (by rfl) (by rfl) rfl
          case h =>
            exact x_move rfl (hE.eval 12 (by rfl) e12)
          intro a171 hE e58 kp
          apply sq_det 59 hE k rfl (by rfl) (by rfl) rfl
          case h =>
            exact x_dec (x_neq rfl e58 rfl) (decide_eq_false (by omega))
          intro a172 hE e59 kp
          apply sq_det 60 hE k rfl (by rfl) (by rfl) rfl
          case h =>
            exact x_move rfl e59
          intro a173 hE e60 kp
          apply sq_detg 61 hE k rfl (by rfl) (by rfl) rfl rfl e60
          case h =>
            simp [go_sem, ↓IntWalk.iteOmega, ev (hE.eval 9 (by rfl) e9)]
            with_reducible rfl
          intro a174 hE e61 kp
          replace e60 := (kp 60 rfl).trans e60
          apply sq_detg 62 hE k rfl (by rfl) (by rfl) rfl rfl e60
          case h =>
            have q0 : w46.cell? ⟨nb, 1, none⟩ = some (.slice Bo os.length co) := (OwnT.blk O 4 rfl).cell 1
            simp [go_sem, ↓IntWalk.iteOmega, ev e61, q0]
            with_reducible rfl
          intro a175 hE e62 kp
          replace e60 := (kp 60 rfl).trans e60
          apply sq_detg 63 hE k rfl (by rfl) (by rfl) rfl rfl e60
          case h =>
            exact x_len Try.underlying29 rfl e62
          intro a176 hE e63 kp
          replace e60 := (kp 60 rfl).trans e60
          apply sq_detg 64 hE k rfl (by rfl) (by rfl) rfl rfl e60
          case h =>
            exact x_dec (x_eql rfl e63 rfl) (decide_eq_true (by omega))
          intro a177 hE e64 kp
          replace e60 := (kp 60 rfl).trans e60
          apply sq_det 65 hE k rfl (by rfl) (by rfl) rfl
          case h =>
            exact x_pick_f rfl e60 e64
          intro a178 hE e65 kp
          refine wpList_nil ?_
          replace e0 := hE.eval 0 (by rfl) e0
          replace e9 := hE.eval 9 (by rfl) e9
          replace e12 := hE.eval 12 (by rfl) e12
          replace k := k.env hE
          clear hE e39
          refine then_n ?_
          refine cond_t e65 rfl ?_
          refine wp_seq ?_
          refine wp_region_lit ?_
          have hE := Env.refl a178 [66, 6, 7, 8]
          apply sq_det 66 hE k rfl (by rfl) (by rfl) rfl
          case h =>
            exact x_move rfl (hE.eval 12 (by rfl) e12)
          intro a179 hE e66 kp
          apply sq_det 6 hE k rfl (by rfl) (by rfl) rfl
          case h =>
            exact x_assign rfl e66
          intro a180 hE e6 kp
          apply sq_det 7 hE k rfl (by rfl) (by rfl) rfl
          case h =>
            exact x_assign rfl rfl
          intro a181 hE e7 kp
          replace e6 := (kp 6 rfl).trans e6
          apply sq_det 8 hE k rfl (by rfl) (by rfl) rfl
          case h =>
            exact x_assign rfl rfl
          intro a182 hE e8 kp
          replace e6 := (kp 6 rfl).trans e6
          replace e7 := (kp 7 rfl).trans e7
          refine wpList_nil ?_
          replace k := k.env hE
          clear hE e0 e9 e12 e65
          refine then_n ?_
          refine wp_ret ?_
          refine then_r ?_
          refine ret_F3 rfl k e6 e7 e8 ?_
          exact ⟨N1, (0 : Nat), true, 0, B1, cap1, vs1, rfl, OwnT.pickR (L := [_, _, _, _, _]) (R := R) O [0, 1, 2] (by decide), .inr (.inr ⟨rfl, rfl, hls, ⟨M1, hM1, by omega⟩, 0, L', [], rfl, ⟨.inl ⟨rfl, hL', rfl⟩, hup, List.nodup_nil, hwf⟩, hfl, hph⟩)⟩
        · have hol := List.length_pos_iff.2 ho
          refine wp_seq ?_
          refine wp_seq ?_
          refine wp_region_lit ?_
          have hE := Env.refl a158 [58, 59, 60, 61, 62, 63, 64, 65]
          apply sq_det 58 hE k rfl (by rfl) (by rfl) rfl
          case h =>
            exact x_move rfl (hE.eval 12 (by rfl) e12)
          intro a183 hE e58 kp
          apply sq_det 59 hE k rfl (by rfl) (by rfl) rfl
          case h =>
            exact x_dec (x_neq rfl e58 rfl) (decide_eq_false (by omega))
          intro a184 hE e59 kp
          apply sq_det 60 hE k rfl (by rfl) (by rfl) rfl
          case h =>
            exact x_move rfl e59
          intro a185 hE e60 kp
          apply sq_detg 61 hE k rfl (by rfl) (by rfl) rfl rfl e60
          case h =>
            simp [go_sem, ↓IntWalk.iteOmega, ev (hE.eval 9 (by rfl) e9)]
            with_reducible rfl
          intro a186 hE e61 kp
          replace e60 := (kp 60 rfl).trans e60
          apply sq_detg 62 hE k rfl (by rfl) (by rfl) rfl rfl e60
          case h =>
            have q0 : w46.cell? ⟨nb, 1, none⟩ = some (.slice Bo os.length co) := (OwnT.blk O 4 rfl).cell 1
            simp [go_sem, ↓IntWalk.iteOmega, ev e61, q0]
            with_reducible rfl
          intro a187 hE e62 kp
          replace e60 := (kp 60 rfl).trans e60
          apply sq_detg 63 hE k rfl (by rfl) (by rfl) rfl rfl e60
          case h =>
            exact x_len Try.underlying29 rfl e62
          intro a188 hE e63 kp
          replace e60 := (kp 60 rfl).trans e60
          apply sq_detg 64 hE k rfl (by rfl) (by rfl) rfl rfl e60
          case h =>
            exact x_dec (x_eql rfl e63 rfl) (decide_eq_false (by omega))
          intro a189 hE e64 kp
          replace e60 := (kp 60 rfl).trans e60
          apply sq_det 65 hE k rfl (by rfl) (by rfl) rfl
          case h =>
            exact x_pick_f rfl e60 e64
          intro a190 hE e65 kp
          refine wpList_nil ?_
          replace e0 := hE.eval 0 (by rfl) e0
          replace e9 := hE.eval 9 (by rfl) e9
          replace e12 := hE.eval 12 (by rfl) e12
          replace k := k.env hE
          clear hE e39
          refine then_n ?_
          refine cond_f e65 rfl ?_
          refine wp_skip ?_
          refine then_n ?_
          by_cases hf : N1.length < 511 ∧ (N1.length : Int) < room
          · skip
            refine wp_seq ?_
            refine wp_region_lit ?_
            have hE := Env.refl a190 [68, 69, 70, 67, 71, 72, 12, 11]
            apply sq_det 68 hE k rfl (by rfl) (by rfl) rfl
            case h =>
              exact x_move rfl (hE.eval 0 (by rfl) e0)
            intro a191 hE e68 kp
            apply sq_det 69 hE k rfl (by rfl) (by rfl) rfl
            case h =>
              have q0 : w46.cell? ⟨nb, 0, none⟩ = some (.int .i64 ↑lc) := (OwnT.blk O 4 rfl).cell 0
              have q1 : w46.cell? ⟨nb, 1, none⟩ = some (.slice Bo os.length co) := (OwnT.blk O 4 rfl).cell 1
              simp [go_sem, ↓IntWalk.iteOmega, ev (hE.eval 9 (by rfl) e9), q0, q1]
              with_reducible rfl
            intro a192 hE e69 kp
            replace e68 := (kp 68 rfl).trans e68
            apply sq_call 70 hE k rfl (by rfl) (by rfl) rfl
            case h =>
              exact x_inv rfl e68 e69 (call_add _ _ _)
            case hc => exact sadd_ok (R := _ :: _ :: R) os _ O (by omega) hf hrow hc4 (by omega)
            clear O
            rintro e w194 ⟨rfl, B2, cap2, vs2, O⟩
            refine ⟨_, rfl, ?_⟩
            intro a193 hE e70 kp
            apply sq_det 67 hE k rfl (by rfl) (by rfl) rfl
            case h =>
              exact x_move rfl e70
            intro a195 hE e67 kp
            apply sq_det 71 hE k rfl (by rfl) (by rfl) rfl
            case h =>
              simp [go_sem, ↓IntWalk.iteOmega, ev e67]
              with_reducible rfl
            intro a196 hE e71 kp
            replace e67 := (kp 67 rfl).trans e67
            apply sq_det 72 hE k rfl (by rfl) (by rfl) rfl
            case h =>
              simp [go_sem, ↓IntWalk.iteOmega, ev e67]
              with_reducible rfl
            intro a197 hE e72 kp
            replace e71 := (kp 71 rfl).trans e71
            apply sq_det 12 hE k rfl (by rfl) (by rfl) rfl
            case h =>
              exact x_assign rfl e71
            intro a198 hE e12 kp
            replace e72 := (kp 72 rfl).trans e72
            apply sq_det 11 hE k rfl (by rfl) (by rfl) rfl
            case h =>
              exact x_assign rfl e72
            intro a199 hE e11 kp
            replace e12 := (kp 12 rfl).trans e12
            refine wpList_nil ?_
            replace k := k.env hE
            clear hE e0 e9 e65
            refine then_n ?_
            refine wp_seq ?_
            refine wp_region_lit ?_
            have hE := Env.refl a199 [73, 74, 75, 76, 6, 7, 8]
            apply sq_det 73 hE k rfl (by rfl) (by rfl) rfl
            case h =>
              exact x_move rfl (hE.eval 12 (by rfl) e12)
            intro a200 hE e73 kp
            apply sq_det 74 hE k rfl (by rfl) (by rfl) rfl
            case h =>
              exact x_move rfl (hE.eval 11 (by rfl) e11)
            intro a201 hE e74 kp
            replace e73 := (kp 73 rfl).trans e73
            apply sq_det 75 hE k rfl (by rfl) (by rfl) rfl
            case h =>
              exact x_eql rfl e74 rfl
            intro a202 hE e75 kp
            replace e73 := (kp 73 rfl).trans e73
            apply sq_det 76 hE k rfl (by rfl) (by rfl) rfl
            case h =>
              exact x_move rfl (hE.eval 11 (by rfl) e11)
            intro a203 hE e76 kp
            replace e73 := (kp 73 rfl).trans e73
            replace e75 := (kp 75 rfl).trans e75
            apply sq_det 6 hE k rfl (by rfl) (by rfl) rfl
            case h =>
              exact x_assign rfl e73
            intro a204 hE e6 kp
            replace e75 := (kp 75 rfl).trans e75
            replace e76 := (kp 76 rfl).trans e76
            apply sq_det 7 hE k rfl (by rfl) (by rfl) rfl
            case h =>
              exact x_assign rfl e75
            intro a205 hE e7 kp
            replace e76 := (kp 76 rfl).trans e76
            replace e6 := (kp 6 rfl).trans e6
            apply sq_det 8 hE k rfl (by rfl) (by rfl) rfl
            case h =>
              exact x_assign rfl e76
            intro a206 hE e8 kp
            replace e6 := (kp 6 rfl).trans e6
            replace e7 := (kp 7 rfl).trans e7
            refine wpList_nil ?_
            replace k := k.env hE
            clear hE e11 e12
            refine then_n ?_
            refine wp_ret ?_
            have hTn : Tr (N1 ++ [(lc, os)]) lc (N1.length + 1) L' ((N1.length + 1) :: h') := node_new hb ho hos (ndAt_new N1 _ [])
            have hpg2 := hb.pages
            refine ret_F3 rfl k e6 e7 e8 ?_
            exact ⟨N1 ++ [(lc, os)], ((N1.length + 1 : Nat) : Int), true, 0, B2, cap2, vs2, rfl, OwnT.pickR (L := [_, _, _, _, _]) (R := R) O [0, 1, 2] (by decide), .inr (.inr ⟨rfl, rfl, hls, ⟨M1 ++ [(lc, os)], by rw [hM1, List.append_assoc], by rw [List.length_append]; simp; omega⟩, N1.length + 1, L', _, rfl, ⟨.inr ⟨lc, by omega, hTn, fun h0 => ⟨os, ndAt_new N1 _ [], by omega⟩⟩, hup, List.nodup_cons.2 ⟨fun h => by have := (hpg2 _ h).2; omega, hnd⟩, hwf⟩, hfl, hph⟩)⟩
          · skip
            refine wp_seq ?_
            refine wp_region_lit ?_
            have hE := Env.refl a190 [68, 69, 70, 67, 71, 72, 12, 11]
            apply sq_det 68 hE k rfl (by rfl) (by rfl) rfl
            case h =>
              exact x_move rfl (hE.eval 0 (by rfl) e0)
            intro a207 hE e68 kp
            apply sq_det 69 hE k rfl (by rfl) (by rfl) rfl
            case h =>
              have q0 : w46.cell? ⟨nb, 0, none⟩ = some (.int .i64 ↑lc) := (OwnT.blk O 4 rfl).cell 0
              have q1 : w46.cell? ⟨nb, 1, none⟩ = some (.slice Bo os.length co) := (OwnT.blk O 4 rfl).cell 1
              simp [go_sem, ↓IntWalk.iteOmega, ev (hE.eval 9 (by rfl) e9), q0, q1]
              with_reducible rfl
            intro a208 hE e69 kp
            replace e68 := (kp 68 rfl).trans e68
            apply sq_call 70 hE k rfl (by rfl) (by rfl) rfl
            case h =>
              exact x_inv rfl e68 e69 (call_add _ _ _)
            case hc => exact sadd_full (R := _ :: _ :: R) os _ O (by omega) hf
            clear O
            rintro e w210 ⟨rfl, O⟩
            refine ⟨_, rfl, ?_⟩
            intro a209 hE e70 kp
            apply sq_det 67 hE k rfl (by rfl) (by rfl) rfl
            case h =>
              exact x_move rfl e70
            intro a211 hE e67 kp
            apply sq_det 71 hE k rfl (by rfl) (by rfl) rfl
            case h =>
              simp [go_sem, ↓IntWalk.iteOmega, ev e67]
              with_reducible rfl
            intro a212 hE e71 kp
            replace e67 := (kp 67 rfl).trans e67
            apply sq_det 72 hE k rfl (by rfl) (by rfl) rfl
            case h =>
              simp [go_sem, ↓IntWalk.iteOmega, ev e67]
              with_reducible rfl
            intro a213 hE e72 kp
            replace e71 := (kp 71 rfl).trans e71
            apply sq_det 12 hE k rfl (by rfl) (by rfl) rfl
            case h =>
              exact x_assign rfl e71
            intro a214 hE e12 kp
            replace e72 := (kp 72 rfl).trans e72
            apply sq_det 11 hE k rfl (by rfl) (by rfl) rfl
            case h =>
              exact x_assign rfl e72
            intro a215 hE e11 kp
            replace e12 := (kp 12 rfl).trans e12
            refine wpList_nil ?_
            replace k := k.env hE
            clear hE e0 e9 e65
            refine then_n ?_
            refine wp_seq ?_
            refine wp_region_lit ?_
            have hE := Env.refl a215 [73, 74, 75, 76, 6, 7, 8]
            apply sq_det 73 hE k rfl (by rfl) (by rfl) rfl
            case h =>
              exact x_move rfl (hE.eval 12 (by rfl) e12)
            intro a216 hE e73 kp
            apply sq_det 74 hE k rfl (by rfl) (by rfl) rfl
            case h =>
              exact x_move rfl (hE.eval 11 (by rfl) e11)
            intro a217 hE e74 kp
            replace e73 := (kp 73 rfl).trans e73
            apply sq_det 75 hE k rfl (by rfl) (by rfl) rfl
            case h =>
              exact x_eql rfl e74 rfl
            intro a218 hE e75 kp
            replace e73 := (kp 73 rfl).trans e73
            apply sq_det 76 hE k rfl (by rfl) (by rfl) rfl
            case h =>
              exact x_move rfl (hE.eval 11 (by rfl) e11)
            intro a219 hE e76 kp
            replace e73 := (kp 73 rfl).trans e73
            replace e75 := (kp 75 rfl).trans e75
            apply sq_det 6 hE k rfl (by rfl) (by rfl) rfl
            case h =>
              exact x_assign rfl e73
            intro a220 hE e6 kp
            replace e75 := (kp 75 rfl).trans e75
            replace e76 := (kp 76 rfl).trans e76
            apply sq_det 7 hE k rfl (by rfl) (by rfl) rfl
            case h =>
              exact x_assign rfl e75
            intro a221 hE e7 kp
            replace e76 := (kp 76 rfl).trans e76
            replace e6 := (kp 6 rfl).trans e6
            apply sq_det 8 hE k rfl (by rfl) (by rfl) rfl
            case h =>
              exact x_assign rfl e76
            intro a222 hE e8 kp
            replace e6 := (kp 6 rfl).trans e6
            replace e7 := (kp 7 rfl).trans e7
            refine wpList_nil ?_
            replace k := k.env hE
            clear hE e11 e12
            refine then_n ?_
            refine wp_ret ?_
            refine ret_F3 rfl k e6 e7 e8 ?_
            exact ⟨N1, 0, false, 6, B1, cap1, vs1, rfl, OwnT.pickR (L := [_, _, _, _, _]) (R := R) O [0, 1, 2] (by decide), .inr (.inl ⟨rfl, rfl, rfl, hls, ⟨M1, hM1, by omega⟩, fun h => hf (by omega)⟩)⟩
theorem tDrop {H : Nat} {A0 : World} {R : List Thing} {sb cap : Nat} {room : Int} {B : Option Addr} {vs : List Value} {N : List Nd} {root ky m : Nat} {L : List (List Pr)} {g : List Nat} (w : World) (O : OwnT H A0 (shT sb room B cap vs N R) w) (hRT : RT m N root L g) (h7 : m ≤ 7) (hN : N.length ≤ 500) : Calls Try.prog 17 #[.iface 24 (.pointer (some ⟨sb, 0, none⟩)), .int .i64 root, .int .u64 ky] w fun e w' => ∃ N' root' ok er B' cap' vs', e = .returned (.tuple #[.int .i64 root', .bool ok, .int .i64 er]) ∧ OwnT H A0 (shT sb room B' cap' vs' N' R) w' ∧ DropT m N N' room root ky L root' ok er := by
  by_cases hr : root = 0
  · exact tDrop_zero w O hRT h7 hN hr
  · exact tDrop_some w O hRT h7 hN hr
end Go.Proofs.Ytngehbhhpkkijaa
