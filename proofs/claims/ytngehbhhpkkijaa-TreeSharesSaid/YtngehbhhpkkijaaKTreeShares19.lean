/- trees: Get (printed by XTrG.gen.py). -/
import Derived.Test.YtngehbhhpkkijaaKTreeShares17
namespace Go.Proofs.Ytngehbhhpkkijaa
attribute [local simp] BigFrame.eval_const BigFrame.eval_global BigFrame.eval_func
set_option linter.unusedVariables false
set_option linter.unusedSimpArgs false
open Go.RowKit Go.Maps

def lvM : Value → Nat
  | .int _ i => if i < 0 then 100 else i.toNat
  | _ => 0

set_option maxRecDepth 100000 in
set_option maxHeartbeats 4000000 in
theorem tGet_zero {H : Nat} {A0 : World} {R : List Thing} {sb cap : Nat} {room : Int} {B : Option Addr} {vs : List Value} {N : List Nd} {root ky m : Nat} {L : List (List Pr)} {g : List Nat} (w : World) (O : OwnT H A0 (shT sb room B cap vs N R) w) (hr : root = 0) : Calls Try.prog 19 #[.iface 24 (.pointer (some ⟨sb, 0, none⟩)), .int .i64 root, .int .u64 ky] w fun e w' => e = .returned (.tuple #[.int .u64 0, .bool false, .int .i64 0]) ∧ OwnT H A0 (shT sb room B cap vs N R) w' := by
  refine calls_F Try.func19 rfl 55 rfl (by rfl) ?_
  intro a1 k hargs
  have e0 : a1.eval (.tmp 0) = .iface 24 (.pointer (some ⟨sb, 0, none⟩)) := hargs 0 _ rfl
  have e1 : a1.eval (.tmp 1) = .int .i64 ↑root := hargs 1 _ rfl
  have e2 : a1.eval (.tmp 2) = .int .u64 ↑ky := hargs 2 _ rfl
  clear hargs
  refine wp_seq ?_
  refine wp_region_lit ?_
  have hE := Env.refl a1 [6, 7, 8]
  apply sq_det 6 hE k rfl (by rfl) (by rfl) rfl
  case h =>
    exact x_assign rfl rfl
  intro a2 hE e6 kp
  apply sq_det 7 hE k rfl (by rfl) (by rfl) rfl
  case h =>
    exact x_assign rfl rfl
  intro a3 hE e7 kp
  apply sq_det 8 hE k rfl (by rfl) (by rfl) rfl
  case h =>
    exact x_assign rfl rfl
  intro a4 hE e8 kp
  refine wpList_nil ?_
  replace e0 := hE.eval 0 (by rfl) e0
  replace e1 := hE.eval 1 (by rfl) e1
  replace e2 := hE.eval 2 (by rfl) e2
  replace k := k.env hE
  clear hE e8
  refine then_n ?_
  refine wp_seq ?_
  refine wp_seq ?_
  refine wp_region_lit ?_
  have hE := Env.refl a4 [9]
  apply sq_det 9 hE k rfl (by rfl) (by rfl) rfl
  case h =>
    exact x_assign rfl rfl
  intro a5 hE e9 kp
  refine wpList_nil ?_
  replace e0 := hE.eval 0 (by rfl) e0
  replace e1 := hE.eval 1 (by rfl) e1
  replace e2 := hE.eval 2 (by rfl) e2
  replace k := k.env hE
  clear hE
  refine then_n ?_
  refine wp_block ?_
  refine wp_loop (fun a w => Fr 55 a ∧ a.eval (.tmp 0) = .iface 24 (.pointer (some ⟨sb, 0, none⟩)) ∧ a.eval (.tmp 1) = .int .i64 ↑root ∧ a.eval (.tmp 2) = .int .u64 ↑ky ∧ a.eval (.tmp 9) = .int .i64 (-1) ∧ OwnT H A0 ((tBlk sb 28 #[.slice B N.length cap, .int .i64 room]) :: (tRow 125 2 (.slice B N.length cap) N.length (leafV vs N)) :: (tPool vs N) :: R) w) (fun a w => 0) ?_ ?_
  · exact ⟨k, e0, e1, e2, e9, O⟩
  intro a6 w7 hI
  clear k e0 e1 e2 e9
  obtain ⟨k, e0, e1, e2, e9, h_⟩ := hI
  clear O
  rename_i O_; have O := h_
  refine wp_seq ?_
  refine wp_seq ?_
  refine wp_region_lit ?_
  have hE := Env.refl a6 [14, 15]
  apply sq_det 14 hE k rfl (by rfl) (by rfl) rfl
  case h =>
    exact x_move rfl (hE.eval 1 (by rfl) e1)
  intro a8 hE e14 kp
  apply sq_det 15 hE k rfl (by rfl) (by rfl) rfl
  case h =>
    exact x_dec (x_neq rfl e14 rfl) (decide_eq_false (by omega))
  intro a9 hE e15 kp
  refine wpList_nil ?_
  replace e0 := hE.eval 0 (by rfl) e0
  replace e1 := hE.eval 1 (by rfl) e1
  replace e2 := hE.eval 2 (by rfl) e2
  replace e9 := hE.eval 9 (by rfl) e9
  replace k := k.env hE
  clear hE
  refine then_n ?_
  refine cond_f e15 rfl ?_
  refine wp_exit ?_
  refine then_x ?_
  refine then_x ?_
  refine block_x ?_
  refine then_n ?_
  refine wp_seq ?_
  refine wp_region_lit ?_
  have hE := Env.refl a9 [6, 7, 8]
  apply sq_det 6 hE k rfl (by rfl) (by rfl) rfl
  case h =>
    exact x_assign rfl rfl
  intro a10 hE e6 kp
  apply sq_det 7 hE k rfl (by rfl) (by rfl) rfl
  case h =>
    exact x_assign rfl rfl
  intro a11 hE e7 kp
  replace e6 := (kp 6 rfl).trans e6
  apply sq_det 8 hE k rfl (by rfl) (by rfl) rfl
  case h =>
    exact x_assign rfl rfl
  intro a12 hE e8 kp
  replace e6 := (kp 6 rfl).trans e6
  replace e7 := (kp 7 rfl).trans e7
  refine wpList_nil ?_
  replace k := k.env hE
  clear hE e0 e1 e2 e9 e15
  refine then_n ?_
  refine wp_ret ?_
  refine ret_F3 rfl k e6 e7 e8 ?_
  exact ⟨rfl, O⟩
set_option maxRecDepth 100000 in
set_option maxHeartbeats 4000000 in
theorem tGet_some {H : Nat} {A0 : World} {R : List Thing} {sb cap : Nat} {room : Int} {B : Option Addr} {vs : List Value} {N : List Nd} {root ky m : Nat} {L : List (List Pr)} {g : List Nat} (w : World) (O : OwnT H A0 (shT sb room B cap vs N R) w) (hRT : RT m N root L g) (h7 : m ≤ 7) (hN : N.length ≤ 511) (hr : root ≠ 0) : Calls Try.prog 19 #[.iface 24 (.pointer (some ⟨sb, 0, none⟩)), .int .i64 root, .int .u64 ky] w fun e w' => e = .returned (.tuple #[.int .u64 ((lookP ky L.flatten).getD 0 : Nat), .bool (lookP ky L.flatten).isSome, .int .i64 0]) ∧ OwnT H A0 (shT sb room B cap vs N R) w' := by
  obtain ⟨l, hlm, hT, -⟩ : ∃ l, l ≤ m ∧ Tr N l root L g ∧ (0 < l → ∃ xs, ndAt N root = some (l, xs) ∧ 2 ≤ xs.length) := by
    rcases hRT.rt with ⟨h, _⟩ | h
    · exact absurd h hr
    · exact h
  have hu := hRT.up
  have hwf := hRT.wf
  obtain ⟨rs, hrs⟩ : ∃ r, lookP ky L.flatten = r := ⟨_, rfl⟩
  rw [hrs]
  refine calls_F Try.func19 rfl 55 rfl (by rfl) ?_
  intro a1 k hargs
  have e0 : a1.eval (.tmp 0) = .iface 24 (.pointer (some ⟨sb, 0, none⟩)) := hargs 0 _ rfl
  have e1 : a1.eval (.tmp 1) = .int .i64 ↑root := hargs 1 _ rfl
  have e2 : a1.eval (.tmp 2) = .int .u64 ↑ky := hargs 2 _ rfl
  clear hargs
  refine wp_seq ?_
  refine wp_region_lit ?_
  have hE := Env.refl a1 [6, 7, 8]
  apply sq_det 6 hE k rfl (by rfl) (by rfl) rfl
  case h =>
    exact x_assign rfl rfl
  intro a2 hE e6 kp
  apply sq_det 7 hE k rfl (by rfl) (by rfl) rfl
  case h =>
    exact x_assign rfl rfl
  intro a3 hE e7 kp
  apply sq_det 8 hE k rfl (by rfl) (by rfl) rfl
  case h =>
    exact x_assign rfl rfl
  intro a4 hE e8 kp
  refine wpList_nil ?_
  replace e0 := hE.eval 0 (by rfl) e0
  replace e1 := hE.eval 1 (by rfl) e1
  replace e2 := hE.eval 2 (by rfl) e2
  replace k := k.env hE
  clear hE e8
  refine then_n ?_
  refine wp_seq ?_
  refine wp_seq ?_
  refine wp_region_lit ?_
  have hE := Env.refl a4 [9]
  apply sq_det 9 hE k rfl (by rfl) (by rfl) rfl
  case h =>
    exact x_assign rfl rfl
  intro a5 hE e9 kp
  refine wpList_nil ?_
  replace e0 := hE.eval 0 (by rfl) e0
  replace e1 := hE.eval 1 (by rfl) e1
  replace e2 := hE.eval 2 (by rfl) e2
  replace k := k.env hE
  clear hE
  refine then_n ?_
  refine wp_block ?_
  refine wp_loop (fun a w => Fr 55 a ∧ a.eval (.tmp 0) = .iface 24 (.pointer (some ⟨sb, 0, none⟩)) ∧ a.eval (.tmp 2) = .int .u64 ↑ky ∧ ∃ (q l : Nat) (lv : Int) (L1 : List (List Pr)) (g1 : List Nat), a.eval (.tmp 1) = .int .i64 ↑q ∧ a.eval (.tmp 9) = .int .i64 lv ∧ l ≤ m ∧ Tr N l q L1 g1 ∧ (lv < 0 ∨ lv = l) ∧ lookP ky L1.flatten = rs ∧ Up L1.flatten ∧ (∀ y ∈ L1.flatten, y.1 < 18446744073709551616 ∧ y.2 < 18446744073709551616) ∧ OwnT H A0 ((tBlk sb 28 #[.slice B N.length cap, .int .i64 room]) :: (tRow 125 2 (.slice B N.length cap) N.length (leafV vs N)) :: (tPool vs N) :: R) w) (fun a w => lvM (a.eval (.tmp 9))) ?_ ?_
  · exact ⟨k, e0, e2, root, l, -1, L, g, e1, e9, hlm, hT, .inl (by decide), hrs, hu, hwf, O⟩
  intro a6 w7 hI
  clear k e0 e2
  obtain ⟨k, e0, e2, h_⟩ := hI
  clear O e1 e9 hT hu hwf hrs hlm
  obtain ⟨q, l, lv, L1, g1, e1, e9, hlm, hT, hlv, hrs, hu, hwf, O⟩ := h_
  have mj := e9
  have hq1 : 1 ≤ q := by obtain ⟨r, e⟩ := Tr.one hT; exact (Tr.pages hT q (by rw [e]; simp)).1
  obtain ⟨xs, hnd, hne, h15, hux, hg, hxw⟩ := tr_node hT hu (by omega) hN hwf
  obtain ⟨n, hpl⟩ := place_of xs ky (up_rise hux)
  have hn15 := hpl.le
  refine wp_seq ?_
  refine wp_seq ?_
  refine wp_region_lit ?_
  have hE := Env.refl a6 [14, 15]
  apply sq_det 14 hE k rfl (by rfl) (by rfl) rfl
  case h =>
    exact x_move rfl (hE.eval 1 (by rfl) e1)
  intro a8 hE e14 kp
  apply sq_det 15 hE k rfl (by rfl) (by rfl) rfl
  case h =>
    exact x_dec (x_neq rfl e14 rfl) (decide_eq_true (by omega))
  intro a9 hE e15 kp
  refine wpList_nil ?_
  replace e0 := hE.eval 0 (by rfl) e0
  replace e1 := hE.eval 1 (by rfl) e1
  replace e2 := hE.eval 2 (by rfl) e2
  replace e9 := hE.eval 9 (by rfl) e9
  replace k := k.env hE
  clear hE
  refine then_n ?_
  refine cond_t e15 rfl ?_
  refine wp_skip ?_
  refine then_n ?_
  refine wp_seq ?_
  refine wp_block ?_
  refine wp_seq ?_
  refine wp_region_lit ?_
  have hE := Env.refl a9 [19, 20, 21, 22, 18, 23, 24, 10, 11]
  apply sq_det 19 hE k rfl (by rfl) (by rfl) rfl
  case h =>
    exact x_move rfl (hE.eval 0 (by rfl) e0)
  intro a10 hE e19 kp
  apply sq_det 20 hE k rfl (by rfl) (by rfl) rfl
  case h =>
    exact x_move rfl (hE.eval 1 (by rfl) e1)
  intro a11 hE e20 kp
  replace e19 := (kp 19 rfl).trans e19
  apply sq_det 21 hE k rfl (by rfl) (by rfl) rfl
  case h =>
    exact x_move rfl (hE.eval 9 (by rfl) e9)
  intro a12 hE e21 kp
  replace e19 := (kp 19 rfl).trans e19
  replace e20 := (kp 20 rfl).trans e20
  apply sq_call 22 hE k rfl (by rfl) (by rfl) rfl
  case h =>
    simp [go_sem, ↓IntWalk.iteOmega, ev e19, ev e20, ev e21]
    with_reducible exact ⟨rfl, rfl⟩
  case hc => exact tread _ O (by omega) hnd hg hne h15 (fun y hy => (hxw y hy).1) hlv
  clear O
  rintro e w14 ⟨v, rfl, O⟩
  obtain ⟨Bv, cv, rfl, hv1, hv2, -, hv3⟩ := ps_row (OwnT.t0 O)
  refine ⟨_, rfl, ?_⟩
  intro a13 hE e22 kp
  apply sq_det 18 hE k rfl (by rfl) (by rfl) rfl
  case h =>
    exact x_move rfl e22
  intro a15 hE e18 kp
  apply sq_det 23 hE k rfl (by rfl) (by rfl) rfl
  case h =>
    simp [go_sem, ↓IntWalk.iteOmega, ev e18]
    with_reducible rfl
  intro a16 hE e23 kp
  replace e18 := (kp 18 rfl).trans e18
  apply sq_det 24 hE k rfl (by rfl) (by rfl) rfl
  case h =>
    simp [go_sem, ↓IntWalk.iteOmega, ev e18]
    with_reducible rfl
  intro a17 hE e24 kp
  replace e23 := (kp 23 rfl).trans e23
  refine sq_new O (cs := #[.int .i64 0, .slice none 0 0]) (t := 125) 10 hE k rfl (by rfl) (by rfl) rfl (by simp [go_sem, ↓IntWalk.iteOmega]) ?_
  clear O
  intro lb a18 w19 O hE e10 kp
  replace e23 := (kp 23 rfl).trans e23
  replace e24 := (kp 24 rfl).trans e24
  have q0 : w19.cell? ⟨lb, 0, none⟩ = some (.int .i64 0) := (OwnT.blk O 0 rfl).cell 0
  have z0 : w19.frozen? ⟨lb, 0, none⟩ = false := (OwnT.blk O 0 rfl).frozen 0
  have q1 : w19.cell? ⟨lb, 1, none⟩ = some (.slice none 0 0) := (OwnT.blk O 0 rfl).cell 1
  have z1 : w19.frozen? ⟨lb, 1, none⟩ = false := (OwnT.blk O 0 rfl).frozen 1
  refine sq_unit (w' := ((w19.setCell ⟨lb, 0, none⟩ (.int .i64 ↑l)).setCell ⟨lb, 1, none⟩ (.slice Bv xs.length cv))) hE rfl rfl (by simp [go_sem, ↓IntWalk.iteOmega, ev e10, ev e23, q0, z0, q1, z1]) ?_
  replace O := OwnT.push 0 rfl (((OwnT.pull O 0 rfl).set 0 (.int .i64 ↑l)).set 1 (.slice Bv xs.length cv))
  clear q0 z0 q1 z1
  generalize ((w19.setCell ⟨lb, 0, none⟩ (.int .i64 ↑l)).setCell ⟨lb, 1, none⟩ (.slice Bv xs.length cv)) = w20 at O ⊢
  replace O : OwnT _ _ ((tBlk lb 125 #[.int .i64 ↑l, .slice Bv xs.length cv]) :: (tPs (.slice Bv xs.length cv) xs) :: (tBlk sb 28 #[.slice B N.length cap, .int .i64 room]) :: (tRow 125 2 (.slice B N.length cap) N.length (leafV vs N)) :: (tPool vs N) :: R) w20 := O
  apply sq_det 11 hE k rfl (by rfl) (by rfl) rfl
  case h =>
    exact x_assign rfl e24
  intro a21 hE e11 kp
  replace e10 := (kp 10 rfl).trans e10
  refine wpList_nil ?_
  replace e0 := hE.eval 0 (by rfl) e0
  replace e2 := hE.eval 2 (by rfl) e2
  replace k := k.env hE
  clear hE e1 e9 e15
  refine then_n ?_
  refine wp_seq ?_
  refine wp_seq ?_
  refine wp_region_lit ?_
  have hE := Env.refl a21 [25, 26]
  apply sq_det 25 hE k rfl (by rfl) (by rfl) rfl
  case h =>
    exact x_move rfl (hE.eval 11 (by rfl) e11)
  intro a22 hE e25 kp
  apply sq_det 26 hE k rfl (by rfl) (by rfl) rfl
  case h =>
    exact x_dec (x_neq rfl e25 rfl) (decide_eq_false (by omega))
  intro a23 hE e26 kp
  refine wpList_nil ?_
  replace e0 := hE.eval 0 (by rfl) e0
  replace e2 := hE.eval 2 (by rfl) e2
  replace e10 := hE.eval 10 (by rfl) e10
  replace e11 := hE.eval 11 (by rfl) e11
  replace k := k.env hE
  clear hE
  refine then_n ?_
  refine cond_f e26 rfl ?_
  refine wp_skip ?_
  refine then_n ?_
  refine wp_seq ?_
  refine wp_region_lit ?_
  have hE := Env.refl a23 [28, 29, 9]
  apply sq_det 28 hE k rfl (by rfl) (by rfl) rfl
  case h =>
    simp [go_sem, ↓IntWalk.iteOmega, ev (hE.eval 10 (by rfl) e10)]
    with_reducible rfl
  intro a24 hE e28 kp
  apply sq_det 29 hE k rfl (by rfl) (by rfl) rfl
  case h =>
    have q0 : w20.cell? ⟨lb, 0, none⟩ = some (.int .i64 ↑l) := (OwnT.blk O 0 rfl).cell 0
    simp [go_sem, ↓IntWalk.iteOmega, ev e28, q0]
    with_reducible rfl
  intro a25 hE e29 kp
  apply sq_det 9 hE k rfl (by rfl) (by rfl) rfl
  case h =>
    exact x_assign rfl e29
  intro a26 hE e9 kp
  refine wpList_nil ?_
  replace e0 := hE.eval 0 (by rfl) e0
  replace e2 := hE.eval 2 (by rfl) e2
  replace e10 := hE.eval 10 (by rfl) e10
  replace k := k.env hE
  clear hE e11 e26
  refine then_n ?_
  obtain ⟨gv, ev⟩ : ∃ gv, Bv = some ⟨gv, 0, none⟩ := by
    obtain ⟨g2, c2, _, e2, _⟩ := row_some (OwnT.get O 1 rfl : World.ownsRow _ 0 38 2 _ xs.length _) (List.length_pos_iff.2 hne)
    injection e2 with e2; exact ⟨g2, e2⟩
  subst ev
  obtain ⟨_, _, e2q, -, -, hrow, -⟩ := ps_row (OwnT.get O 1 rfl : (tPs (.slice (some ⟨gv, 0, none⟩) xs.length cv) xs).holds _)
  injection e2q with e2q _ e3q
  subst e2q e3q
  obtain ⟨bb, hbb⟩ : ∃ b, decide (n < xs.length ∧ keyAt xs n = ky) = b := ⟨_, rfl⟩
  by_cases hl0 : l = 0
  · skip
    have hL1 : L1.flatten = xs := by subst hl0; exact (drop_leaf (k := 0) hT hnd).2
    rw [hL1] at hrs
    refine wp_seq ?_
    refine wp_seq ?_
    refine wp_region_lit ?_
    have hE := Env.refl a26 [30, 31]
    apply sq_det 30 hE k rfl (by rfl) (by rfl) rfl
    case h =>
      exact x_move rfl (hE.eval 9 (by rfl) e9)
    intro a27 hE e30 kp
    apply sq_det 31 hE k rfl (by rfl) (by rfl) rfl
    case h =>
      exact x_dec (x_eql rfl e30 rfl) (decide_eq_true (by omega))
    intro a28 hE e31 kp
    refine wpList_nil ?_
    replace e0 := hE.eval 0 (by rfl) e0
    replace e2 := hE.eval 2 (by rfl) e2
    replace e9 := hE.eval 9 (by rfl) e9
    replace e10 := hE.eval 10 (by rfl) e10
    replace k := k.env hE
    clear hE
    refine then_n ?_
    refine cond_t e31 rfl ?_
    refine wp_seq ?_
    refine wp_seq ?_
    refine wp_region_lit ?_
    have hE := Env.refl a28 [33, 34, 35, 32, 36, 37, 12, 13]
    apply sq_det 33 hE k rfl (by rfl) (by rfl) rfl
    case h =>
      have q0 : w20.cell? ⟨lb, 0, none⟩ = some (.int .i64 ↑l) := (OwnT.blk O 0 rfl).cell 0
      have q1 : w20.cell? ⟨lb, 1, none⟩ = some (.slice (some ⟨gv, 0, none⟩) xs.length cv) := (OwnT.blk O 0 rfl).cell 1
      simp [go_sem, ↓IntWalk.iteOmega, ev (hE.eval 10 (by rfl) e10), q0, q1]
      with_reducible rfl
    intro a29 hE e33 kp
    apply sq_det 34 hE k rfl (by rfl) (by rfl) rfl
    case h =>
      exact x_move rfl (hE.eval 2 (by rfl) e2)
    intro a30 hE e34 kp
    replace e33 := (kp 33 rfl).trans e33
    apply sq_call 35 hE k rfl (by rfl) (by rfl) rfl
    case h =>
      simp [go_sem, ↓IntWalk.iteOmega, ev e33, ev e34]
      with_reducible exact ⟨rfl, rfl⟩
    case hc => exact find_any (l : Int) (some ⟨gv, 0, none⟩) xs.length cv xs _ rfl (by omega) hrow ky n hpl
    rintro e w32 ⟨rfl, RE⟩
    replace hrow := hrow.below RE
    replace O := OwnT.ext O RE
    refine ⟨_, congrArg (fun b => Ending.returned (.tuple #[.int .i64 (n : Int), .bool b])) hbb, ?_⟩
    intro a31 hE e35 kp
    apply sq_det 32 hE k rfl (by rfl) (by rfl) rfl
    case h =>
      exact x_move rfl e35
    intro a33 hE e32 kp
    apply sq_det 36 hE k rfl (by rfl) (by rfl) rfl
    case h =>
      simp [go_sem, ↓IntWalk.iteOmega, ev e32]
      with_reducible rfl
    intro a34 hE e36 kp
    replace e32 := (kp 32 rfl).trans e32
    apply sq_det 37 hE k rfl (by rfl) (by rfl) rfl
    case h =>
      simp [go_sem, ↓IntWalk.iteOmega, ev e32]
      with_reducible rfl
    intro a35 hE e37 kp
    replace e36 := (kp 36 rfl).trans e36
    apply sq_det 12 hE k rfl (by rfl) (by rfl) rfl
    case h =>
      exact x_assign rfl e36
    intro a36 hE e12 kp
    replace e37 := (kp 37 rfl).trans e37
    apply sq_det 13 hE k rfl (by rfl) (by rfl) rfl
    case h =>
      exact x_assign rfl e37
    intro a37 hE e13 kp
    replace e12 := (kp 12 rfl).trans e12
    refine wpList_nil ?_
    replace e10 := hE.eval 10 (by rfl) e10
    replace k := k.env hE
    clear hE e0 e2 e9 e31
    refine then_n ?_
    refine wp_seq ?_
    refine wp_region_lit ?_
    have hE := Env.refl a37 [38]
    apply sq_det 38 hE k rfl (by rfl) (by rfl) rfl
    case h =>
      exact x_move rfl (hE.eval 13 (by rfl) e13)
    intro a38 hE e38 kp
    refine wpList_nil ?_
    replace e10 := hE.eval 10 (by rfl) e10
    replace e12 := hE.eval 12 (by rfl) e12
    replace k := k.env hE
    clear hE e13
    refine then_n ?_
    cases bb with
    | true =>
      refine cond_t e38 (rfl) ?_
      clear e38
      have hy := of_decide_eq_true hbb
      obtain ⟨vl, hvl, hlk⟩ := look_yes hux hpl hy
      rw [hrs] at hlk
      subst hlk
      have hnI : (n : Int) < (xs.length : Int) := by omega
      have cy : w32.cell? ⟨gv, n * 2 + 1, none⟩ = some (.int .u64 (vl : Int)) := by
        obtain ⟨b, o, e, _, hc⟩ := hrow n _ hvl; injection e with e; injection e with e e'; subst e e'
        have := hc 1 _ rfl; simpa using this
      refine wp_seq ?_
      refine wp_region_lit ?_
      have hE := Env.refl a38 [39, 40, 41, 42, 43, 44, 6, 7, 8]
      apply sq_det 39 hE k rfl (by rfl) (by rfl) rfl
      case h =>
        simp [go_sem, ↓IntWalk.iteOmega, ev (hE.eval 10 (by rfl) e10)]
        with_reducible rfl
      intro a39 hE e39 kp
      apply sq_det 40 hE k rfl (by rfl) (by rfl) rfl
      case h =>
        have q0 : w32.cell? ⟨lb, 1, none⟩ = some (.slice (some ⟨gv, 0, none⟩) xs.length cv) := (OwnT.blk O 0 rfl).cell 1
        simp [go_sem, ↓IntWalk.iteOmega, ev e39, q0]
        with_reducible rfl
      intro a40 hE e40 kp
      apply sq_det 41 hE k rfl (by rfl) (by rfl) rfl
      case h =>
        exact x_move rfl (hE.eval 12 (by rfl) e12)
      intro a41 hE e41 kp
      replace e40 := (kp 40 rfl).trans e40
      apply sq_det 42 hE k rfl (by rfl) (by rfl) rfl
      case h =>
        simp [go_sem, ↓IntWalk.iteOmega, ev e40, ev e41]
        with_reducible rfl
      intro a42 hE e42 kp
      apply sq_det 43 hE k rfl (by rfl) (by rfl) rfl
      case h =>
        simp [go_sem, ↓IntWalk.iteOmega, ev e42]
        with_reducible rfl
      intro a43 hE e43 kp
      apply sq_det 44 hE k rfl (by rfl) (by rfl) rfl
      case h =>
        simp [go_sem, ↓IntWalk.iteOmega, ev e43, cy]
        with_reducible rfl
      intro a44 hE e44 kp
      apply sq_det 6 hE k rfl (by rfl) (by rfl) rfl
      case h =>
        exact x_assign rfl e44
      intro a45 hE e6 kp
      apply sq_det 7 hE k rfl (by rfl) (by rfl) rfl
      case h =>
        exact x_assign rfl rfl
      intro a46 hE e7 kp
      replace e6 := (kp 6 rfl).trans e6
      apply sq_det 8 hE k rfl (by rfl) (by rfl) rfl
      case h =>
        exact x_assign rfl rfl
      intro a47 hE e8 kp
      replace e6 := (kp 6 rfl).trans e6
      replace e7 := (kp 7 rfl).trans e7
      refine wpList_nil ?_
      replace k := k.env hE
      clear hE e10 e12
      refine then_n ?_
      refine wp_ret ?_
      refine then_r ?_
      refine then_r ?_
      refine block_r ?_
      refine then_r ?_
      refine then_r ?_
      refine block_r ?_
      refine then_r ?_
      refine ret_F3 rfl k e6 e7 e8 ?_
      exact ⟨rfl, OwnT.pickR (L := [_, _, _, _, _]) (R := R) O [2, 3, 4] (by decide)⟩
    | false =>
      refine cond_f e38 (rfl) ?_
      clear e10 e12 e38
      have hy := of_decide_eq_false hbb
      have hlk := (look_no hux hpl hy).1
      rw [hrs] at hlk
      subst hlk
      refine wp_skip ?_
      refine then_n ?_
      refine wp_seq ?_
      refine wp_region_lit ?_
      have hE := Env.refl a38 [6, 7, 8]
      apply sq_det 6 hE k rfl (by rfl) (by rfl) rfl
      case h =>
        exact x_assign rfl rfl
      intro a48 hE e6 kp
      apply sq_det 7 hE k rfl (by rfl) (by rfl) rfl
      case h =>
        exact x_assign rfl rfl
      intro a49 hE e7 kp
      replace e6 := (kp 6 rfl).trans e6
      apply sq_det 8 hE k rfl (by rfl) (by rfl) rfl
      case h =>
        exact x_assign rfl rfl
      intro a50 hE e8 kp
      replace e6 := (kp 6 rfl).trans e6
      replace e7 := (kp 7 rfl).trans e7
      refine wpList_nil ?_
      replace k := k.env hE
      clear hE
      refine then_n ?_
      refine wp_ret ?_
      refine then_r ?_
      refine block_r ?_
      refine then_r ?_
      refine then_r ?_
      refine block_r ?_
      refine then_r ?_
      refine ret_F3 rfl k e6 e7 e8 ?_
      exact ⟨rfl, OwnT.pickR (L := [_, _, _, _, _]) (R := R) O [2, 3, 4] (by decide)⟩
  · skip
    obtain ⟨l1, rfl⟩ : ∃ l1, l = l1 + 1 := ⟨l - 1, by omega⟩
    obtain ⟨A, y, Bk, LA, gA, Lx, gx, LB, gB, hxs, hAl, kA, kx, kB, hL, hgg, hlo, hhi⟩ := kid_split (k := ky) (n := n) hT hu hnd hpl
    obtain ⟨kn, hkn⟩ : ∃ k, kidN xs ky n = k := ⟨_, rfl⟩
    rw [hkn] at hAl
    have hkl : kn < xs.length := by rw [hxs]; simp; omega
    obtain ⟨cI, hcI⟩ : ∃ c : Int, (if n < xs.length ∧ keyAt xs n = ky then (n : Int) else (n : Int) - 1) = c := ⟨_, rfl⟩
    have hmx : max cI 0 = (kn : Int) := by rw [← hcI, ← hkn]; exact kid_max
    have hyk : xs[kn]? = some y := by rw [hxs, List.getElem?_append_right (by omega), hAl, Nat.sub_self]; rfl
    have hkI : (kn : Int) < (xs.length : Int) := by omega
    have hy5 : y.2 ≤ 511 := by obtain ⟨r, e⟩ := Tr.one kx; have := Tr.pages kx y.2 (by rw [e]; simp); omega
    have hux2 : Up Lx.flatten ∧ (∀ z ∈ Lx.flatten, z ∈ L1.flatten) ∧ lookP ky Lx.flatten = rs := by
      rw [hL, List.flatten_append, List.flatten_append] at hu hrs ⊢
      exact ⟨hu.app.2.1.app.1, fun z hz => by simp [hz], by rw [← hrs, lookP_mid (fun z hz => by have := hlo z hz; omega) (fun z hz => by have := hhi z hz; omega)]⟩
    
    refine wp_seq ?_
    refine wp_seq ?_
    refine wp_region_lit ?_
    have hE := Env.refl a26 [30, 31]
    apply sq_det 30 hE k rfl (by rfl) (by rfl) rfl
    case h =>
      exact x_move rfl (hE.eval 9 (by rfl) e9)
    intro a51 hE e30 kp
    apply sq_det 31 hE k rfl (by rfl) (by rfl) rfl
    case h =>
      exact x_dec (x_eql rfl e30 rfl) (decide_eq_false (by omega))
    intro a52 hE e31 kp
    refine wpList_nil ?_
    replace e0 := hE.eval 0 (by rfl) e0
    replace e2 := hE.eval 2 (by rfl) e2
    replace e9 := hE.eval 9 (by rfl) e9
    replace e10 := hE.eval 10 (by rfl) e10
    replace k := k.env hE
    clear hE
    refine then_n ?_
    refine cond_f e31 rfl ?_
    refine wp_skip ?_
    refine then_n ?_
    have hch : ∀ W, Ext w20 W → Calls Try.prog 60 #[.agg #[.int .i64 ((l1 + 1 : Nat) : Int), .slice (some ⟨gv, 0, none⟩) xs.length cv], .int .u64 ky] W fun e w' => e = .returned (.int .i64 cI) ∧ Ext W w' := fun W hR => hcI ▸ child_any ((l1 + 1 : Nat) : Int) (some ⟨gv, 0, none⟩) xs.length cv xs W rfl (by omega) (hrow.below hR) ky n hpl
    refine wp_tail (w0 := w20) [[], [0], [], [], [2, 3], [2, 3, 4], [0, 1, 2, 3, 4, 5], [0, 1, 2, 3, 4, 5, 6], [0, 1, 2, 3, 4, 5, 6, 7], [0, 1, 2, 3, 4, 5, 6, 7, 8], [0, 1, 2, 3, 4, 5, 6, 7, 8, 9]] [45, 46, 47, 48, 49, 50, 51, 52, 53, 54] (by kernel_rfl) ?_
    apply BuildL.det 45 (fun _ w_ => Ext.refl w_) (fun _ _ h => h) (by rfl) (by rw [k.size]; rfl) rfl
    case h =>
      intro lx ax wx hE hR hF
      simp [go_sem, ↓IntWalk.iteOmega, ev (hE.eval 10 (by rfl) e10)]
      with_reducible rfl
    apply BuildL.det 46 (fun _ w_ => Ext.refl w_) (fun _ _ h => h) (by rfl) (by rw [k.size]; rfl) rfl
    case h =>
      intro lx ax wx hE hR hF
      have e45 : ax.eval (.tmp 45) = _ := hF 0 (detL 0 45 _) (by decide) (.head _)
      have q0 : wx.cell? ⟨lb, 1, none⟩ = some (.slice (some ⟨gv, 0, none⟩) xs.length cv) := (OwnT.blk (OwnT.ext O hR) 0 rfl).cell 1
      simp [go_sem, ↓IntWalk.iteOmega, ev e45, q0]
      with_reducible rfl
    apply BuildL.det 47 (fun _ w_ => Ext.refl w_) (fun _ _ h => h) (by rfl) (by rw [k.size]; rfl) rfl
    case h =>
      intro lx ax wx hE hR hF
      have q0 : wx.cell? ⟨lb, 0, none⟩ = some (.int .i64 (↑(l1 + 1))) := (OwnT.blk (OwnT.ext O hR) 0 rfl).cell 0
      have q1 : wx.cell? ⟨lb, 1, none⟩ = some (.slice (some ⟨gv, 0, none⟩) xs.length cv) := (OwnT.blk (OwnT.ext O hR) 0 rfl).cell 1
      simp [go_sem, ↓IntWalk.iteOmega, ev (hE.eval 10 (by rfl) e10), q0, q1]
      with_reducible rfl
    apply BuildL.det 48 (fun _ w_ => Ext.refl w_) (fun _ _ h => h) (by rfl) (by rw [k.size]; rfl) rfl
    case h =>
      intro lx ax wx hE hR hF
      exact x_move rfl (hE.eval 2 (by rfl) e2)
    apply BuildL.call 49 (by rfl) (by rw [k.size]; rfl) rfl
    case h =>
      intro lx ax wx hE hR hF
      have e47 : ax.eval (.tmp 47) = _ := hF 2 (detL 2 47 _) (by decide) (.tail _ (.head _))
      have e48 : ax.eval (.tmp 48) = _ := hF 3 (detL 3 48 _) (by decide) (.head _)
      simp [go_sem, ↓IntWalk.iteOmega, ev e47, ev e48]
      with_reducible exact ⟨rfl, rfl⟩
    case hc => intro lx wx hR _ _; exact (hch wx hR).mono (fun e w' h => ⟨h.1, h.2, Ext.trans hR h.2⟩)
    apply BuildL.det 50 (fun _ w_ => Ext.refl w_) (fun _ _ h => h) (by rfl) (by rw [k.size]; rfl) rfl
    case h =>
      intro lx ax wx hE hR hF
      have e49 : ax.eval (.tmp 49) = _ := hF 4 (detL 4 49 _) (by decide) (.head _)
      exact x_val (v := .int .i64 (kn : Int)) (x_max rfl e49 rfl) (int_eq hmx)
    apply BuildL.det 51 (fun _ w_ => Ext.refl w_) (fun _ _ h => h) (by rfl) (by rw [k.size]; rfl) rfl
    case h =>
      intro lx ax wx hE hR hF
      have e46 : ax.eval (.tmp 46) = _ := hF 1 (detL 1 46 _) (by decide) (.tail _ (.tail _ (.tail _ (.tail _ (.head _)))))
      have e50 : ax.eval (.tmp 50) = _ := hF 5 (detL 5 50 _) (by decide) (.head _)
      simp [go_sem, ↓IntWalk.iteOmega, ev e46, ev e50]
      with_reducible rfl
    apply BuildL.det 52 (fun _ w_ => Ext.refl w_) (fun _ _ h => h) (by rfl) (by rw [k.size]; rfl) rfl
    case h =>
      intro lx ax wx hE hR hF
      have e51 : ax.eval (.tmp 51) = _ := hF 6 (detL 6 51 _) (by decide) (.head _)
      simp [go_sem, ↓IntWalk.iteOmega, ev e51]
      with_reducible rfl
    apply BuildL.det 53 (fun _ w_ => Ext.refl w_) (fun _ _ h => h) (by rfl) (by rw [k.size]; rfl) rfl
    case h =>
      intro lx ax wx hE hR hF
      have e52 : ax.eval (.tmp 52) = _ := hF 7 (detL 7 52 _) (by decide) (.head _)
      have cy : wx.cell? ⟨gv, kn * 2 + 1, none⟩ = some (.int .u64 (y.2 : Int)) := by obtain ⟨b, o, e, _, hc⟩ := (hrow.below hR) kn y hyk; injection e with e; injection e with e e'; subst e e'; have := hc 1 _ rfl; simpa using this
      simp [go_sem, ↓IntWalk.iteOmega, ev e52, cy]
      with_reducible rfl
    apply BuildL.det 54 (fun _ w_ => Ext.refl w_) (fun _ _ h => h) (by rfl) (by rw [k.size]; rfl) rfl
    case h =>
      intro lx ax wx hE hR hF
      have e53 : ax.eval (.tmp 53) = _ := hF 8 (detL 8 53 _) (by decide) (.head _)
      exact x_conv rfl e53 (conv_u64i y.2 _ (by omega))
    apply BuildL.stop
    refine ⟨by kernel_rfl, ?_⟩
    intro lx a53 w54 hE R hL hF
    have e54 : a53.eval (.tmp 54) = _ := hF 9 (detL 9 54 _) (.head _)
    clear hF hL
    replace O := OwnT.ext O R
    clear R
    simp only [List.length_cons, List.length_nil, Nat.zero_add, Nat.reduceAdd, List.drop_succ_cons, List.drop_zero, List.drop_nil, tailOps]
    apply tail_val (w' := w54) 1 [45, 46, 47, 48, 49, 50, 51, 52, 53, 54, 1] hE k rfl (by rfl) (by rfl) (by rfl)
    case h =>
      exact x_assign rfl e54
    intro a55 hE e1 kp
    replace e0 := hE.eval 0 (by rfl) e0
    replace e2 := hE.eval 2 (by rfl) e2
    replace e9 := hE.eval 9 (by rfl) e9
    replace k := k.env hE
    clear hE e10 e31
    refine block_n ?_
    refine then_n ?_
    refine wp_region_lit ?_
    have hE := Env.refl a55 [16, 17, 9]
    apply sq_det 16 hE k rfl (by rfl) (by rfl) rfl
    case h =>
      exact x_move rfl e9
    intro a56 hE e16 kp
    replace e9 := (kp 9 rfl).trans e9
    apply sq_det 17 hE k rfl (by rfl) (by rfl) rfl
    case h =>
      exact x_sub rfl e16 rfl (by omega)
    intro a57 hE e17 kp
    replace e9 := (kp 9 rfl).trans e9
    replace e17 := e17.trans (int_eq (show ((l1 + 1 : Nat) : Int) - 1 = (l1 : Int) by omega))
    apply sq_det 9 hE k rfl (by rfl) (by rfl) rfl
    case h =>
      exact x_assign rfl e17
    intro a58 hE e9 kp
    refine wpList_nil ?_
    replace e0 := hE.eval 0 (by rfl) e0
    replace e1 := hE.eval 1 (by rfl) e1
    replace e2 := hE.eval 2 (by rfl) e2
    replace k := k.env hE
    clear hE
    refine then_n ?_
    refine ⟨⟨k, e0, e2, y.2, l1, (l1 : Int), Lx, gx, e1, e9, by omega, kx, .inr rfl, hux2.2.2, hux2.1, fun z hz => hwf z (hux2.2.1 z hz), OwnT.pickR (L := [_, _, _, _, _]) (R := R) O [2, 3, 4] (by decide)⟩, ?_⟩
    rw [e9, mj]
    show (if (l1 : Int) < 0 then 100 else (l1 : Int).toNat) < (if lv < 0 then 100 else lv.toNat)
    split <;> split <;> omega
theorem tGet {H : Nat} {A0 : World} {R : List Thing} {sb cap : Nat} {room : Int} {B : Option Addr} {vs : List Value} {N : List Nd} {root ky m : Nat} {L : List (List Pr)} {g : List Nat} (w : World) (O : OwnT H A0 (shT sb room B cap vs N R) w) (hRT : RT m N root L g) (h7 : m ≤ 7) (hN : N.length ≤ 511) : Calls Try.prog 19 #[.iface 24 (.pointer (some ⟨sb, 0, none⟩)), .int .i64 root, .int .u64 ky] w fun e w' => e = .returned (.tuple #[.int .u64 ((lookP ky L.flatten).getD 0 : Nat), .bool (lookP ky L.flatten).isSome, .int .i64 0]) ∧ OwnT H A0 (shT sb room B cap vs N R) w' := by
  by_cases hr : root = 0
  · have hL : L = [] := by
      rcases hRT.rt with ⟨_, h, _⟩ | ⟨l, _, hT, _⟩
      · exact h
      · obtain ⟨r, e⟩ := Tr.one hT; have := Tr.pages hT root (by rw [e]; simp); omega
    subst hL
    exact tGet_zero (m := 0) (L := []) (g := []) w O hr
  · exact tGet_some w O hRT h7 hN hr
end Go.Proofs.Ytngehbhhpkkijaa
