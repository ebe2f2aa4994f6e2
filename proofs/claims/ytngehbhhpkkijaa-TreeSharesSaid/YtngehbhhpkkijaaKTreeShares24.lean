/- trees: Range (printed by XTrRn.gen.py). -/
import Derived.Test.YtngehbhhpkkijaaKTreeShares23
import Derived.Test.YtngehbhhpkkijaaKTreeShares16
namespace Go.Proofs.Ytngehbhhpkkijaa
attribute [local simp] BigFrame.eval_const BigFrame.eval_global BigFrame.eval_func
set_option linter.unusedVariables false
set_option linter.unusedSimpArgs false
open Go.RowKit Go.Maps

set_option maxRecDepth 100000 in
set_option maxHeartbeats 4000000 in
theorem indexf_nil {b1 b2 : Nat} (W0 : World) : Calls Try.prog 86 #[.slice none 0 0, .func (.func 63) #[] #[.pointer (some ⟨b1, 0, none⟩), .pointer (some ⟨b2, 0, none⟩)]] W0 fun e w' => e = .returned (.int .i64 (-1)) ∧ Ext W0 w' := by
  have O := OwnT.start W0
  refine calls_F Try.func86 rfl 19 rfl (by rfl) ?_
  intro a1 k hargs
  have e0 : a1.eval (.tmp 0) = .slice none 0 0 := hargs 0 _ rfl
  have e1 : a1.eval (.tmp 1) = .func (.func 63) #[] #[.pointer (some ⟨b1, 0, none⟩), .pointer (some ⟨b2, 0, none⟩)] := hargs 1 _ rfl
  clear hargs
  refine wp_seq ?_
  refine wp_region_lit ?_
  have hE := Env.refl a1 [4]
  apply sq_det 4 hE k rfl (by rfl) (by rfl) rfl
  case h =>
    exact x_assign rfl rfl
  intro a2 hE e4 kp
  refine wpList_nil ?_
  replace e0 := hE.eval 0 (by rfl) e0
  replace e1 := hE.eval 1 (by rfl) e1
  replace k := k.env hE
  clear hE e4
  refine then_n ?_
  refine wp_seq ?_
  refine wp_seq ?_
  refine wp_region_lit ?_
  have hE := Env.refl a2 [6, 7, 8]
  apply sq_det 6 hE k rfl (by rfl) (by rfl) rfl
  case h =>
    exact x_move rfl (hE.eval 0 (by rfl) e0)
  intro a3 hE e6 kp
  apply sq_det 7 hE k rfl (by rfl) (by rfl) rfl
  case h =>
    exact x_len Try.underlying29 rfl e6
  intro a4 hE e7 kp
  apply sq_det 8 hE k rfl (by rfl) (by rfl) rfl
  case h =>
    exact x_move rfl rfl
  intro a5 hE e8 kp
  replace e7 := (kp 7 rfl).trans e7
  refine wpList_nil ?_
  replace e0 := hE.eval 0 (by rfl) e0
  replace e1 := hE.eval 1 (by rfl) e1
  replace k := k.env hE
  clear hE
  refine then_n ?_
  refine wp_block ?_
  refine wp_loop (fun a w => Fr 19 a ∧ a.eval (.tmp 0) = .slice none 0 0 ∧ a.eval (.tmp 1) = .func (.func 63) #[] #[.pointer (some ⟨b1, 0, none⟩), .pointer (some ⟨b2, 0, none⟩)] ∧ a.eval (.tmp 7) = .int .i64 0 ∧ a.eval (.tmp 8) = .int .i64 0 ∧ OwnT W0.heap.size W0 [] w) (fun a w => 0) ?_ ?_
  · exact ⟨k, e0, e1, e7, e8, O⟩
  intro a6 w7 hI
  clear k e0 e1 e7
  obtain ⟨k, e0, e1, e7, h_⟩ := hI
  clear O e8
  obtain ⟨e8, O⟩ := h_
  refine wp_seq ?_
  refine wp_region_lit ?_
  have hE := Env.refl a6 [9]
  apply sq_det 9 hE k rfl (by rfl) (by rfl) rfl
  case h =>
    exact x_dec (x_lss rfl (hE.eval 8 (by rfl) e8) (hE.eval 7 (by rfl) e7)) (decide_eq_false (by omega))
  intro a8 hE e9 kp
  refine wpList_nil ?_
  replace e0 := hE.eval 0 (by rfl) e0
  replace e1 := hE.eval 1 (by rfl) e1
  replace e7 := hE.eval 7 (by rfl) e7
  replace e8 := hE.eval 8 (by rfl) e8
  replace k := k.env hE
  clear hE
  refine then_n ?_
  refine wp_seq ?_
  refine cond_f e9 rfl ?_
  refine wp_exit ?_
  refine then_x ?_
  refine then_x ?_
  refine block_x ?_
  refine then_n ?_
  refine wp_seq ?_
  refine wp_region_lit ?_
  have hE := Env.refl a8 [4]
  apply sq_det 4 hE k rfl (by rfl) (by rfl) rfl
  case h =>
    exact x_assign rfl rfl
  intro a9 hE e4 kp
  refine wpList_nil ?_
  replace k := k.env hE
  clear hE e0 e1 e7 e8 e9
  refine then_n ?_
  refine wp_ret ?_
  refine ret_F1 rfl k e4 ?_
  exact ⟨rfl, O.below⟩
set_option maxRecDepth 100000 in
set_option maxHeartbeats 4000000 in
theorem deletef_nil {b1 b2 : Nat} (W0 : World) : Calls Try.prog 62 #[.slice none 0 0, .func (.func 63) #[] #[.pointer (some ⟨b1, 0, none⟩), .pointer (some ⟨b2, 0, none⟩)]] W0 fun e w' => e = .returned (.slice none 0 0) ∧ Ext W0 w' := by
  have O := OwnT.start W0
  refine calls_F Try.func62 rfl 42 rfl (by rfl) ?_
  intro a1 k hargs
  have e0 : a1.eval (.tmp 0) = .slice none 0 0 := hargs 0 _ rfl
  have e1 : a1.eval (.tmp 1) = .func (.func 63) #[] #[.pointer (some ⟨b1, 0, none⟩), .pointer (some ⟨b2, 0, none⟩)] := hargs 1 _ rfl
  clear hargs
  refine wp_seq ?_
  refine wp_region_lit ?_
  have hE := Env.refl a1 [4]
  apply sq_det 4 hE k rfl (by rfl) (by rfl) rfl
  case h =>
    exact x_assign rfl rfl
  intro a2 hE e4 kp
  refine wpList_nil ?_
  replace e0 := hE.eval 0 (by rfl) e0
  replace e1 := hE.eval 1 (by rfl) e1
  replace k := k.env hE
  clear hE e4
  refine then_n ?_
  refine wp_seq ?_
  refine wp_region_lit ?_
  have hE := Env.refl a2 [8, 9, 10, 5]
  apply sq_det 8 hE k rfl (by rfl) (by rfl) rfl
  case h =>
    exact x_move rfl (hE.eval 0 (by rfl) e0)
  intro a3 hE e8 kp
  apply sq_det 9 hE k rfl (by rfl) (by rfl) rfl
  case h =>
    exact x_move rfl (hE.eval 1 (by rfl) e1)
  intro a4 hE e9 kp
  replace e8 := (kp 8 rfl).trans e8
  apply sq_call 10 hE k rfl (by rfl) (by rfl) rfl
  case h =>
    simp [go_sem, ↓IntWalk.iteOmega, ev e8, ev e9]
    with_reducible exact ⟨rfl, rfl⟩
  case hc => exact indexf_nil _
  rintro e w6 ⟨rfl, RE⟩
  replace O := OwnT.ext O RE
  refine ⟨_, rfl, ?_⟩
  intro a5 hE e10 kp
  apply sq_det 5 hE k rfl (by rfl) (by rfl) rfl
  case h =>
    exact x_assign rfl e10
  intro a7 hE e5 kp
  refine wpList_nil ?_
  replace e0 := hE.eval 0 (by rfl) e0
  replace e1 := hE.eval 1 (by rfl) e1
  replace k := k.env hE
  clear hE
  refine then_n ?_
  refine wp_seq ?_
  refine wp_seq ?_
  refine wp_region_lit ?_
  have hE := Env.refl a7 [11, 12]
  apply sq_det 11 hE k rfl (by rfl) (by rfl) rfl
  case h =>
    exact x_move rfl (hE.eval 5 (by rfl) e5)
  intro a8 hE e11 kp
  apply sq_det 12 hE k rfl (by rfl) (by rfl) rfl
  case h =>
    exact x_dec (x_eql rfl e11 rfl) (decide_eq_true (by omega))
  intro a9 hE e12 kp
  refine wpList_nil ?_
  replace e0 := hE.eval 0 (by rfl) e0
  replace e1 := hE.eval 1 (by rfl) e1
  replace e5 := hE.eval 5 (by rfl) e5
  replace k := k.env hE
  clear hE
  refine then_n ?_
  refine cond_t e12 rfl ?_
  refine wp_seq ?_
  refine wp_region_lit ?_
  have hE := Env.refl a9 [13, 4]
  apply sq_det 13 hE k rfl (by rfl) (by rfl) rfl
  case h =>
    exact x_move rfl (hE.eval 0 (by rfl) e0)
  intro a10 hE e13 kp
  apply sq_det 4 hE k rfl (by rfl) (by rfl) rfl
  case h =>
    exact x_assign rfl e13
  intro a11 hE e4 kp
  refine wpList_nil ?_
  replace k := k.env hE
  clear hE e0 e1 e5 e12
  refine then_n ?_
  refine wp_ret ?_
  refine then_r ?_
  refine ret_F1 rfl k e4 ?_
  exact ⟨rfl, O.below⟩
set_option maxRecDepth 100000 in
set_option maxHeartbeats 4000000 in
theorem tRange {H : Nat} {A0 : World} {R : List Thing} {sb cap : Nat} {room : Int} {B : Option Addr} {vs : List Value} {N : List Nd} {root m lo hi : Nat} {L : List (List Pr)} {g : List Nat} (w : World) (O : OwnT H A0 (shT sb room B cap vs N R) w) (hRT : RT m N root L g) (h7 : m ≤ 7) (hN : N.length ≤ 511) (hgl : g.length ≤ 600) (hpl : L.flatten.length ≤ 100000) : Calls Try.prog 21 #[.iface 24 (.pointer (some ⟨sb, 0, none⟩)), .int .i64 root, .int .u64 (lo : Nat), .int .u64 (hi : Nat)] w fun e w' => ∃ v, e = .returned (.tuple #[v, .int .i64 0]) ∧ OwnT H A0 (shT sb room B cap vs N (tPs v (L.flatten.filter (fun x => !outB lo hi x)) :: R)) w' := by
  refine calls_F Try.func21 rfl 31 rfl (by rfl) ?_
  intro a1 k hargs
  have e0 : a1.eval (.tmp 0) = .iface 24 (.pointer (some ⟨sb, 0, none⟩)) := hargs 0 _ rfl
  have e1 : a1.eval (.tmp 1) = .int .i64 ↑root := hargs 1 _ rfl
  have e2 : a1.eval (.tmp 2) = .int .u64 ↑lo := hargs 2 _ rfl
  have e3 : a1.eval (.tmp 3) = .int .u64 ↑hi := hargs 3 _ rfl
  clear hargs
  refine wp_seq ?_
  refine wp_region_lit ?_
  have hE := Env.refl a1 [6, 7, 8, 9]
  refine sq_new O (cs := #[.int .u64 ↑lo]) (t := 30) 6 hE k rfl (by rfl) (by rfl) rfl (by simp [go_sem, ↓IntWalk.iteOmega, ev (hE.eval 2 (by rfl) e2)]) ?_
  clear O
  intro b1 a2 w3 O hE e6 kp
  refine sq_new O (cs := #[.int .u64 ↑hi]) (t := 30) 7 hE k rfl (by rfl) (by rfl) rfl (by simp [go_sem, ↓IntWalk.iteOmega, ev (hE.eval 3 (by rfl) e3)]) ?_
  clear O
  intro b2 a4 w5 O hE e7 kp
  replace e6 := (kp 6 rfl).trans e6
  apply sq_det 8 hE k rfl (by rfl) (by rfl) rfl
  case h =>
    exact x_assign rfl rfl
  intro a6 hE e8 kp
  replace e6 := (kp 6 rfl).trans e6
  replace e7 := (kp 7 rfl).trans e7
  apply sq_det 9 hE k rfl (by rfl) (by rfl) rfl
  case h =>
    exact x_assign rfl rfl
  intro a7 hE e9 kp
  replace e6 := (kp 6 rfl).trans e6
  replace e7 := (kp 7 rfl).trans e7
  refine wpList_nil ?_
  replace e0 := hE.eval 0 (by rfl) e0
  replace e1 := hE.eval 1 (by rfl) e1
  replace k := k.env hE
  clear hE e2 e3 e9
  refine then_n ?_
  replace O : OwnT _ _ ((tBlk sb 28 #[.slice B N.length cap, .int .i64 room]) :: (tRow 125 2 (.slice B N.length cap) N.length (leafV vs N)) :: (tPool vs N) :: (tBlk b1 30 #[.int .u64 ↑lo]) :: (tBlk b2 30 #[.int .u64 ↑hi]) :: R) w5 := OwnT.pickR (L := [_, _, _, _, _]) (R := R) O [2, 3, 4, 1, 0] (by decide)
  refine wp_seq ?_
  refine wp_region_lit ?_
  have hE := Env.refl a7 [12, 13, 14, 10]
  apply sq_det 12 hE k rfl (by rfl) (by rfl) rfl
  case h =>
    exact x_move rfl (hE.eval 0 (by rfl) e0)
  intro a8 hE e12 kp
  apply sq_det 13 hE k rfl (by rfl) (by rfl) rfl
  case h =>
    exact x_move rfl (hE.eval 1 (by rfl) e1)
  intro a9 hE e13 kp
  replace e12 := (kp 12 rfl).trans e12
  apply sq_call 14 hE k rfl (by rfl) (by rfl) rfl
  case h =>
    simp [go_sem, ↓IntWalk.iteOmega, ev e12, ev e13]
    with_reducible exact ⟨rfl, rfl⟩
  case hc => exact tall (R := ((tBlk b1 30 #[.int .u64 ↑lo]) :: (tBlk b2 30 #[.int .u64 ↑hi]) :: R)) _ O hRT h7 hN hgl hpl
  clear O
  rintro e w11 ⟨gw, cp, cq, P, Q, rfl, O⟩
  refine ⟨_, rfl, ?_⟩
  intro a10 hE e14 kp
  apply sq_det 10 hE k rfl (by rfl) (by rfl) rfl
  case h =>
    exact x_assign rfl e14
  intro a12 hE e10 kp
  refine wpList_nil ?_
  replace e6 := hE.eval 6 (by rfl) e6
  replace e7 := hE.eval 7 (by rfl) e7
  replace k := k.env hE
  clear hE e0 e1
  refine then_n ?_
  refine wp_seq ?_
  refine wp_seq ?_
  refine wp_region_lit ?_
  have hE := Env.refl a12 [15, 16, 17, 18, 19]
  apply sq_det 15 hE k rfl (by rfl) (by rfl) rfl
  case h =>
    exact x_move rfl (hE.eval 10 (by rfl) e10)
  intro a13 hE e15 kp
  apply sq_det 16 hE k rfl (by rfl) (by rfl) rfl
  case h =>
    exact x_nil rfl e15
  intro a14 hE e16 kp
  apply sq_det 17 hE k rfl (by rfl) (by rfl) rfl
  case h =>
    simp [go_sem, ↓IntWalk.iteOmega, ev e16]
    with_reducible rfl
  intro a15 hE e17 kp
  apply sq_det 18 hE k rfl (by rfl) (by rfl) rfl
  case h =>
    have q0 : w11.cell? ⟨gw, 2, none⟩ = some (.int .i64 0) := (OwnT.blk O 3 rfl).cell 2
    simp [go_sem, ↓IntWalk.iteOmega, ev e17, q0]
    with_reducible rfl
  intro a16 hE e18 kp
  apply sq_det 19 hE k rfl (by rfl) (by rfl) rfl
  case h =>
    exact x_dec (x_neq rfl e18 rfl) (decide_eq_false (by omega))
  intro a17 hE e19 kp
  refine wpList_nil ?_
  replace e6 := hE.eval 6 (by rfl) e6
  replace e7 := hE.eval 7 (by rfl) e7
  replace e10 := hE.eval 10 (by rfl) e10
  replace k := k.env hE
  clear hE
  refine then_n ?_
  refine cond_f e19 rfl ?_
  refine wp_skip ?_
  refine then_n ?_
  obtain ⟨ps, hps⟩ : ∃ ps, L.flatten = ps := ⟨_, rfl⟩
  rw [hps] at O hpl ⊢
  clear hRT hps
  rcases (OwnT.get O 5 rfl : World.ownsRow _ 0 38 2 _ ps.length _).2 with ⟨e1, e2⟩ | ⟨g2, cap2, cur2, e1, _⟩
  · injection e1 with e1 _ e3; subst e1 e3
    have hL0 : ps = [] := List.eq_nil_of_length_eq_zero e2
    subst hL0
    replace O : OwnT _ _ ((tBlk sb 28 #[.slice B N.length cap, .int .i64 room]) :: (tRow 125 2 (.slice B N.length cap) N.length (leafV vs N)) :: (tPool vs N) :: (tBlk gw 142 #[.slice P g.length cp, .slice none 0 0, .int .i64 0]) :: (tRow 3 1 (.slice P g.length cp) g.length (g.flatMap encN)) :: (tPs (.slice none 0 0) ([] : List Pr)) :: (tBlk b1 30 #[.int .u64 ↑lo]) :: (tBlk b2 30 #[.int .u64 ↑hi]) :: R) w11 := O
    refine wp_seq ?_
    refine wp_region_lit ?_
    have hE := Env.refl a17 [24, 25, 26, 27, 28, 29, 11]
    apply sq_det 24 hE k rfl (by rfl) (by rfl) rfl
    case h =>
      exact x_move rfl (hE.eval 10 (by rfl) e10)
    intro a18 hE e24 kp
    apply sq_det 25 hE k rfl (by rfl) (by rfl) rfl
    case h =>
      exact x_nil rfl e24
    intro a19 hE e25 kp
    apply sq_det 26 hE k rfl (by rfl) (by rfl) rfl
    case h =>
      simp [go_sem, ↓IntWalk.iteOmega, ev e25]
      with_reducible rfl
    intro a20 hE e26 kp
    apply sq_det 27 hE k rfl (by rfl) (by rfl) rfl
    case h =>
      have q0 : w11.cell? ⟨gw, 1, none⟩ = some (.slice none 0 0) := (OwnT.blk O 3 rfl).cell 1
      simp [go_sem, ↓IntWalk.iteOmega, ev e26, q0]
      with_reducible rfl
    intro a21 hE e27 kp
    apply sq_det 28 hE k rfl (by rfl) (by rfl) rfl
    case h =>
      simp [go_sem, ↓IntWalk.iteOmega, ev (hE.eval 6 (by rfl) e6), ev (hE.eval 7 (by rfl) e7)]
      with_reducible rfl
    intro a22 hE e28 kp
    replace e27 := (kp 27 rfl).trans e27
    apply sq_call 29 hE k rfl (by rfl) (by rfl) rfl
    case h =>
      simp [go_sem, ↓IntWalk.iteOmega, ev e27, ev e28]
      with_reducible exact ⟨rfl, rfl⟩
    case hc => exact deletef_nil _
    rintro e w24 ⟨rfl, RE⟩
    replace O := OwnT.ext O RE
    refine ⟨_, rfl, ?_⟩
    intro a23 hE e29 kp
    apply sq_det 11 hE k rfl (by rfl) (by rfl) rfl
    case h =>
      exact x_assign rfl e29
    intro a25 hE e11 kp
    refine wpList_nil ?_
    replace k := k.env hE
    clear hE e6 e7 e10 e19
    refine then_n ?_
    refine wp_seq ?_
    refine wp_region_lit ?_
    have hE := Env.refl a25 [30, 8, 9]
    apply sq_det 30 hE k rfl (by rfl) (by rfl) rfl
    case h =>
      exact x_move rfl (hE.eval 11 (by rfl) e11)
    intro a26 hE e30 kp
    apply sq_det 8 hE k rfl (by rfl) (by rfl) rfl
    case h =>
      exact x_assign rfl e30
    intro a27 hE e8 kp
    apply sq_det 9 hE k rfl (by rfl) (by rfl) rfl
    case h =>
      exact x_assign rfl rfl
    intro a28 hE e9 kp
    replace e8 := (kp 8 rfl).trans e8
    refine wpList_nil ?_
    replace k := k.env hE
    clear hE e11
    refine then_n ?_
    refine wp_ret ?_
    refine ret_F2 rfl k e8 e9 ?_
    exact ⟨_, rfl, OwnT.pickR (L := [_, _, _, _, _, _, _, _]) (R := R) O [0, 1, 2, 5] (by decide)⟩
  · injection e1 with e1 _ e3; subst e1 e3
    replace O : OwnT _ _ ((tPs (.slice (some ⟨g2, 0, none⟩) ps.length cq) ps) :: (tBlk b1 30 #[.int .u64 ↑lo]) :: (tBlk b2 30 #[.int .u64 ↑hi]) :: (tBlk sb 28 #[.slice B N.length cap, .int .i64 room]) :: (tRow 125 2 (.slice B N.length cap) N.length (leafV vs N)) :: (tPool vs N) :: (tBlk gw 142 #[.slice P g.length cp, .slice (some ⟨g2, 0, none⟩) ps.length cq, .int .i64 0]) :: R) w11 := OwnT.pickR (L := [_, _, _, _, _, _, _, _]) (R := R) O [5, 6, 7, 0, 1, 2, 3] (by decide)
    refine wp_seq ?_
    refine wp_region_lit ?_
    have hE := Env.refl a17 [24, 25, 26, 27, 28, 29, 11]
    apply sq_det 24 hE k rfl (by rfl) (by rfl) rfl
    case h =>
      exact x_move rfl (hE.eval 10 (by rfl) e10)
    intro a29 hE e24 kp
    apply sq_det 25 hE k rfl (by rfl) (by rfl) rfl
    case h =>
      exact x_nil rfl e24
    intro a30 hE e25 kp
    apply sq_det 26 hE k rfl (by rfl) (by rfl) rfl
    case h =>
      simp [go_sem, ↓IntWalk.iteOmega, ev e25]
      with_reducible rfl
    intro a31 hE e26 kp
    apply sq_det 27 hE k rfl (by rfl) (by rfl) rfl
    case h =>
      have q0 : w11.cell? ⟨gw, 1, none⟩ = some (.slice (some ⟨g2, 0, none⟩) ps.length cq) := (OwnT.blk O 6 rfl).cell 1
      simp [go_sem, ↓IntWalk.iteOmega, ev e26, q0]
      with_reducible rfl
    intro a32 hE e27 kp
    apply sq_det 28 hE k rfl (by rfl) (by rfl) rfl
    case h =>
      simp [go_sem, ↓IntWalk.iteOmega, ev (hE.eval 6 (by rfl) e6), ev (hE.eval 7 (by rfl) e7)]
      with_reducible rfl
    intro a33 hE e28 kp
    replace e27 := (kp 27 rfl).trans e27
    apply sq_call 29 hE k rfl (by rfl) (by rfl) rfl
    case h =>
      simp [go_sem, ↓IntWalk.iteOmega, ev e27, ev e28]
      with_reducible exact ⟨rfl, rfl⟩
    case hc => exact deletef_any ps _ O (by omega)
    clear O
    rintro e w35 ⟨rfl, O⟩
    refine ⟨_, rfl, ?_⟩
    intro a34 hE e29 kp
    apply sq_det 11 hE k rfl (by rfl) (by rfl) rfl
    case h =>
      exact x_assign rfl e29
    intro a36 hE e11 kp
    refine wpList_nil ?_
    replace k := k.env hE
    clear hE e6 e7 e10 e19
    refine then_n ?_
    refine wp_seq ?_
    refine wp_region_lit ?_
    have hE := Env.refl a36 [30, 8, 9]
    apply sq_det 30 hE k rfl (by rfl) (by rfl) rfl
    case h =>
      exact x_move rfl (hE.eval 11 (by rfl) e11)
    intro a37 hE e30 kp
    apply sq_det 8 hE k rfl (by rfl) (by rfl) rfl
    case h =>
      exact x_assign rfl e30
    intro a38 hE e8 kp
    apply sq_det 9 hE k rfl (by rfl) (by rfl) rfl
    case h =>
      exact x_assign rfl rfl
    intro a39 hE e9 kp
    replace e8 := (kp 8 rfl).trans e8
    refine wpList_nil ?_
    replace k := k.env hE
    clear hE e11
    refine then_n ?_
    refine wp_ret ?_
    refine ret_F2 rfl k e8 e9 ?_
    exact ⟨_, rfl, OwnT.pickR (L := [_, _, _, _, _, _, _]) (R := R) O [3, 4, 5, 0] (by decide)⟩
end Go.Proofs.Ytngehbhhpkkijaa

/- slices.Delete of one element, at structs of two numbers. -/
namespace Go.Proofs.Ytngehbhhpkkijaa
attribute [local simp] BigFrame.eval_const BigFrame.eval_global BigFrame.eval_func
set_option linter.unusedVariables false
set_option linter.unusedSimpArgs false
open Go.RowKit

set_option maxRecDepth 100000 in
set_option maxHeartbeats 4000000 in
theorem delete_raw (g n cap i : Nat) (cur : Array Value) (xs : List Value) (w : World) (hg : Blk w g 38 cur) (hi : i < n) (hnc : n ≤ cap) (hc : cap ≤ maxLen) (hcur : cur.size = cap * 2) (hx : cur.toList.take (n * 2) = xs) (h1 : ∀ u ∈ xs, u.oneCell' = true) :
    Calls Try.prog 80 #[.slice (some ⟨g, 0, none⟩) n cap, .int .i64 i, .int .i64 ((i : Int) + 1)] w fun e w' => ∃ cur' : Array Value,
      e = .returned (.slice (some ⟨g, 0, none⟩) (n - 1) cap) ∧ Blk w' g 38 cur' ∧ cur'.size = cap * 2 ∧ cur'.toList.take ((n - 1) * 2) = xs.take (i * 2) ++ xs.drop ((i + 1) * 2) ∧ Chg [g] w w' := by
  unfold maxLen at hc
  obtain ⟨ti, hi0, hz, hsz, hby⟩ := info_pair
  obtain ⟨mv, hmv⟩ : ∃ mv, xs.drop ((i + 1) * 2) = mv := ⟨_, rfl⟩
  have hxl : xs.length = n * 2 := by rw [← hx, List.length_take, Array.length_toList, hcur]; omega
  have hml : mv.length = (n - (i + 1)) * 2 := by rw [← hmv, List.length_drop, hxl]; omega
  have hm1 : ∀ u ∈ mv, u.oneCell' = true := fun u hu => h1 u (by rw [← hmv] at hu; exact List.mem_of_mem_drop hu)
  obtain ⟨cur1, hcur1⟩ : ∃ cur1 : List Value, cur.toList.take (i * 2) ++ mv ++ cur.toList.drop (i * 2 + mv.length) = cur1 := ⟨_, rfl⟩
  have hcl : cur.toList.length = cap * 2 := by rw [Array.length_toList, hcur]
  have hl1 : cur1.length = cap * 2 := by rw [← hcur1]; simp only [List.length_append, List.length_take, List.length_drop]; omega
  have ht1 : cur1.take ((n - 1) * 2) = xs.take (i * 2) ++ mv := by
    have e : (n - 1) * 2 = (cur.toList.take (i * 2) ++ mv).length := by simp only [List.length_append, List.length_take]; omega
    rw [← hcur1, e, List.take_left, ← hx, List.take_take, show min (i * 2) (n * 2) = i * 2 by omega]
  obtain ⟨zc, hzc⟩ : ∃ zc : List Value, (Builtin.zeroCells zPair.cells 1).toList = zc := ⟨_, rfl⟩
  have hzl : zc.length = 2 := by rw [← hzc, Array.length_toList, size_zeroCells]; rfl
  rw [hmv]
  have hsrc : ∀ W A, Blk W g 38 cur → (0 < n - (i + 1) → A = (⟨g, (i + 1) * 2, none⟩ : Addr)) → ∀ j v, mv[j]? = some v → W.cell? (A.add j) = some v := fun W A hW hA j v hj => by
    have hjl : j < mv.length := (List.getElem?_eq_some_iff.1 hj).1
    rw [hA (by omega)]
    have hadd : (⟨g, (i + 1) * 2, none⟩ : Addr).add j = ⟨g, (i + 1) * 2 + j, none⟩ := by unfold Addr.add; split <;> simp_all
    rw [hadd, hW.cell]
    rw [← hmv, List.getElem?_drop, ← hx, List.getElem?_take_of_lt (by omega)] at hj
    simpa using hj
  have hap := fun (W : World) (A : Addr) (cp : Nat) ty (hW : Blk W g 38 cur) (hA : 0 < n - (i + 1) → A = (⟨g, (i + 1) * 2, none⟩ : Addr)) =>
    run_append_room (P := Try.prog) W 29 ty 38 ti Try.underlying29 hi0 g i cap cur hW A (n - (i + 1)) cp mv (by rw [hsz]; exact hml) (hsrc W A hW hA) hm1 (by omega) (by rw [hsz]; omega)
  rw [hsz, hcur1, show i + (n - (i + 1)) = n - 1 by omega] at hap
  have hwi : IntKind.i64.wrap ((i : Int) + 1) = (i : Int) + 1 := IntWalk.i64_in _ (by omega)
  have HAP := Lib.hid hap
  have HL := Lib.hid (And.intro hl1 ht1)
  have HG := Lib.hid hg
  have HZ := Lib.hid (And.intro hzc hzl)
  clear hap hsrc hl1 ht1 hcur1 hcl hm1 hml hxl hmv hx h1 hg hcur hzc hzl
  by_cases hcn : i + 1 = cap
  · obtain rfl : cap = n := by omega
    obtain rfl : cap = i + 1 := by omega
    obtain ⟨w0_, rfl⟩ : ∃ w0_, w0_ = w := ⟨_, rfl⟩
    clear hcn
    go_enter Try.func80, Try.ntmps80
    go_upto_region 5 with fail
    refine wp_phasedR (Ext) (fun l w => Ext w0_ w) [[], [], [0, 1], [], [], [3, 4], [0, 1, 2, 3, 4, 5], [0, 1, 2, 3, 4, 5, 6]] [20, 21, 22, 23, 24, 25] (Ext.refl) (Ext.drew _) (by kernel_rfl) ?_
    apply BuildR.det 20 (Ext.refl) (fun l w h => h) (by rfl) (by rfl) rfl
    case h =>
      intro lx ax wx hE hR hF
      have e0 : ax.eval (.tmp 0) = .slice (some ⟨g, 0, none⟩) (i + 1) (i + 1) := hE.eval 0 (by rfl) rfl
      simp [go_sem, ↓IntWalk.iteOmega, ev e0]
      with_reducible rfl
    apply BuildR.det 21 (Ext.refl) (fun l w h => h) (by rfl) (by rfl) rfl
    case h =>
      intro lx ax wx hE hR hF
      have e1 : ax.eval (.tmp 1) = .int .i64 i := hE.eval 1 (by rfl) rfl
      simp [go_sem, ↓IntWalk.iteOmega, ev e1]
      with_reducible rfl
    apply BuildR.det 22 (Ext.refl) (fun l w h => h) (by rfl) (by rfl) rfl
    case h =>
      intro lx ax wx hE hR hF
      have e20 : ax.eval (.tmp 20) = _ := hF 0 (det 20 _) (by decide) (.tail _ (.head _))
      have e21 : ax.eval (.tmp 21) = _ := hF 1 (det 21 _) (by decide) (.head _)
      simp [go_sem, ↓IntWalk.iteOmega, ev e20, ev e21]
      with_reducible rfl
    apply BuildR.det 23 (Ext.refl) (fun l w h => h) (by rfl) (by rfl) rfl
    case h =>
      intro lx ax wx hE hR hF
      have e0 : ax.eval (.tmp 0) = .slice (some ⟨g, 0, none⟩) (i + 1) (i + 1) := hE.eval 0 (by rfl) rfl
      simp [go_sem, ↓IntWalk.iteOmega, ev e0]
      with_reducible rfl
    apply BuildR.det 24 (Ext.refl) (fun l w h => h) (by rfl) (by rfl) rfl
    case h =>
      intro lx ax wx hE hR hF
      have e2 : ax.eval (.tmp 2) = .int .i64 ((i : Int) + 1) := hE.eval 2 (by rfl) rfl
      simp [go_sem, ↓IntWalk.iteOmega, ev e2]
      with_reducible rfl
    apply BuildR.det 25 (Ext.refl) (fun l w h => h) (by rfl) (by rfl) rfl
    case h =>
      intro lx ax wx hE hR hF
      have e23 : ax.eval (.tmp 23) = _ := hF 3 (det 23 _) (by decide) (.tail _ (.head _))
      have e24 : ax.eval (.tmp 24) = _ := hF 4 (det 24 _) (by decide) (.head _)
      simp [go_sem, ↓IntWalk.iteOmega, ev e23, ev e24]
      with_reducible rfl
    apply BuildR.stop
    refine ⟨by kernel_rfl, ?_⟩
    intro lx ax w3 hE R3 hL hF
    have e20 : ax.eval (.tmp 20) = _ := hF 0 (det 20 _) (.tail _ (.tail _ (.tail _ (.tail _ (.tail _ (.head _))))))
    have e21 : ax.eval (.tmp 21) = _ := hF 1 (det 21 _) (.tail _ (.tail _ (.tail _ (.tail _ (.head _)))))
    have e22 : ax.eval (.tmp 22) = _ := hF 2 (det 22 _) (.tail _ (.tail _ (.tail _ (.head _))))
    have e23 : ax.eval (.tmp 23) = _ := hF 3 (det 23 _) (.tail _ (.tail _ (.head _)))
    have e24 : ax.eval (.tmp 24) = _ := hF 4 (det 24 _) (.tail _ (.head _))
    have e25 : ax.eval (.tmp 25) = _ := hF 5 (det 25 _) (.head _)
    rw [AllEq.frame (D := [20, 21, 22, 23, 24, 25]) (AllEq.cons e20 (AllEq.cons e21 (AllEq.cons e22 (AllEq.cons e23 (AllEq.cons e24 (AllEq.cons e25 (AllEq.nil))))))) hE rfl]
    clear hF hE e20 e21 e22 e23 e24 e25
    simp only [List.foldl_cons, List.foldl_nil, Act.put, List.setIfInBounds_toArray, List.set_cons_succ, List.set_cons_zero]
    simp only [List.length_cons, List.length_nil, Nat.zero_add, Nat.reduceAdd, List.drop_succ_cons, List.drop_zero, List.drop_nil, tailOps]
    have hg3 := HG.out.ext R3
    have hap2 := fun ty => HAP.out w3 ⟨g, 0, none⟩ 0 ty hg3 (fun h => by omega)
    have hl2 := HL.out
    simp only [Nat.sub_self, Nat.add_sub_cancel] at hap2 hl2
    have HL2 := Lib.hid hl2
    clear hL hl2
    refine wp_append_run _ _ _ _ rfl _ _ rfl rfl (hap2 _) ?_
    have HN := Lib.hid (And.intro (hg3.setRow cur1.toArray) ((Chg.of_ext R3 [g]).trans (chg_setRow w3 g cur1.toArray)))
    generalize w3.setRow g cur1.toArray = w4 at HN ⊢
    clear hg3 R3 HAP HG hap2 HL
    have hclr : ∀ ty, (Builtin.clear_ #[29] ty #[.slice (some ⟨g, i * 2, none⟩) 1 1]).run Try.prog w4 = .ok (.tuple #[]) (w4.setRow g (splice cur1 (i * 2) zc).toArray) := fun ty => by
      have := run_clear_k (P := Try.prog) w4 29 38 ty ti zPair Try.underlying29 hi0 hz g (i * 2) 1 1 cur1.toArray 38 HN.out.1 (by omega) (by have := HL2.out.1; simp [Value.cells, this]; omega) (zeros_pair 1)
      rw [HZ.out.1] at this
      simpa using this
    have HCL := Lib.hid hclr
    clear hclr
    go_wp2_with (with_reducible refine wpList_clear_run (o := ⟨none, _, _, _, _, _⟩) rfl _ _ rfl _ rfl (HCL.out _) ?_)
    go_ret
    refine ⟨(splice cur1 (i * 2) zc).toArray, rfl, HN.out.1.setRow _, ?_, ?_, HN.out.2.trans (chg_setRow _ _ _)⟩
    · rw [List.size_toArray, length_splice _ _ _ (by have := HL2.out.1; have := HZ.out.2; omega)]
      exact HL2.out.1
    · rw [Nat.add_sub_cancel]
      show (splice cur1 (i * 2) zc).take (i * 2) = _
      unfold splice
      rw [List.take_append_of_le_length (by rw [List.length_take]; have := HL2.out.1; omega), List.take_take, Nat.min_self]
      exact HL2.out.2
  · obtain ⟨w0_, rfl⟩ : ∃ w0_, w0_ = w := ⟨_, rfl⟩
    go_enter Try.func80, Try.ntmps80
    go_upto_region 5 with fail
    refine wp_phasedR (Ext) (fun l w => Ext w0_ w) [[], [], [0, 1], [], [], [3, 4], [0, 1, 2, 3, 4, 5], [0, 1, 2, 3, 4, 5, 6]] [20, 21, 22, 23, 24, 25] (Ext.refl) (Ext.drew _) (by kernel_rfl) ?_
    apply BuildR.det 20 (Ext.refl) (fun l w h => h) (by rfl) (by rfl) rfl
    case h =>
      intro lx ax wx hE hR hF
      have e0 : ax.eval (.tmp 0) = .slice (some ⟨g, 0, none⟩) n cap := hE.eval 0 (by rfl) rfl
      simp [go_sem, ↓IntWalk.iteOmega, ev e0]
      with_reducible rfl
    apply BuildR.det 21 (Ext.refl) (fun l w h => h) (by rfl) (by rfl) rfl
    case h =>
      intro lx ax wx hE hR hF
      have e1 : ax.eval (.tmp 1) = .int .i64 i := hE.eval 1 (by rfl) rfl
      simp [go_sem, ↓IntWalk.iteOmega, ev e1]
      with_reducible rfl
    apply BuildR.det 22 (Ext.refl) (fun l w h => h) (by rfl) (by rfl) rfl
    case h =>
      intro lx ax wx hE hR hF
      have e20 : ax.eval (.tmp 20) = _ := hF 0 (det 20 _) (by decide) (.tail _ (.head _))
      have e21 : ax.eval (.tmp 21) = _ := hF 1 (det 21 _) (by decide) (.head _)
      simp [go_sem, ↓IntWalk.iteOmega, ev e20, ev e21]
      with_reducible rfl
    apply BuildR.det 23 (Ext.refl) (fun l w h => h) (by rfl) (by rfl) rfl
    case h =>
      intro lx ax wx hE hR hF
      have e0 : ax.eval (.tmp 0) = .slice (some ⟨g, 0, none⟩) n cap := hE.eval 0 (by rfl) rfl
      simp [go_sem, ↓IntWalk.iteOmega, ev e0]
      with_reducible rfl
    apply BuildR.det 24 (Ext.refl) (fun l w h => h) (by rfl) (by rfl) rfl
    case h =>
      intro lx ax wx hE hR hF
      have e2 : ax.eval (.tmp 2) = .int .i64 ((i : Int) + 1) := hE.eval 2 (by rfl) rfl
      simp [go_sem, ↓IntWalk.iteOmega, ev e2]
      with_reducible rfl
    apply BuildR.det 25 (Ext.refl) (fun l w h => h) (by rfl) (by rfl) rfl
    case h =>
      intro lx ax wx hE hR hF
      have e23 : ax.eval (.tmp 23) = _ := hF 3 (det 23 _) (by decide) (.tail _ (.head _))
      have e24 : ax.eval (.tmp 24) = _ := hF 4 (det 24 _) (by decide) (.head _)
      simp [go_sem, ↓IntWalk.iteOmega, ev e23, ev e24]
      with_reducible rfl
    apply BuildR.stop
    refine ⟨by kernel_rfl, ?_⟩
    intro lx ax w3 hE R3 hL hF
    have e20 : ax.eval (.tmp 20) = _ := hF 0 (det 20 _) (.tail _ (.tail _ (.tail _ (.tail _ (.tail _ (.head _))))))
    have e21 : ax.eval (.tmp 21) = _ := hF 1 (det 21 _) (.tail _ (.tail _ (.tail _ (.tail _ (.head _)))))
    have e22 : ax.eval (.tmp 22) = _ := hF 2 (det 22 _) (.tail _ (.tail _ (.tail _ (.head _))))
    have e23 : ax.eval (.tmp 23) = _ := hF 3 (det 23 _) (.tail _ (.tail _ (.head _)))
    have e24 : ax.eval (.tmp 24) = _ := hF 4 (det 24 _) (.tail _ (.head _))
    have e25 : ax.eval (.tmp 25) = _ := hF 5 (det 25 _) (.head _)
    rw [AllEq.frame (D := [20, 21, 22, 23, 24, 25]) (AllEq.cons e20 (AllEq.cons e21 (AllEq.cons e22 (AllEq.cons e23 (AllEq.cons e24 (AllEq.cons e25 (AllEq.nil))))))) hE rfl]
    clear hF hE e20 e21 e22 e23 e24 e25
    simp only [List.foldl_cons, List.foldl_nil, Act.put, List.setIfInBounds_toArray, List.set_cons_succ, List.set_cons_zero]
    simp only [List.length_cons, List.length_nil, Nat.zero_add, Nat.reduceAdd, List.drop_succ_cons, List.drop_zero, List.drop_nil, tailOps]
    have hg3 := HG.out.ext R3
    clear hL
    refine wp_append_run _ _ _ _ rfl _ _ rfl rfl (HAP.out w3 ⟨g, (i + 1) * 2, none⟩ (cap - (i + 1)) _ hg3 (fun _ => rfl)) ?_
    have HN := Lib.hid (And.intro (hg3.setRow cur1.toArray) ((Chg.of_ext R3 [g]).trans (chg_setRow w3 g cur1.toArray)))
    generalize w3.setRow g cur1.toArray = w4 at HN ⊢
    clear hg3 R3 HAP HG
    have hclr : ∀ ty, (Builtin.clear_ #[29] ty #[.slice (some ⟨g, (n - 1) * 2, none⟩) (n - (n - 1)) (cap - (n - 1))]).run Try.prog w4 = .ok (.tuple #[]) (w4.setRow g (splice cur1 ((n - 1) * 2) zc).toArray) := fun ty => by
      have := run_clear_k (P := Try.prog) w4 29 38 ty ti zPair Try.underlying29 hi0 hz g ((n - 1) * 2) 1 (cap - (n - 1)) cur1.toArray 38 HN.out.1 (by omega) (by have := HL.out.1; simp [Value.cells, this]; omega) (zeros_pair 1)
      rw [HZ.out.1] at this
      rw [show n - (n - 1) = 1 by omega]
      simpa using this
    have HCL := Lib.hid hclr
    clear hclr
    go_wp2_with (with_reducible refine wpList_clear_run (o := ⟨none, _, _, _, _, _⟩) rfl _ _ rfl _ rfl (HCL.out _) ?_)
    go_ret
    refine ⟨(splice cur1 ((n - 1) * 2) zc).toArray, rfl, HN.out.1.setRow _, ?_, ?_, HN.out.2.trans (chg_setRow _ _ _)⟩
    · rw [List.size_toArray, length_splice _ _ _ (by have := HL.out.1; have := HZ.out.2; omega)]
      exact HL.out.1
    · show (splice cur1 ((n - 1) * 2) zc).take ((n - 1) * 2) = _
      unfold splice
      rw [List.take_append_of_le_length (by rw [List.length_take]; have := HL.out.1; omega), List.take_take, Nat.min_self]
      exact HL.out.2
theorem delete_any {H : Nat} {A : World} {R : List Thing} (v : Value) (n i : Nat) (xs : List Value) (w : World) (hO : OwnT H A (tRow 38 2 v n xs :: R) w) (hi : i < n) (h1 : ∀ u ∈ xs, u.oneCell' = true) :
    Calls Try.prog 80 #[v, .int .i64 i, .int .i64 ((i : Int) + 1)] w fun e w' => ∃ v',
      e = .returned v' ∧ OwnT H A (tRow 38 2 v' (n - 1) (xs.take (i * 2) ++ xs.drop ((i + 1) * 2)) :: R) w' := by
  have hr := hO.r0
  obtain ⟨g, cap, cur, rfl, hg, hnc, hcm, hcur, hx⟩ := row_some hr (by omega)
  refine (delete_raw g n cap i cur xs w hg hi hnc hcm hcur hx h1).mono ?_
  rintro e w' ⟨cur', rfl, h2, h3, h4, h5⟩
  exact ⟨_, rfl, hO.row (row_of h2 (by omega) hcm h3 h4) h5.grown (.inl rfl)⟩
end Go.Proofs.Ytngehbhhpkkijaa
