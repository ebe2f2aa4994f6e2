/- chunk's law: fill, awake (printed by XChunkAw.gen.py). -/
import Derived.Test.YtdpohbaeopidmaaKChunkExact18
namespace Go.Proofs.Ytdpohbaeopidmaa
attribute [local simp] BigFrame.eval_const BigFrame.eval_global BigFrame.eval_func
set_option linter.unusedVariables false
set_option linter.unusedSimpArgs false
open Go.RowKit Go.Maps

set_option maxRecDepth 100000 in
set_option maxHeartbeats 4000000 in
theorem fill18_any (b : UInt8) (n : Nat) (hn : n ≤ 1000) (W0 : World) : Calls Try.prog 52 #[.int .u8 ↑b.toNat, .int .i64 ↑n] W0 fun e w' => e = .returned (.string (sB (List.replicate (16 * n) b))) ∧ Ext W0 w' := by
  have O := OwnT.start W0
  obtain ⟨N, hN⟩ : ∃ N : Nat, 16 * n = N := ⟨_, rfl⟩
  have hN2 : N ≤ 10000000 := by omega
  rw [hN]
  obtain ⟨g, w9, hmk, hrow, hE9⟩ := mk_bytes W0 N hN2
  refine calls_F Try.func52 rfl 22 rfl (by rfl) ?_
  intro a1 k hargs
  have e0 : a1.eval (.tmp 0) = .int .u8 ↑b.toNat := hargs 0 _ rfl
  have e1 : a1.eval (.tmp 1) = .int .i64 ↑n := hargs 1 _ rfl
  clear hargs
  refine wp_seq ?_
  refine wp_region_lit ?_
  have hE := Env.refl a1 [4]
  apply sq_det 4 hE k rfl (by rfl) (by rfl) rfl
  case h =>
    exact x_assign rfl rfl
  intro a2 hE e4 kp
  refine wpList_nil ?_
  replace e0 := hE.eval 0 (by rfl) e0
  replace e1 := hE.eval 1 (by rfl) e1
  replace k := k.env hE
  clear hE e4
  refine then_n ?_
  refine wp_seq ?_
  refine wp_region_lit ?_
  have hE := Env.refl a2 [7, 8, 9, 5]
  apply sq_det 7 hE k rfl (by rfl) (by rfl) rfl
  case h =>
    exact x_move rfl (hE.eval 1 (by rfl) e1)
  intro a3 hE e7 kp
  apply sq_det 8 hE k rfl (by rfl) (by rfl) rfl
  case h =>
    exact x_mul rfl rfl e7 (by omega)
  intro a4 hE e8 kp
  replace e8 := e8.trans (int_eq (show 16 * (n : Int) = (N : Int) by omega))
  apply sq_val 9 hE k rfl (by rfl) (by rfl) rfl
  case h =>
    exact x_make rfl e8 e8 hmk
  intro a5 hE e9 kp
  replace O := OwnT.newRow O hE9 hrow
  clear hmk hrow hE9
  apply sq_det 5 hE k rfl (by rfl) (by rfl) rfl
  case h =>
    exact x_assign rfl e9
  intro a6 hE e5 kp
  refine wpList_nil ?_
  replace e0 := hE.eval 0 (by rfl) e0
  replace k := k.env hE
  clear hE e1
  refine then_n ?_
  refine wp_seq ?_
  refine wp_seq ?_
  refine wp_region_lit ?_
  have hE := Env.refl a6 [6]
  apply sq_det 6 hE k rfl (by rfl) (by rfl) rfl
  case h =>
    exact x_assign rfl rfl
  intro a7 hE e6 kp
  refine wpList_nil ?_
  replace e0 := hE.eval 0 (by rfl) e0
  replace e5 := hE.eval 5 (by rfl) e5
  replace k := k.env hE
  clear hE
  refine then_n ?_
  refine wp_block ?_
  refine wp_loop (fun a w => Fr 22 a ∧ a.eval (.tmp 0) = .int .u8 ↑b.toNat ∧ a.eval (.tmp 5) = .slice (some ⟨g, 0, none⟩) N N ∧ ∃ j : Nat, a.eval (.tmp 6) = .int .i64 ↑j ∧ j ≤ N ∧ OwnT W0.heap.size W0 [tRow 5 1 (.slice (some ⟨g, 0, none⟩) N N) N (fillC b N j)] w) (fun a w => N - (intOf (a.eval (.tmp 6))).toNat) ?_ ?_
  · exact ⟨k, e0, e5, 0, e6, Nat.zero_le _, (by rw [fillC_zero]; exact O)⟩
  intro a8 w9 hI
  clear k e0 e5
  obtain ⟨k, e0, e5, h_⟩ := hI
  clear O e6
  obtain ⟨j, e6, hj, O⟩ := h_
  have mc := e6
  refine wp_seq ?_
  refine wp_seq ?_
  refine wp_region_lit ?_
  have hE := Env.refl a8 [10, 11, 12, 13]
  apply sq_det 10 hE k rfl (by rfl) (by rfl) rfl
  case h =>
    exact x_move rfl (hE.eval 6 (by rfl) e6)
  intro a10 hE e10 kp
  apply sq_det 11 hE k rfl (by rfl) (by rfl) rfl
  case h =>
    exact x_move rfl (hE.eval 5 (by rfl) e5)
  intro a11 hE e11 kp
  replace e10 := (kp 10 rfl).trans e10
  apply sq_det 12 hE k rfl (by rfl) (by rfl) rfl
  case h =>
    exact x_len Try.underlying66 rfl e11
  intro a12 hE e12 kp
  replace e10 := (kp 10 rfl).trans e10
  apply sq_det 13 hE k rfl (by rfl) (by rfl) rfl
  case h =>
    exact x_lss rfl e10 e12
  intro a13 hE e13 kp
  refine wpList_nil ?_
  replace e0 := hE.eval 0 (by rfl) e0
  replace e5 := hE.eval 5 (by rfl) e5
  replace e6 := hE.eval 6 (by rfl) e6
  replace k := k.env hE
  clear hE
  refine then_n ?_
  by_cases hlt : j < N
  · have hltI : (j : Int) < (N : Int) := by omega
    refine cond_t e13 (congrArg Value.bool (decide_eq_true (by omega))) ?_
    clear e13
    obtain ⟨hc, hfz⟩ := row1_cell (OwnT.get O 0 rfl) (i := j) (List.getElem?_eq_getElem (by rw [fillC_len hj]; exact hlt))
    refine wp_skip ?_
    refine then_n ?_
    refine wp_seq ?_
    refine wp_block ?_
    refine wp_region_lit ?_
    have hE := Env.refl a13 [16, 17, 18, 19]
    apply sq_det 16 hE k rfl (by rfl) (by rfl) rfl
    case h =>
      exact x_move rfl (hE.eval 5 (by rfl) e5)
    intro a14 hE e16 kp
    apply sq_det 17 hE k rfl (by rfl) (by rfl) rfl
    case h =>
      exact x_move rfl (hE.eval 6 (by rfl) e6)
    intro a15 hE e17 kp
    replace e16 := (kp 16 rfl).trans e16
    apply sq_det 18 hE k rfl (by rfl) (by rfl) rfl
    case h =>
      exact x_move rfl (hE.eval 0 (by rfl) e0)
    intro a16 hE e18 kp
    replace e16 := (kp 16 rfl).trans e16
    replace e17 := (kp 17 rfl).trans e17
    apply sq_det 19 hE k rfl (by rfl) (by rfl) rfl
    case h =>
      simp [go_sem, ↓IntWalk.iteOmega, ev e16, ev e17]
      with_reducible rfl
    intro a17 hE e19 kp
    replace e18 := (kp 18 rfl).trans e18
    refine sq_unit (w' := (w9.setCell ⟨g, j, none⟩ (u8V b))) hE rfl rfl ?_ ?_
    · simp [go_sem, ↓IntWalk.iteOmega, ev e19, ev e18, hc, hfz, u8V]
    replace O := OwnT.setRow1 O (i := j) hlt (u8V b)
    clear hc hfz
    rw [fillC_set hlt] at O
    generalize (w9.setCell ⟨g, j, none⟩ (u8V b)) = w18 at O ⊢
    refine wpList_nil ?_
    replace e0 := hE.eval 0 (by rfl) e0
    replace e5 := hE.eval 5 (by rfl) e5
    replace e6 := hE.eval 6 (by rfl) e6
    replace k := k.env hE
    clear hE e18 e19
    refine block_n ?_
    refine then_n ?_
    refine wp_region_lit ?_
    have hE := Env.refl a17 [14, 15, 6]
    apply sq_det 14 hE k rfl (by rfl) (by rfl) rfl
    case h =>
      exact x_move rfl e6
    intro a19 hE e14 kp
    replace e6 := (kp 6 rfl).trans e6
    apply sq_det 15 hE k rfl (by rfl) (by rfl) rfl
    case h =>
      exact x_add rfl e14 rfl (by omega)
    intro a20 hE e15 kp
    replace e6 := (kp 6 rfl).trans e6
    apply sq_det 6 hE k rfl (by rfl) (by rfl) rfl
    case h =>
      exact x_assign rfl e15
    intro a21 hE e6 kp
    refine wpList_nil ?_
    replace e0 := hE.eval 0 (by rfl) e0
    replace e5 := hE.eval 5 (by rfl) e5
    replace k := k.env hE
    clear hE
    refine then_n ?_
    refine ⟨⟨k, e0, e5, j + 1, e6, by omega, O⟩, ?_⟩
    rw [e6, mc]; simp only [intOf]; omega
  · have hltI : ¬ (j : Int) < (N : Int) := by omega
    refine cond_f e13 (congrArg Value.bool (decide_eq_false (by omega))) ?_
    clear e0 e6 e13
    obtain rfl : j = N := by omega
    rw [fillC_all, ← List.map_replicate] at O
    have hcv := conv_row (OwnT.get O 0 rfl) List.length_replicate
    refine wp_exit ?_
    refine then_x ?_
    refine then_x ?_
    refine block_x ?_
    refine then_n ?_
    refine wp_seq ?_
    refine wp_region_lit ?_
    have hE := Env.refl a13 [20, 21, 4]
    apply sq_det 20 hE k rfl (by rfl) (by rfl) rfl
    case h =>
      exact x_move rfl (hE.eval 5 (by rfl) e5)
    intro a22 hE e20 kp
    apply sq_det 21 hE k rfl (by rfl) (by rfl) rfl
    case h =>
      exact x_conv rfl e20 hcv
    intro a23 hE e21 kp
    apply sq_det 4 hE k rfl (by rfl) (by rfl) rfl
    case h =>
      exact x_assign rfl e21
    intro a24 hE e4 kp
    refine wpList_nil ?_
    replace k := k.env hE
    clear hE e5
    refine then_n ?_
    refine wp_ret ?_
    refine ret_F1 rfl k e4 ?_
    exact ⟨rfl, O.below⟩
abbrev aw18 : List UInt8 := [48, 49, 50, 51, 52, 53, 54, 55, 56, 57, 97, 98, 99, 100, 101, 102]
abbrev aw18L : Int → Option Sec := wrS aw18 ((3 * 2 + 1 : Nat) : Int) (fun _ => none) 1
set_option maxRecDepth 100000 in
set_option maxHeartbeats 4000000 in
theorem awake18 (W0 : World) : Calls Try.prog 48 #[] W0 fun e w' => e = .returned (.bool true) ∧ Ext W0 w' := by
  have O := OwnT.start W0
  refine calls_F Try.func48 rfl 79 rfl (by rfl) ?_
  intro a1 k hargs
  clear hargs
  refine wp_seq ?_
  refine wp_region_lit ?_
  have hE := Env.refl a1 [0]
  apply sq_det 0 hE k rfl (by rfl) (by rfl) rfl
  case h =>
    exact x_assign rfl rfl
  intro a2 hE e0 kp
  refine wpList_nil ?_
  replace k := k.env hE
  clear hE e0
  refine then_n ?_
  refine wp_seq ?_
  refine wp_region_lit ?_
  have hE := Env.refl a2 [11, 1]
  apply sq_call 11 hE k rfl (by rfl) (by rfl) rfl
  case h =>
    simp [go_sem, ↓IntWalk.iteOmega]
    with_reducible exact ⟨rfl, rfl⟩
  case hc => exact new_mn O
  clear O
  rintro e w4 ⟨mb, rfl, O⟩
  refine ⟨_, rfl, ?_⟩
  intro a3 hE e11 kp
  apply sq_det 1 hE k rfl (by rfl) (by rfl) rfl
  case h =>
    exact x_assign rfl e11
  intro a5 hE e1 kp
  refine wpList_nil ?_
  replace k := k.env hE
  clear hE
  refine then_n ?_
  refine wp_seq ?_
  refine wp_region_lit ?_
  have hE := Env.refl a5 [12, 13, 2]
  apply sq_det 12 hE k rfl (by rfl) (by rfl) rfl
  case h =>
    exact x_move rfl (hE.eval 1 (by rfl) e1)
  intro a6 hE e12 kp
  apply sq_call 13 hE k rfl (by rfl) (by rfl) rfl
  case h =>
    simp [go_sem, ↓IntWalk.iteOmega, ev e12]
    with_reducible exact ⟨rfl, rfl⟩
  case hc => exact dnew_any 9 9 _ O (by decide)
  clear O
  rintro e w8 ⟨p, B, cap, bm, rfl, O⟩
  refine ⟨_, rfl, ?_⟩
  intro a7 hE e13 kp
  apply sq_det 2 hE k rfl (by rfl) (by rfl) rfl
  case h =>
    exact x_assign rfl e13
  intro a9 hE e2 kp
  refine wpList_nil ?_
  replace e1 := hE.eval 1 (by rfl) e1
  replace k := k.env hE
  clear hE
  refine then_n ?_
  refine wp_seq ?_
  refine wp_region_lit ?_
  have hE := Env.refl a9 [15, 16, 17, 18, 14, 19, 20, 3, 4]
  apply sq_det 15 hE k rfl (by rfl) (by rfl) rfl
  case h =>
    exact x_move rfl (hE.eval 2 (by rfl) e2)
  intro a10 hE e15 kp
  apply sq_det 16 hE k rfl (by rfl) (by rfl) rfl
  case h =>
    exact x_move rfl (hE.eval 1 (by rfl) e1)
  intro a11 hE e16 kp
  replace e15 := (kp 15 rfl).trans e15
  apply sq_call 17 hE k rfl (by rfl) (by rfl) rfl
  case h =>
    simp [go_sem, ↓IntWalk.iteOmega, ev e16]
    with_reducible exact ⟨rfl, rfl⟩
  case hc => exact dnew_any 4 4 _ O (by decide)
  clear O
  rintro e w13 ⟨p2, B2, cap2, bm2, rfl, O⟩
  refine ⟨_, rfl, ?_⟩
  intro a12 hE e17 kp
  replace e15 := (kp 15 rfl).trans e15
  apply sq_call 18 hE k rfl (by rfl) (by rfl) rfl
  case h =>
    simp [go_sem, ↓IntWalk.iteOmega, ev e15, ev e17]
    with_reducible exact ⟨rfl, rfl⟩
  case hc => exact cnew_ok 2 _ O (OwnT.discAt O 1 rfl) (OwnT.discAt O 0 rfl) (by decide)
  clear O
  rintro e w15 ⟨db, rfl, O⟩
  refine ⟨_, rfl, ?_⟩
  intro a14 hE e18 kp
  apply sq_det 14 hE k rfl (by rfl) (by rfl) rfl
  case h =>
    exact x_move rfl e18
  intro a16 hE e14 kp
  apply sq_det 19 hE k rfl (by rfl) (by rfl) rfl
  case h =>
    simp [go_sem, ↓IntWalk.iteOmega, ev e14]
    with_reducible rfl
  intro a17 hE e19 kp
  replace e14 := (kp 14 rfl).trans e14
  apply sq_det 20 hE k rfl (by rfl) (by rfl) rfl
  case h =>
    simp [go_sem, ↓IntWalk.iteOmega, ev e14]
    with_reducible rfl
  intro a18 hE e20 kp
  replace e19 := (kp 19 rfl).trans e19
  apply sq_det 3 hE k rfl (by rfl) (by rfl) rfl
  case h =>
    exact x_assign rfl e19
  intro a19 hE e3 kp
  replace e20 := (kp 20 rfl).trans e20
  apply sq_det 4 hE k rfl (by rfl) (by rfl) rfl
  case h =>
    exact x_assign rfl e20
  intro a20 hE e4 kp
  replace e3 := (kp 3 rfl).trans e3
  refine wpList_nil ?_
  replace e2 := hE.eval 2 (by rfl) e2
  replace k := k.env hE
  clear hE e1
  refine then_n ?_
  refine wp_seq ?_
  refine wp_seq ?_
  refine wp_region_lit ?_
  have hE := Env.refl a20 [21, 22, 23, 24, 25, 26]
  apply sq_det 21 hE k rfl (by rfl) (by rfl) rfl
  case h =>
    exact x_move rfl (hE.eval 4 (by rfl) e4)
  intro a21 hE e21 kp
  apply sq_det 22 hE k rfl (by rfl) (by rfl) rfl
  case h =>
    exact x_dec (x_neq rfl e21 rfl) (decide_eq_false (by omega))
  intro a22 hE e22 kp
  apply sq_det 23 hE k rfl (by rfl) (by rfl) rfl
  case h =>
    exact x_move rfl e22
  intro a23 hE e23 kp
  apply sq_detg 24 hE k rfl (by rfl) (by rfl) rfl rfl e23
  case h =>
    exact x_move rfl (hE.eval 3 (by rfl) e3)
  intro a24 hE e24 kp
  replace e23 := (kp 23 rfl).trans e23
  apply sq_detg 25 hE k rfl (by rfl) (by rfl) rfl rfl e23
  case h =>
    simp [go_sem, ↓IntWalk.iteOmega, ev e24]
    with_reducible rfl
  intro a25 hE e25 kp
  replace e23 := (kp 23 rfl).trans e23
  apply sq_det 26 hE k rfl (by rfl) (by rfl) rfl
  case h =>
    exact x_pick_f rfl e23 e25
  intro a26 hE e26 kp
  refine wpList_nil ?_
  replace e2 := hE.eval 2 (by rfl) e2
  replace e3 := hE.eval 3 (by rfl) e3
  replace k := k.env hE
  clear hE e4
  refine then_n ?_
  refine cond_f e26 rfl ?_
  refine wp_skip ?_
  refine then_n ?_
  replace O : OwnT _ _ ([tDisc p mb B 9 cap bm (List.replicate 9 zsec) (fun _ => none), tMn mb mn0, tDisc p2 mb B2 4 cap2 bm2 (List.replicate 4 zsec) (fun _ => none), tBlk db 149 #[.pointer (some ⟨p, 0, none⟩), .pointer (some ⟨p2, 0, none⟩), .int .i64 (↑(2 : Nat))]]) w15 := OwnT.pick O [2, 3, 1, 0] (by decide)
  refine wp_seq ?_
  refine wp_region_lit ?_
  have hE := Env.refl a26 [5]
  apply sq_det 5 hE k rfl (by rfl) (by rfl) rfl
  case h =>
    exact x_assign rfl rfl
  intro a27 hE e5 kp
  refine wpList_nil ?_
  replace e2 := hE.eval 2 (by rfl) e2
  replace e3 := hE.eval 3 (by rfl) e3
  replace k := k.env hE
  clear hE e26
  refine then_n ?_
  refine wp_seq ?_
  refine wp_region_lit ?_
  have hE := Env.refl a27 [27, 28, 29, 30, 6]
  apply sq_det 27 hE k rfl (by rfl) (by rfl) rfl
  case h =>
    exact x_move rfl (hE.eval 3 (by rfl) e3)
  intro a28 hE e27 kp
  apply sq_det 28 hE k rfl (by rfl) (by rfl) rfl
  case h =>
    simp [go_sem, ↓IntWalk.iteOmega]
    with_reducible rfl
  intro a29 hE e28 kp
  replace e27 := (kp 27 rfl).trans e27
  apply sq_det 29 hE k rfl (by rfl) (by rfl) rfl
  case h =>
    exact x_move rfl (hE.eval 5 (by rfl) e5)
  intro a30 hE e29 kp
  replace e27 := (kp 27 rfl).trans e27
  replace e28 := (kp 28 rfl).trans e28
  apply sq_call 30 hE k rfl (by rfl) (by rfl) rfl
  case h =>
    simp [go_sem, ↓IntWalk.iteOmega, ev e27, ev e28, ev e29]
    with_reducible exact ⟨rfl, rfl⟩
  case hc => exact cwrite_f0 3 1 1 aw18 _ O (by decide) (by decide) (by decide) rfl (by decide) mn0_ok (by decide) mn0_free
  clear O
  rintro e w32 ⟨rfl, M', hF, hM, O⟩
  refine ⟨_, rfl, ?_⟩
  intro a31 hE e30 kp
  apply sq_det 6 hE k rfl (by rfl) (by rfl) rfl
  case h =>
    exact x_assign rfl e30
  intro a33 hE e6 kp
  refine wpList_nil ?_
  replace e2 := hE.eval 2 (by rfl) e2
  replace e3 := hE.eval 3 (by rfl) e3
  replace e5 := hE.eval 5 (by rfl) e5
  replace k := k.env hE
  clear hE
  refine then_n ?_
  refine wp_seq ?_
  refine wp_region_lit ?_
  have hE := Env.refl a33 [32, 33, 31, 34, 35, 7, 8]
  apply sq_det 32 hE k rfl (by rfl) (by rfl) rfl
  case h =>
    exact x_move rfl (hE.eval 2 (by rfl) e2)
  intro a34 hE e32 kp
  apply sq_call 33 hE k rfl (by rfl) (by rfl) rfl
  case h =>
    simp [go_sem, ↓IntWalk.iteOmega, ev e32]
    with_reducible exact ⟨rfl, rfl⟩
  case hc => exact dread_ok 7 1 _ (OwnT.disc O) (OwnT.get O 1 rfl) (by omega) hF.away
  rintro e w36 ⟨rfl, R⟩
  replace O := OwnT.ext O R
  refine ⟨_, rfl, ?_⟩
  intro a35 hE e33 kp
  apply sq_det 31 hE k rfl (by rfl) (by rfl) rfl
  case h =>
    exact x_move rfl e33
  intro a37 hE e31 kp
  apply sq_det 34 hE k rfl (by rfl) (by rfl) rfl
  case h =>
    simp [go_sem, ↓IntWalk.iteOmega, ev e31]
    with_reducible rfl
  intro a38 hE e34 kp
  replace e31 := (kp 31 rfl).trans e31
  apply sq_det 35 hE k rfl (by rfl) (by rfl) rfl
  case h =>
    simp [go_sem, ↓IntWalk.iteOmega, ev e31]
    with_reducible rfl
  intro a39 hE e35 kp
  replace e34 := (kp 34 rfl).trans e34
  apply sq_det 7 hE k rfl (by rfl) (by rfl) rfl
  case h =>
    exact x_assign rfl e34
  intro a40 hE e7 kp
  replace e35 := (kp 35 rfl).trans e35
  apply sq_det 8 hE k rfl (by rfl) (by rfl) rfl
  case h =>
    exact x_assign rfl e35
  intro a41 hE e8 kp
  replace e7 := (kp 7 rfl).trans e7
  refine wpList_nil ?_
  replace e3 := hE.eval 3 (by rfl) e3
  replace e5 := hE.eval 5 (by rfl) e5
  replace e6 := hE.eval 6 (by rfl) e6
  replace k := k.env hE
  clear hE e2
  refine then_n ?_
  refine wp_seq ?_
  refine wp_region_lit ?_
  have hE := Env.refl a41 [37, 38, 39, 36, 40, 41, 9, 10]
  apply sq_det 37 hE k rfl (by rfl) (by rfl) rfl
  case h =>
    exact x_move rfl (hE.eval 3 (by rfl) e3)
  intro a42 hE e37 kp
  apply sq_det 38 hE k rfl (by rfl) (by rfl) rfl
  case h =>
    simp [go_sem, ↓IntWalk.iteOmega]
    with_reducible rfl
  intro a43 hE e38 kp
  replace e37 := (kp 37 rfl).trans e37
  apply sq_call 39 hE k rfl (by rfl) (by rfl) rfl
  case h =>
    simp [go_sem, ↓IntWalk.iteOmega, ev e37, ev e38]
    with_reducible exact ⟨rfl, rfl⟩
  case hc => exact cread_ok0 3 0 2 _ (OwnT.disc O) (OwnT.get O 1 rfl) (OwnT.blk O 3 rfl) (by decide) (by decide) (by decide) (by decide) hF.away
  rintro e w45 ⟨rfl, R⟩
  replace O := OwnT.ext O R
  refine ⟨_, rfl, ?_⟩
  intro a44 hE e39 kp
  apply sq_det 36 hE k rfl (by rfl) (by rfl) rfl
  case h =>
    exact x_move rfl e39
  intro a46 hE e36 kp
  apply sq_det 40 hE k rfl (by rfl) (by rfl) rfl
  case h =>
    simp [go_sem, ↓IntWalk.iteOmega, ev e36]
    with_reducible rfl
  intro a47 hE e40 kp
  replace e36 := (kp 36 rfl).trans e36
  apply sq_det 41 hE k rfl (by rfl) (by rfl) rfl
  case h =>
    simp [go_sem, ↓IntWalk.iteOmega, ev e36]
    with_reducible rfl
  intro a48 hE e41 kp
  replace e40 := (kp 40 rfl).trans e40
  apply sq_det 9 hE k rfl (by rfl) (by rfl) rfl
  case h =>
    exact x_assign rfl e40
  intro a49 hE e9 kp
  replace e41 := (kp 41 rfl).trans e41
  apply sq_det 10 hE k rfl (by rfl) (by rfl) rfl
  case h =>
    exact x_assign rfl e41
  intro a50 hE e10 kp
  replace e9 := (kp 9 rfl).trans e9
  refine wpList_nil ?_
  replace e3 := hE.eval 3 (by rfl) e3
  replace e5 := hE.eval 5 (by rfl) e5
  replace e6 := hE.eval 6 (by rfl) e6
  replace e7 := hE.eval 7 (by rfl) e7
  replace e8 := hE.eval 8 (by rfl) e8
  replace k := k.env hE
  clear hE
  refine then_n ?_
  refine wp_seq ?_
  refine wp_region_lit ?_
  have hE := Env.refl a50 [42, 43, 44, 45, 46, 47, 48, 49, 50, 51, 52, 53, 54, 55, 56, 57, 58, 59, 60, 61, 62, 63, 64, 65, 66, 67, 68, 69, 70, 71, 72, 73, 74, 75, 76, 77, 78, 0]
  apply sq_det 42 hE k rfl (by rfl) (by rfl) rfl
  case h =>
    exact x_move rfl (hE.eval 6 (by rfl) e6)
  intro a51 hE e42 kp
  apply sq_det 43 hE k rfl (by rfl) (by rfl) rfl
  case h =>
    exact x_eql rfl e42 rfl
  intro a52 hE e43 kp
  apply sq_det 44 hE k rfl (by rfl) (by rfl) rfl
  case h =>
    exact x_move rfl e43
  intro a53 hE e44 kp
  apply sq_detg 45 hE k rfl (by rfl) (by rfl) rfl rfl e44
  case h =>
    exact x_move rfl (hE.eval 8 (by rfl) e8)
  intro a54 hE e45 kp
  replace e44 := (kp 44 rfl).trans e44
  apply sq_detg 46 hE k rfl (by rfl) (by rfl) rfl rfl e44
  case h =>
    exact x_eql rfl e45 rfl
  intro a55 hE e46 kp
  replace e44 := (kp 44 rfl).trans e44
  apply sq_det 47 hE k rfl (by rfl) (by rfl) rfl
  case h =>
    exact x_pick_t rfl e44 e46
  intro a56 hE e47 kp
  apply sq_det 48 hE k rfl (by rfl) (by rfl) rfl
  case h =>
    exact x_move rfl e47
  intro a57 hE e48 kp
  apply sq_detg 49 hE k rfl (by rfl) (by rfl) rfl rfl e48
  case h =>
    exact x_move rfl (hE.eval 7 (by rfl) e7)
  intro a58 hE e49 kp
  replace e48 := (kp 48 rfl).trans e48
  apply sq_detg 50 hE k rfl (by rfl) (by rfl) rfl rfl e48
  case h =>
    exact x_move rfl (hE.eval 5 (by rfl) e5)
  intro a59 hE e50 kp
  replace e48 := (kp 48 rfl).trans e48
  replace e49 := (kp 49 rfl).trans e49
  apply sq_detg 51 hE k rfl (by rfl) (by rfl) rfl rfl e48
  case h =>
    exact x_dec (x_eqs (l := readL (List.replicate 9 zsec) aw18L 7 1) (m := aw18) rfl e49 e50) (decide_eq_true (by kernel_rfl))
  intro a60 hE e51 kp
  replace e48 := (kp 48 rfl).trans e48
  apply sq_det 52 hE k rfl (by rfl) (by rfl) rfl
  case h =>
    exact x_pick_t rfl e48 e51
  intro a61 hE e52 kp
  apply sq_det 53 hE k rfl (by rfl) (by rfl) rfl
  case h =>
    exact x_move rfl e52
  intro a62 hE e53 kp
  apply sq_detg 54 hE k rfl (by rfl) (by rfl) rfl rfl e53
  case h =>
    exact x_move rfl (hE.eval 10 (by rfl) e10)
  intro a63 hE e54 kp
  replace e53 := (kp 53 rfl).trans e53
  apply sq_detg 55 hE k rfl (by rfl) (by rfl) rfl rfl e53
  case h =>
    exact x_eql rfl e54 rfl
  intro a64 hE e55 kp
  replace e53 := (kp 53 rfl).trans e53
  apply sq_det 56 hE k rfl (by rfl) (by rfl) rfl
  case h =>
    exact x_pick_t rfl e53 e55
  intro a65 hE e56 kp
  apply sq_det 57 hE k rfl (by rfl) (by rfl) rfl
  case h =>
    exact x_move rfl e56
  intro a66 hE e57 kp
  apply sq_detg 58 hE k rfl (by rfl) (by rfl) rfl rfl e57
  case h =>
    exact x_move rfl (hE.eval 9 (by rfl) e9)
  intro a67 hE e58 kp
  replace e57 := (kp 57 rfl).trans e57
  apply sq_callg 59 hE k rfl (by rfl) (by rfl) rfl rfl e57
  case h =>
    simp [go_sem, ↓IntWalk.iteOmega]
    with_reducible exact ⟨rfl, rfl⟩
  case hc => exact zeros4_any 1 1 _ (by decide)
  rintro e w69 ⟨rfl, R⟩
  replace O := OwnT.ext O R
  refine ⟨_, rfl, ?_⟩
  intro a68 hE e59 kp
  replace e57 := (kp 57 rfl).trans e57
  replace e58 := (kp 58 rfl).trans e58
  apply sq_detg 60 hE k rfl (by rfl) (by rfl) rfl rfl e57
  case h =>
    exact x_move rfl (hE.eval 5 (by rfl) e5)
  intro a70 hE e60 kp
  replace e57 := (kp 57 rfl).trans e57
  replace e58 := (kp 58 rfl).trans e58
  replace e59 := (kp 59 rfl).trans e59
  apply sq_detg 61 hE k rfl (by rfl) (by rfl) rfl rfl e57
  case h =>
    exact x_cat (l := List.replicate (16 * 1) 0) (m := aw18) rfl e59 e60 (by simp)
  intro a71 hE e61 kp
  replace e57 := (kp 57 rfl).trans e57
  replace e58 := (kp 58 rfl).trans e58
  apply sq_detg 62 hE k rfl (by rfl) (by rfl) rfl rfl e57
  case h =>
    exact x_dec (x_eqs (l := readL (List.replicate 9 zsec) aw18L (3 * 2 + 0) 2) (m := List.replicate (16 * 1) 0 ++ aw18) rfl e58 e61) (decide_eq_true (by kernel_rfl))
  intro a72 hE e62 kp
  replace e57 := (kp 57 rfl).trans e57
  apply sq_det 63 hE k rfl (by rfl) (by rfl) rfl
  case h =>
    exact x_pick_t rfl e57 e62
  intro a73 hE e63 kp
  apply sq_det 64 hE k rfl (by rfl) (by rfl) rfl
  case h =>
    exact x_move rfl e63
  intro a74 hE e64 kp
  apply sq_detg 65 hE k rfl (by rfl) (by rfl) rfl rfl e64
  case h =>
    exact x_move rfl (hE.eval 3 (by rfl) e3)
  intro a75 hE e65 kp
  replace e64 := (kp 64 rfl).trans e64
  apply sq_callg 66 hE k rfl (by rfl) (by rfl) rfl rfl e64
  case h =>
    simp [go_sem, ↓IntWalk.iteOmega, ev e65]
    with_reducible exact ⟨rfl, rfl⟩
  case hc => exact cslots_0 _ (OwnT.disc O) (OwnT.blk O 3 rfl) (by decide)
  rintro e w77 ⟨rfl, R⟩
  replace O := OwnT.ext O R
  refine ⟨_, rfl, ?_⟩
  intro a76 hE e66 kp
  replace e64 := (kp 64 rfl).trans e64
  apply sq_detg 67 hE k rfl (by rfl) (by rfl) rfl rfl e64
  case h =>
    exact x_dec (x_eql rfl e66 rfl) (decide_eq_true (by kernel_rfl))
  intro a78 hE e67 kp
  replace e64 := (kp 64 rfl).trans e64
  apply sq_det 68 hE k rfl (by rfl) (by rfl) rfl
  case h =>
    exact x_pick_t rfl e64 e67
  intro a79 hE e68 kp
  apply sq_det 69 hE k rfl (by rfl) (by rfl) rfl
  case h =>
    exact x_move rfl e68
  intro a80 hE e69 kp
  apply sq_detg 70 hE k rfl (by rfl) (by rfl) rfl rfl e69
  case h =>
    exact x_move rfl (hE.eval 3 (by rfl) e3)
  intro a81 hE e70 kp
  replace e69 := (kp 69 rfl).trans e69
  apply sq_callg 71 hE k rfl (by rfl) (by rfl) rfl rfl e69
  case h =>
    simp [go_sem, ↓IntWalk.iteOmega, ev e70]
    with_reducible exact ⟨rfl, rfl⟩
  case hc => exact cslots_1 _ (OwnT.discAt O 2 rfl) (OwnT.blk O 3 rfl) (by decide)
  rintro e w83 ⟨rfl, R⟩
  replace O := OwnT.ext O R
  refine ⟨_, rfl, ?_⟩
  intro a82 hE e71 kp
  replace e69 := (kp 69 rfl).trans e69
  apply sq_detg 72 hE k rfl (by rfl) (by rfl) rfl rfl e69
  case h =>
    exact x_dec (x_eql rfl e71 rfl) (decide_eq_true (by kernel_rfl))
  intro a84 hE e72 kp
  replace e69 := (kp 69 rfl).trans e69
  apply sq_det 73 hE k rfl (by rfl) (by rfl) rfl
  case h =>
    exact x_pick_t rfl e69 e72
  intro a85 hE e73 kp
  apply sq_det 74 hE k rfl (by rfl) (by rfl) rfl
  case h =>
    exact x_move rfl e73
  intro a86 hE e74 kp
  apply sq_detg 75 hE k rfl (by rfl) (by rfl) rfl rfl e74
  case h =>
    exact x_move rfl (hE.eval 3 (by rfl) e3)
  intro a87 hE e75 kp
  replace e74 := (kp 74 rfl).trans e74
  apply sq_callg 76 hE k rfl (by rfl) (by rfl) rfl rfl e74
  case h =>
    simp [go_sem, ↓IntWalk.iteOmega, ev e75]
    with_reducible exact ⟨rfl, rfl⟩
  case hc => exact csize_any _ (OwnT.blk O 3 rfl)
  rintro e _ ⟨rfl, rfl⟩
  refine ⟨_, rfl, ?_⟩
  intro a88 hE e76 kp
  replace e74 := (kp 74 rfl).trans e74
  apply sq_detg 77 hE k rfl (by rfl) (by rfl) rfl rfl e74
  case h =>
    exact x_dec (x_eql rfl e76 rfl) (decide_eq_true rfl)
  intro a89 hE e77 kp
  replace e74 := (kp 74 rfl).trans e74
  apply sq_det 78 hE k rfl (by rfl) (by rfl) rfl
  case h =>
    exact x_pick_t rfl e74 e77
  intro a90 hE e78 kp
  apply sq_det 0 hE k rfl (by rfl) (by rfl) rfl
  case h =>
    exact x_assign rfl e78
  intro a91 hE e0 kp
  refine wpList_nil ?_
  replace k := k.env hE
  clear hE e3 e5 e6 e7 e8 e9 e10
  refine then_n ?_
  refine wp_ret ?_
  refine ret_F1 rfl k e0 ?_
  exact ⟨rfl, O.below⟩
end Go.Proofs.Ytdpohbaeopidmaa
