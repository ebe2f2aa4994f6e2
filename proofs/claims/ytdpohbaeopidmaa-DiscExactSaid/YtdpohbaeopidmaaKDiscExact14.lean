/- disc's law: sector; the reference's Zeros (printed by XFillA.gen.py). -/
import Derived.Test.YtdpohbaeopidmaaKDiscExact13
namespace Go.Proofs.Ytdpohbaeopidmaa
set_option linter.unusedVariables false
set_option linter.unusedSimpArgs false
open Go.RowKit

set_option maxRecDepth 100000 in
set_option maxHeartbeats 4000000 in
theorem sector_any (b : UInt8)  (W0 : World) : Calls Try.prog 40 #[.int .u8 ↑b.toNat] W0 fun e w' => e = .returned (.string (sB (List.replicate (16) b))) ∧ Ext W0 w' := by
  have O := OwnT.start W0
  obtain ⟨N, hN⟩ : ∃ N : Nat, 16 = N := ⟨_, rfl⟩
  have hN2 : N ≤ 10000000 := by omega
  rw [hN]
  obtain ⟨g, w9, hmk, hrow, hE9⟩ := mk_bytes W0 N hN2
  refine calls_F Try.func40 rfl 18 rfl (by rfl) ?_
  intro a1 k hargs
  have e0 : a1.eval (.tmp 0) = .int .u8 ↑b.toNat := hargs 0 _ rfl
  clear hargs
  refine wp_seq ?_
  refine wp_region_lit ?_   -- region 0
  have hE := Env.refl a1 [2]
  apply sq_det 2 hE k rfl (by rfl) (by rfl) rfl
  case h =>   -- 0: t2 := Op.assign (const (Value.string {data := #[]}))
    exact x_assign rfl rfl
  intro a2 hE e2 kp
  refine wpList_nil ?_
  replace e0 := hE.eval 0 (by rfl) e0
  replace k := k.env hE
  clear hE e2
  refine then_n ?_
  refine wp_seq ?_
  refine wp_region_lit ?_   -- region 1
  have hE := Env.refl a2 [5, 3]
  apply sq_val 5 hE k rfl (by rfl) (by rfl) rfl
  case h =>   -- 0: t5 := Op.makeSlice 66 (const (Value.int IntKind.i64 16)) (const (Value.int I
    exact x_make rfl (congrArg (fun z : Nat => Value.int .i64 z) hN) (congrArg (fun z : Nat => Value.int .i64 z) hN) hmk
  intro a3 hE e5 kp
  replace O := OwnT.newRow O hE9 hrow
  clear hmk hrow hE9
  apply sq_det 3 hE k rfl (by rfl) (by rfl) rfl
  case h =>   -- 1: t3 := Op.assign (tmp 5)
    exact x_assign rfl e5
  intro a4 hE e3 kp
  refine wpList_nil ?_
  replace e0 := hE.eval 0 (by rfl) e0
  replace k := k.env hE
  clear hE
  refine then_n ?_
  refine wp_seq ?_
  refine wp_seq ?_
  refine wp_region_lit ?_   -- region 2
  have hE := Env.refl a4 [4]
  apply sq_det 4 hE k rfl (by rfl) (by rfl) rfl
  case h =>   -- 0: t4 := Op.assign (const (Value.int IntKind.i64 0))
    exact x_assign rfl rfl
  intro a5 hE e4 kp
  refine wpList_nil ?_
  replace e0 := hE.eval 0 (by rfl) e0
  replace e3 := hE.eval 3 (by rfl) e3
  replace k := k.env hE
  clear hE
  refine then_n ?_
  refine wp_block ?_
  refine wp_loop (fun a w => Fr 18 a ∧ a.eval (.tmp 0) = .int .u8 ↑b.toNat ∧ a.eval (.tmp 3) = .slice (some ⟨g, 0, none⟩) N N ∧ ∃ j : Nat, a.eval (.tmp 4) = .int .i64 ↑j ∧ j ≤ N ∧ OwnT W0.heap.size W0 [tRow 5 1 (.slice (some ⟨g, 0, none⟩) N N) N (fillC b N j)] w) (fun a w => N - (intOf (a.eval (.tmp 4))).toNat) ?_ ?_
  · exact ⟨k, e0, e3, 0, e4, Nat.zero_le _, (by rw [fillC_zero]; exact O)⟩
  intro a6 w7 hI
  clear k e0 e3
  obtain ⟨k, e0, e3, h_⟩ := hI
  clear O e4
  obtain ⟨j, e4, hj, O⟩ := h_
  have mc := e4
  refine wp_seq ?_
  refine wp_seq ?_
  refine wp_region_lit ?_   -- region 3
  have hE := Env.refl a6 [6, 7, 8, 9]
  apply sq_det 6 hE k rfl (by rfl) (by rfl) rfl
  case h =>   -- 0: t6 := Op.move (tmp 4)
    exact x_move rfl (hE.eval 4 (by rfl) e4)
  intro a8 hE e6 kp
  apply sq_det 7 hE k rfl (by rfl) (by rfl) rfl
  case h =>   -- 1: t7 := Op.move (tmp 3)
    exact x_move rfl (hE.eval 3 (by rfl) e3)
  intro a9 hE e7 kp
  replace e6 := (kp 6 rfl).trans e6
  apply sq_det 8 hE k rfl (by rfl) (by rfl) rfl
  case h =>   -- 2: t8 := Op.call {callee := Callee.builtin Builtin.len, args := #[tmp 7], argTy
    exact x_len Try.underlying66 rfl e7
  intro a10 hE e8 kp
  replace e6 := (kp 6 rfl).trans e6
  apply sq_det 9 hE k rfl (by rfl) (by rfl) rfl
  case h =>   -- 3: t9 := Op.binOp BinOp.lss 3 (tmp 6) (tmp 8) 3
    exact x_lss rfl e6 e8
  intro a11 hE e9 kp
  refine wpList_nil ?_
  replace e0 := hE.eval 0 (by rfl) e0
  replace e3 := hE.eval 3 (by rfl) e3
  replace e4 := hE.eval 4 (by rfl) e4
  replace k := k.env hE
  clear hE
  refine then_n ?_
  by_cases hlt : j < N
  · have hltI : (j : Int) < (N : Int) := by omega
    refine cond_t e9 (congrArg Value.bool (decide_eq_true (by omega))) ?_
    clear e9
    obtain ⟨hc, hfz⟩ := row1_cell (OwnT.get O 0 rfl) (i := j) (List.getElem?_eq_getElem (by rw [fillC_len hj]; exact hlt))
    refine wp_skip ?_
    refine then_n ?_
    refine wp_seq ?_
    refine wp_block ?_
    refine wp_region_lit ?_   -- region 5
    have hE := Env.refl a11 [12, 13, 14, 15]
    apply sq_det 12 hE k rfl (by rfl) (by rfl) rfl
    case h =>   -- 0: t12 := Op.move (tmp 3)
      exact x_move rfl (hE.eval 3 (by rfl) e3)
    intro a12 hE e12 kp
    apply sq_det 13 hE k rfl (by rfl) (by rfl) rfl
    case h =>   -- 1: t13 := Op.move (tmp 4)
      exact x_move rfl (hE.eval 4 (by rfl) e4)
    intro a13 hE e13 kp
    replace e12 := (kp 12 rfl).trans e12
    apply sq_det 14 hE k rfl (by rfl) (by rfl) rfl
    case h =>   -- 2: t14 := Op.move (tmp 0)
      exact x_move rfl (hE.eval 0 (by rfl) e0)
    intro a14 hE e14 kp
    replace e12 := (kp 12 rfl).trans e12
    replace e13 := (kp 13 rfl).trans e13
    apply sq_det 15 hE k rfl (by rfl) (by rfl) rfl
    case h =>   -- 3: t15 := Op.indexAddr 66 (tmp 12) (tmp 13)
      simp [go_sem, BigFrame.eval_const, BigFrame.eval_global, BigFrame.eval_func, ↓IntWalk.iteOmega, ev e12, ev e13]
      with_reducible rfl
    intro a15 hE e15 kp
    replace e14 := (kp 14 rfl).trans e14
    refine sq_unit (w' := (w7.setCell ⟨g, j, none⟩ (u8V b))) hE rfl rfl ?_ ?_
    · simp [go_sem, BigFrame.eval_const, BigFrame.eval_global, BigFrame.eval_func, ↓IntWalk.iteOmega, ev e15, ev e14, hc, hfz, u8V]
    replace O := OwnT.setRow1 O (i := j) hlt (u8V b)
    clear hc hfz
    rw [fillC_set hlt] at O
    generalize (w7.setCell ⟨g, j, none⟩ (u8V b)) = w16 at O ⊢
    refine wpList_nil ?_
    replace e0 := hE.eval 0 (by rfl) e0
    replace e3 := hE.eval 3 (by rfl) e3
    replace e4 := hE.eval 4 (by rfl) e4
    replace k := k.env hE
    clear hE e14 e15
    refine block_n ?_
    refine then_n ?_
    refine wp_region_lit ?_   -- region 4
    have hE := Env.refl a15 [10, 11, 4]
    apply sq_det 10 hE k rfl (by rfl) (by rfl) rfl
    case h =>   -- 0: t10 := Op.move (tmp 4)
      exact x_move rfl e4
    intro a17 hE e10 kp
    replace e4 := (kp 4 rfl).trans e4
    apply sq_det 11 hE k rfl (by rfl) (by rfl) rfl
    case h =>   -- 1: t11 := Op.binOp BinOp.add 3 (tmp 10) (const (Value.int IntKind.i64 1)) 3
      exact x_add rfl e10 rfl (by omega)
    intro a18 hE e11 kp
    replace e4 := (kp 4 rfl).trans e4
    apply sq_det 4 hE k rfl (by rfl) (by rfl) rfl
    case h =>   -- 2: t4 := Op.assign (tmp 11)
      exact x_assign rfl e11
    intro a19 hE e4 kp
    refine wpList_nil ?_
    replace e0 := hE.eval 0 (by rfl) e0
    replace e3 := hE.eval 3 (by rfl) e3
    replace k := k.env hE
    clear hE
    refine then_n ?_
    refine ⟨⟨k, e0, e3, j + 1, e4, by omega, O⟩, ?_⟩
    rw [e4, mc]; simp only [intOf]; omega
  · have hltI : ¬ (j : Int) < (N : Int) := by omega
    refine cond_f e9 (congrArg Value.bool (decide_eq_false (by omega))) ?_
    clear e0 e4 e9
    obtain rfl : j = N := by omega
    rw [fillC_all, ← List.map_replicate] at O
    have hcv := conv_row (OwnT.get O 0 rfl) List.length_replicate
    refine wp_exit ?_
    refine then_x ?_
    refine then_x ?_
    refine block_x ?_
    refine then_n ?_
    refine wp_seq ?_
    refine wp_region_lit ?_   -- region 6
    have hE := Env.refl a11 [16, 17, 2]
    apply sq_det 16 hE k rfl (by rfl) (by rfl) rfl
    case h =>   -- 0: t16 := Op.move (tmp 3)
      exact x_move rfl (hE.eval 3 (by rfl) e3)
    intro a20 hE e16 kp
    apply sq_det 17 hE k rfl (by rfl) (by rfl) rfl
    case h =>   -- 1: t17 := Op.convert 66 9 (tmp 16)
      exact x_conv rfl e16 hcv
    intro a21 hE e17 kp
    apply sq_det 2 hE k rfl (by rfl) (by rfl) rfl
    case h =>   -- 2: t2 := Op.assign (tmp 17)
      exact x_assign rfl e17
    intro a22 hE e2 kp
    refine wpList_nil ?_
    replace k := k.env hE
    clear hE e3
    refine then_n ?_
    refine wp_ret ?_
    refine ret_F1 rfl k e2 ?_
    exact ⟨rfl, O.below⟩
set_option maxRecDepth 100000 in
set_option maxHeartbeats 4000000 in
theorem zeros4_any (x : Int) (n : Nat) (W0 : World) (hx : min (max x 0) 16384 = (n : Int)) : Calls Try.prog 34 #[.int .i64 x] W0 fun e w' => e = .returned (.string (sB (List.replicate (16 * n) 0))) ∧ Ext W0 w' := by
  have O := OwnT.start W0
  have hn : n ≤ 16384 := by omega
  obtain ⟨N, hN⟩ : ∃ N : Nat, 16 * n = N := ⟨_, rfl⟩
  have hN2 : N ≤ 10000000 := by omega
  rw [hN]
  obtain ⟨g, w9, hmk, hrow, hE9⟩ := mk_bytes W0 N hN2
  rw [show List.replicate N (u8V 0) = (List.replicate N (0 : UInt8)).map u8V from (List.map_replicate ..).symm] at hrow
  refine calls_F Try.func34 rfl 9 rfl (by rfl) ?_
  intro a1 k hargs
  have e0 : a1.eval (.tmp 0) = .int .i64 x := hargs 0 _ rfl
  clear hargs
  refine wp_seq ?_
  refine wp_region_lit ?_   -- region 0
  have hE := Env.refl a1 [2]
  apply sq_det 2 hE k rfl (by rfl) (by rfl) rfl
  case h =>   -- 0: t2 := Op.assign (const (Value.string {data := #[]}))
    exact x_assign rfl rfl
  intro a2 hE e2 kp
  refine wpList_nil ?_
  replace e0 := hE.eval 0 (by rfl) e0
  replace k := k.env hE
  clear hE e2
  refine then_n ?_
  refine wp_seq ?_
  refine wp_region_lit ?_   -- region 1
  have hE := Env.refl a2 [3, 4, 5, 6, 7, 8, 2]
  apply sq_det 3 hE k rfl (by rfl) (by rfl) rfl
  case h =>   -- 0: t3 := Op.move (tmp 0)
    exact x_move rfl (hE.eval 0 (by rfl) e0)
  intro a3 hE e3 kp
  apply sq_det 4 hE k rfl (by rfl) (by rfl) rfl
  case h =>   -- 1: t4 := Op.call {callee := Callee.builtin Builtin.max, args := #[tmp 3, const 
    exact x_max rfl e3 rfl
  intro a4 hE e4 kp
  apply sq_det 5 hE k rfl (by rfl) (by rfl) rfl
  case h =>   -- 2: t5 := Op.call {callee := Callee.builtin Builtin.min, args := #[tmp 4, const 
    exact x_min rfl e4 rfl
  intro a5 hE e5 kp
  replace e5 := e5.trans (int_eq hx)
  apply sq_det 6 hE k rfl (by rfl) (by rfl) rfl
  case h =>   -- 3: t6 := Op.binOp BinOp.mul 3 (const (Value.int IntKind.i64 16)) (tmp 5) 3
    exact x_mul rfl rfl e5 (by omega)
  intro a6 hE e6 kp
  replace e6 := e6.trans (int_eq (show 16 * (n : Int) = (N : Int) by omega))
  apply sq_val 7 hE k rfl (by rfl) (by rfl) rfl
  case h =>   -- 4: t7 := Op.makeSlice 66 (tmp 6) (tmp 6)
    exact x_make rfl e6 e6 hmk
  intro a7 hE e7 kp
  have hcv := conv_row (OwnT.get (OwnT.newRow O hE9 hrow) 0 rfl) List.length_replicate
  replace O := OwnT.newRow O hE9 hrow
  clear hmk hrow hE9
  apply sq_det 8 hE k rfl (by rfl) (by rfl) rfl
  case h =>   -- 5: t8 := Op.convert 66 9 (tmp 7)
    exact x_conv rfl e7 hcv
  intro a8 hE e8 kp
  apply sq_det 2 hE k rfl (by rfl) (by rfl) rfl
  case h =>   -- 6: t2 := Op.assign (tmp 8)
    exact x_assign rfl e8
  intro a9 hE e2 kp
  refine wpList_nil ?_
  replace k := k.env hE
  clear hE e0
  refine then_n ?_
  refine wp_ret ?_
  refine ret_F1 rfl k e2 ?_
  exact ⟨rfl, O.below⟩
end Go.Proofs.Ytdpohbaeopidmaa

/- disc's law: awake (printed by XDiscAw.gen.py). -/
namespace Go.Proofs.Ytdpohbaeopidmaa
set_option linter.unusedVariables false
set_option linter.unusedSimpArgs false
open Go.RowKit Go.Maps

abbrev awA : List UInt8 := List.replicate 16 97 ++ List.replicate 16 98
abbrev awS0 : List Sec := List.replicate 3 zsec
abbrev awL : Int → Option Sec := wrS awA 1 (fun _ => none) 2
abbrev awS1 : List Sec := setK [2] awL (looL 3 awL) 0 awS0

set_option maxRecDepth 100000 in
set_option maxHeartbeats 4000000 in
theorem awake4 (W0 : World) : Calls Try.prog 29 #[] W0 fun e w' => e = .returned (.bool true) ∧ Ext W0 w' := by
  have O := OwnT.start W0
  refine calls_F Try.func29 rfl 93 rfl (by rfl) ?_
  intro a1 k hargs
  clear hargs
  refine wp_seq ?_
  refine wp_region_lit ?_   -- region 0
  have hE := Env.refl a1 [0]
  apply sq_det 0 hE k rfl (by rfl) (by rfl) rfl
  case h =>   -- 0: t0 := Op.assign (const (Value.bool false))
    exact x_assign rfl rfl
  intro a2 hE e0 kp
  refine wpList_nil ?_
  replace k := k.env hE
  clear hE e0
  refine then_n ?_
  refine wp_seq ?_
  refine wp_region_lit ?_   -- region 1
  have hE := Env.refl a2 [11, 1]
  apply sq_call 11 hE k rfl (by rfl) (by rfl) rfl
  case h =>   -- tierce/mains.New
    simp [go_sem, BigFrame.eval_const, BigFrame.eval_global, BigFrame.eval_func, ↓IntWalk.iteOmega]
    with_reducible exact ⟨rfl, rfl⟩
  case hc => exact new_mn O
  clear O
  rintro e w4 ⟨mb, rfl, O⟩
  refine ⟨_, rfl, ?_⟩
  intro a3 hE e11 kp
  apply sq_det 1 hE k rfl (by rfl) (by rfl) rfl
  case h =>   -- 1: t1 := Op.assign (tmp 11)
    exact x_assign rfl e11
  intro a5 hE e1 kp
  refine wpList_nil ?_
  replace k := k.env hE
  clear hE
  refine then_n ?_
  refine wp_seq ?_
  refine wp_region_lit ?_   -- region 2
  have hE := Env.refl a5 [12, 13, 2]
  apply sq_det 12 hE k rfl (by rfl) (by rfl) rfl
  case h =>   -- 0: t12 := Op.move (tmp 1)
    exact x_move rfl (hE.eval 1 (by rfl) e1)
  intro a6 hE e12 kp
  apply sq_call 13 hE k rfl (by rfl) (by rfl) rfl
  case h =>   -- tierce/disc.New
    simp [go_sem, BigFrame.eval_const, BigFrame.eval_global, BigFrame.eval_func, ↓IntWalk.iteOmega, ev e12]
    with_reducible exact ⟨rfl, rfl⟩
  case hc => exact dnew_any 3 3 _ O (by decide)
  clear O
  rintro e w8 ⟨p, B, cap, bm, rfl, O⟩
  refine ⟨_, rfl, ?_⟩
  intro a7 hE e13 kp
  apply sq_det 2 hE k rfl (by rfl) (by rfl) rfl
  case h =>   -- 2: t2 := Op.assign (tmp 13)
    exact x_assign rfl e13
  intro a9 hE e2 kp
  refine wpList_nil ?_
  replace e1 := hE.eval 1 (by rfl) e1
  replace k := k.env hE
  clear hE
  refine then_n ?_
  refine wp_seq ?_
  refine wp_seq ?_
  refine wp_region_lit ?_   -- region 3
  have hE := Env.refl a9 [14, 15]
  apply sq_det 14 hE k rfl (by rfl) (by rfl) rfl
  case h =>   -- 0: t14 := Op.move (tmp 2)
    exact x_move rfl (hE.eval 2 (by rfl) e2)
  intro a10 hE e14 kp
  apply sq_det 15 hE k rfl (by rfl) (by rfl) rfl
  case h =>   -- 1: t15 := Op.binOp BinOp.eql 54 (tmp 14) (const (Value.pointer none)) 54
    simp [go_sem, BigFrame.eval_const, BigFrame.eval_global, BigFrame.eval_func, ↓IntWalk.iteOmega, ev e14]
    with_reducible rfl
  intro a11 hE e15 kp
  refine wpList_nil ?_
  replace e1 := hE.eval 1 (by rfl) e1
  replace e2 := hE.eval 2 (by rfl) e2
  replace k := k.env hE
  clear hE
  refine then_n ?_
  refine cond_f e15 rfl ?_
  refine wp_skip ?_
  refine then_n ?_
  refine wp_seq ?_
  refine wp_region_lit ?_   -- region 5
  have hE := Env.refl a11 [16, 17, 18, 19, 20, 3]
  apply sq_det 16 hE k rfl (by rfl) (by rfl) rfl
  case h =>   -- 0: t16 := Op.move (tmp 2)
    exact x_move rfl (hE.eval 2 (by rfl) e2)
  intro a12 hE e16 kp
  apply sq_call 17 hE k rfl (by rfl) (by rfl) rfl
  case h =>   -- tierce/tiercelaw04.sector
    simp [go_sem, BigFrame.eval_const, BigFrame.eval_global, BigFrame.eval_func, ↓IntWalk.iteOmega]
    with_reducible exact ⟨rfl, rfl⟩
  case hc => exact sector_any 97 _
  rintro e w14 ⟨rfl, R⟩
  replace O := OwnT.ext O R
  refine ⟨_, rfl, ?_⟩
  intro a13 hE e17 kp
  replace e16 := (kp 16 rfl).trans e16
  apply sq_call 18 hE k rfl (by rfl) (by rfl) rfl
  case h =>   -- tierce/tiercelaw04.sector
    simp [go_sem, BigFrame.eval_const, BigFrame.eval_global, BigFrame.eval_func, ↓IntWalk.iteOmega]
    with_reducible exact ⟨rfl, rfl⟩
  case hc => exact sector_any 98 _
  rintro e w16 ⟨rfl, R⟩
  replace O := OwnT.ext O R
  refine ⟨_, rfl, ?_⟩
  intro a15 hE e18 kp
  replace e16 := (kp 16 rfl).trans e16
  replace e17 := (kp 17 rfl).trans e17
  apply sq_det 19 hE k rfl (by rfl) (by rfl) rfl
  case h =>   -- 3: t19 := Op.binOp BinOp.add 9 (tmp 17) (tmp 18) 9
    exact x_cat (l := List.replicate 16 97) (m := List.replicate 16 98) rfl e17 e18 (by simp)
  intro a17 hE e19 kp
  replace e16 := (kp 16 rfl).trans e16
  apply sq_call 20 hE k rfl (by rfl) (by rfl) rfl
  case h =>   -- (*tierce/disc.Disc).Write
    simp [go_sem, BigFrame.eval_const, BigFrame.eval_global, BigFrame.eval_func, ↓IntWalk.iteOmega, ev e16, ev e19]
    with_reducible exact ⟨rfl, rfl⟩
  case hc => exact dwrite_all 1 awA _ O (by decide) (by decide) (by decide) mn0_ok (by decide) mn0_free
  clear O
  rintro e w19 ⟨rfl, O⟩
  refine ⟨_, rfl, ?_⟩
  intro a18 hE e20 kp
  apply sq_det 3 hE k rfl (by rfl) (by rfl) rfl
  case h =>   -- 5: t3 := Op.assign (tmp 20)
    exact x_assign rfl e20
  intro a20 hE e3 kp
  refine wpList_nil ?_
  replace e1 := hE.eval 1 (by rfl) e1
  replace e2 := hE.eval 2 (by rfl) e2
  replace k := k.env hE
  clear hE e15
  refine then_n ?_
  refine wp_seq ?_
  refine wp_region_lit ?_   -- region 6
  have hE := Env.refl a20 [22, 23, 21, 24, 25, 4, 5]
  apply sq_det 22 hE k rfl (by rfl) (by rfl) rfl
  case h =>   -- 0: t22 := Op.move (tmp 2)
    exact x_move rfl (hE.eval 2 (by rfl) e2)
  intro a21 hE e22 kp
  apply sq_call 23 hE k rfl (by rfl) (by rfl) rfl
  case h =>   -- (*tierce/disc.Disc).Read
    simp [go_sem, BigFrame.eval_const, BigFrame.eval_global, BigFrame.eval_func, ↓IntWalk.iteOmega, ev e22]
    with_reducible exact ⟨rfl, rfl⟩
  case hc => exact dread_ok 0 3 _ (OwnT.disc O) (OwnT.get O 1 rfl) (by omega) rfl
  rintro e w23 ⟨rfl, R⟩
  replace O := OwnT.ext O R
  refine ⟨_, rfl, ?_⟩
  intro a22 hE e23 kp
  apply sq_det 21 hE k rfl (by rfl) (by rfl) rfl
  case h =>   -- 2: t21 := Op.move (tmp 23)
    exact x_move rfl e23
  intro a24 hE e21 kp
  apply sq_det 24 hE k rfl (by rfl) (by rfl) rfl
  case h =>   -- 3: t24 := Op.extract (tmp 21) 0
    simp [go_sem, BigFrame.eval_const, BigFrame.eval_global, BigFrame.eval_func, ↓IntWalk.iteOmega, ev e21]
    with_reducible rfl
  intro a25 hE e24 kp
  replace e21 := (kp 21 rfl).trans e21
  apply sq_det 25 hE k rfl (by rfl) (by rfl) rfl
  case h =>   -- 4: t25 := Op.extract (tmp 21) 1
    simp [go_sem, BigFrame.eval_const, BigFrame.eval_global, BigFrame.eval_func, ↓IntWalk.iteOmega, ev e21]
    with_reducible rfl
  intro a26 hE e25 kp
  replace e24 := (kp 24 rfl).trans e24
  apply sq_det 4 hE k rfl (by rfl) (by rfl) rfl
  case h =>   -- 5: t4 := Op.assign (tmp 24)
    exact x_assign rfl e24
  intro a27 hE e4 kp
  replace e25 := (kp 25 rfl).trans e25
  apply sq_det 5 hE k rfl (by rfl) (by rfl) rfl
  case h =>   -- 6: t5 := Op.assign (tmp 25)
    exact x_assign rfl e25
  intro a28 hE e5 kp
  replace e4 := (kp 4 rfl).trans e4
  refine wpList_nil ?_
  replace e1 := hE.eval 1 (by rfl) e1
  replace e2 := hE.eval 2 (by rfl) e2
  replace e3 := hE.eval 3 (by rfl) e3
  replace k := k.env hE
  clear hE
  refine then_n ?_
  refine wp_seq ?_
  refine wp_region_lit ?_   -- region 7
  have hE := Env.refl a28 [26, 27, 6]
  apply sq_det 26 hE k rfl (by rfl) (by rfl) rfl
  case h =>   -- 0: t26 := Op.move (tmp 2)
    exact x_move rfl (hE.eval 2 (by rfl) e2)
  intro a29 hE e26 kp
  apply sq_call 27 hE k rfl (by rfl) (by rfl) rfl
  case h =>   -- (*tierce/disc.Disc).Loose
    simp [go_sem, BigFrame.eval_const, BigFrame.eval_global, BigFrame.eval_func, ↓IntWalk.iteOmega, ev e26]
    with_reducible exact ⟨rfl, rfl⟩
  case hc => exact dloose_any _ (OwnT.disc O)
  rintro e w31 ⟨Bx, capx, rfl, -, -, -, -, R⟩
  replace O := OwnT.ext O R
  refine ⟨_, rfl, ?_⟩
  intro a30 hE e27 kp
  apply sq_det 6 hE k rfl (by rfl) (by rfl) rfl
  case h =>   -- 2: t6 := Op.assign (tmp 27)
    exact x_assign rfl e27
  intro a32 hE e6 kp
  refine wpList_nil ?_
  replace e1 := hE.eval 1 (by rfl) e1
  replace e2 := hE.eval 2 (by rfl) e2
  replace e3 := hE.eval 3 (by rfl) e3
  replace e4 := hE.eval 4 (by rfl) e4
  replace e5 := hE.eval 5 (by rfl) e5
  replace k := k.env hE
  clear hE
  refine then_n ?_
  refine wp_seq ?_
  refine wp_region_lit ?_   -- region 8
  have hE := Env.refl a32 [28, 29]
  apply sq_det 28 hE k rfl (by rfl) (by rfl) rfl
  case h =>   -- 0: t28 := Op.move (tmp 1)
    exact x_move rfl (hE.eval 1 (by rfl) e1)
  intro a33 hE e28 kp
  apply sq_call 29 hE k rfl (by rfl) (by rfl) rfl
  case h =>   -- (*tierce/mains.Mains).Cut
    simp [go_sem, BigFrame.eval_const, BigFrame.eval_global, BigFrame.eval_func, ↓IntWalk.iteOmega, ev e28]
    with_reducible exact ⟨rfl, rfl⟩
  case hc => exact (cut_mn (O.perm (.swap _ _ _)))
  clear O
  rintro e w35 ⟨rfl, O⟩
  replace O := O.perm (.swap _ _ _)
  refine ⟨_, rfl, ?_⟩
  intro a34 hE e29 kp
  refine wpList_nil ?_
  replace e1 := hE.eval 1 (by rfl) e1
  replace e2 := hE.eval 2 (by rfl) e2
  replace e3 := hE.eval 3 (by rfl) e3
  replace e4 := hE.eval 4 (by rfl) e4
  replace e5 := hE.eval 5 (by rfl) e5
  replace e6 := hE.eval 6 (by rfl) e6
  replace k := k.env hE
  clear hE e29
  refine then_n ?_
  refine wp_seq ?_
  refine wp_region_lit ?_   -- region 9
  have hE := Env.refl a34 [30, 31, 7]
  apply sq_det 30 hE k rfl (by rfl) (by rfl) rfl
  case h =>   -- 0: t30 := Op.move (tmp 2)
    exact x_move rfl (hE.eval 2 (by rfl) e2)
  intro a36 hE e30 kp
  apply sq_call 31 hE k rfl (by rfl) (by rfl) rfl
  case h =>   -- (*tierce/disc.Disc).Settle
    simp [go_sem, BigFrame.eval_const, BigFrame.eval_global, BigFrame.eval_func, ↓IntWalk.iteOmega, ev e30]
    with_reducible exact ⟨rfl, rfl⟩
  case hc => exact dsettle_off [2] _ O (by decide) rfl
  clear O
  rintro e w38 ⟨rfl, O⟩
  refine ⟨_, rfl, ?_⟩
  intro a37 hE e31 kp
  apply sq_det 7 hE k rfl (by rfl) (by rfl) rfl
  case h =>   -- 2: t7 := Op.assign (tmp 31)
    exact x_assign rfl e31
  intro a39 hE e7 kp
  refine wpList_nil ?_
  replace e1 := hE.eval 1 (by rfl) e1
  replace e2 := hE.eval 2 (by rfl) e2
  replace e3 := hE.eval 3 (by rfl) e3
  replace e4 := hE.eval 4 (by rfl) e4
  replace e5 := hE.eval 5 (by rfl) e5
  replace e6 := hE.eval 6 (by rfl) e6
  replace k := k.env hE
  clear hE
  refine then_n ?_
  refine wp_seq ?_
  refine wp_region_lit ?_   -- region 10
  have hE := Env.refl a39 [32, 33]
  apply sq_det 32 hE k rfl (by rfl) (by rfl) rfl
  case h =>   -- 0: t32 := Op.move (tmp 1)
    exact x_move rfl (hE.eval 1 (by rfl) e1)
  intro a40 hE e32 kp
  apply sq_call 33 hE k rfl (by rfl) (by rfl) rfl
  case h =>   -- (*tierce/mains.Mains).Come
    simp [go_sem, BigFrame.eval_const, BigFrame.eval_global, BigFrame.eval_func, ↓IntWalk.iteOmega, ev e32]
    with_reducible exact ⟨rfl, rfl⟩
  case hc => exact (come_mn (O.perm (.swap _ _ _)) (mn0_ok.useN 2).cut (by decide))
  clear O
  rintro e w42 ⟨rfl, O⟩
  replace O := O.perm (.swap _ _ _)
  refine ⟨_, rfl, ?_⟩
  intro a41 hE e33 kp
  refine wpList_nil ?_
  replace e2 := hE.eval 2 (by rfl) e2
  replace e3 := hE.eval 3 (by rfl) e3
  replace e4 := hE.eval 4 (by rfl) e4
  replace e5 := hE.eval 5 (by rfl) e5
  replace e6 := hE.eval 6 (by rfl) e6
  replace e7 := hE.eval 7 (by rfl) e7
  replace k := k.env hE
  clear hE e1 e33
  refine then_n ?_
  refine wp_seq ?_
  refine wp_region_lit ?_   -- region 11
  have hE := Env.refl a41 [35, 36, 34, 37, 38, 8, 9]
  apply sq_det 35 hE k rfl (by rfl) (by rfl) rfl
  case h =>   -- 0: t35 := Op.move (tmp 2)
    exact x_move rfl (hE.eval 2 (by rfl) e2)
  intro a43 hE e35 kp
  apply sq_call 36 hE k rfl (by rfl) (by rfl) rfl
  case h =>   -- (*tierce/disc.Disc).Read
    simp [go_sem, BigFrame.eval_const, BigFrame.eval_global, BigFrame.eval_func, ↓IntWalk.iteOmega, ev e35]
    with_reducible exact ⟨rfl, rfl⟩
  case hc => exact dread_ok 0 3 _ (OwnT.disc O) (OwnT.get O 1 rfl) (by omega) rfl
  rintro e w45 ⟨rfl, R⟩
  replace O := OwnT.ext O R
  refine ⟨_, rfl, ?_⟩
  intro a44 hE e36 kp
  apply sq_det 34 hE k rfl (by rfl) (by rfl) rfl
  case h =>   -- 2: t34 := Op.move (tmp 36)
    exact x_move rfl e36
  intro a46 hE e34 kp
  apply sq_det 37 hE k rfl (by rfl) (by rfl) rfl
  case h =>   -- 3: t37 := Op.extract (tmp 34) 0
    simp [go_sem, BigFrame.eval_const, BigFrame.eval_global, BigFrame.eval_func, ↓IntWalk.iteOmega, ev e34]
    with_reducible rfl
  intro a47 hE e37 kp
  replace e34 := (kp 34 rfl).trans e34
  apply sq_det 38 hE k rfl (by rfl) (by rfl) rfl
  case h =>   -- 4: t38 := Op.extract (tmp 34) 1
    simp [go_sem, BigFrame.eval_const, BigFrame.eval_global, BigFrame.eval_func, ↓IntWalk.iteOmega, ev e34]
    with_reducible rfl
  intro a48 hE e38 kp
  replace e37 := (kp 37 rfl).trans e37
  apply sq_det 8 hE k rfl (by rfl) (by rfl) rfl
  case h =>   -- 5: t8 := Op.assign (tmp 37)
    exact x_assign rfl e37
  intro a49 hE e8 kp
  replace e38 := (kp 38 rfl).trans e38
  apply sq_det 9 hE k rfl (by rfl) (by rfl) rfl
  case h =>   -- 6: t9 := Op.assign (tmp 38)
    exact x_assign rfl e38
  intro a50 hE e9 kp
  replace e8 := (kp 8 rfl).trans e8
  refine wpList_nil ?_
  replace e2 := hE.eval 2 (by rfl) e2
  replace e3 := hE.eval 3 (by rfl) e3
  replace e4 := hE.eval 4 (by rfl) e4
  replace e5 := hE.eval 5 (by rfl) e5
  replace e6 := hE.eval 6 (by rfl) e6
  replace e7 := hE.eval 7 (by rfl) e7
  replace k := k.env hE
  clear hE
  refine then_n ?_
  refine wp_seq ?_
  refine wp_region_lit ?_   -- region 12
  have hE := Env.refl a50 [39, 10]
  apply sq_call 39 hE k rfl (by rfl) (by rfl) rfl
  case h =>   -- tierce/tiercelaw04.sector
    simp [go_sem, BigFrame.eval_const, BigFrame.eval_global, BigFrame.eval_func, ↓IntWalk.iteOmega]
    with_reducible exact ⟨rfl, rfl⟩
  case hc => exact sector_any 0 _
  rintro e w52 ⟨rfl, R⟩
  replace O := OwnT.ext O R
  refine ⟨_, rfl, ?_⟩
  intro a51 hE e39 kp
  apply sq_det 10 hE k rfl (by rfl) (by rfl) rfl
  case h =>   -- 1: t10 := Op.assign (tmp 39)
    exact x_assign rfl e39
  intro a53 hE e10 kp
  refine wpList_nil ?_
  replace e2 := hE.eval 2 (by rfl) e2
  replace e3 := hE.eval 3 (by rfl) e3
  replace e4 := hE.eval 4 (by rfl) e4
  replace e5 := hE.eval 5 (by rfl) e5
  replace e6 := hE.eval 6 (by rfl) e6
  replace e7 := hE.eval 7 (by rfl) e7
  replace e8 := hE.eval 8 (by rfl) e8
  replace e9 := hE.eval 9 (by rfl) e9
  replace k := k.env hE
  clear hE
  refine then_n ?_
  refine wp_seq ?_
  refine wp_region_lit ?_   -- region 13
  have hE := Env.refl a53 [40, 41, 42, 43, 44, 45, 46, 47, 48, 49, 50, 51, 52, 53, 54, 55, 56, 57, 58, 59, 60, 61, 62, 63, 64, 65, 66, 67, 68, 69, 70, 71, 72, 73, 74, 75, 76, 77, 78, 79, 80, 81, 82, 83, 84, 85, 86, 87, 88, 89, 90, 91, 92, 0]
  apply sq_det 40 hE k rfl (by rfl) (by rfl) rfl
  case h =>   -- 0: t40 := Op.move (tmp 2)
    exact x_move rfl (hE.eval 2 (by rfl) e2)
  intro a54 hE e40 kp
  apply sq_call 41 hE k rfl (by rfl) (by rfl) rfl
  case h =>   -- (*tierce/disc.Disc).Len
    simp [go_sem, BigFrame.eval_const, BigFrame.eval_global, BigFrame.eval_func, ↓IntWalk.iteOmega, ev e40]
    with_reducible exact ⟨rfl, rfl⟩
  case hc => exact dlen_any _ (OwnT.disc O)
  rintro e _ ⟨rfl, rfl⟩
  refine ⟨_, rfl, ?_⟩
  intro a55 hE e41 kp
  apply sq_det 42 hE k rfl (by rfl) (by rfl) rfl
  case h =>   -- 2: t42 := Op.binOp BinOp.eql 3 (tmp 41) (const (Value.int IntKind.i64 3)) 3
    exact x_eql rfl e41 rfl
  intro a56 hE e42 kp
  apply sq_det 43 hE k rfl (by rfl) (by rfl) rfl
  case h =>   -- 3: t43 := Op.move (tmp 42)
    exact x_move rfl e42
  intro a57 hE e43 kp
  apply sq_detg 44 hE k rfl (by rfl) (by rfl) rfl rfl e43
  case h =>   -- 4: t44 := Op.move (tmp 3)
    exact x_move rfl (hE.eval 3 (by rfl) e3)
  intro a58 hE e44 kp
  replace e43 := (kp 43 rfl).trans e43
  apply sq_detg 45 hE k rfl (by rfl) (by rfl) rfl rfl e43
  case h =>   -- 5: t45 := Op.binOp BinOp.eql 36 (tmp 44) (const (Value.int IntKind.i64 0)) 36
    exact x_eql rfl e44 rfl
  intro a59 hE e45 kp
  replace e43 := (kp 43 rfl).trans e43
  apply sq_det 46 hE k rfl (by rfl) (by rfl) rfl
  case h =>   -- 6: t46 := Op.pick (tmp 43) (tmp 45) (const (Value.bool false))
    exact x_pick_t rfl e43 e45
  intro a60 hE e46 kp
  apply sq_det 47 hE k rfl (by rfl) (by rfl) rfl
  case h =>   -- 7: t47 := Op.move (tmp 46)
    exact x_move rfl e46
  intro a61 hE e47 kp
  apply sq_detg 48 hE k rfl (by rfl) (by rfl) rfl rfl e47
  case h =>   -- 8: t48 := Op.move (tmp 5)
    exact x_move rfl (hE.eval 5 (by rfl) e5)
  intro a62 hE e48 kp
  replace e47 := (kp 47 rfl).trans e47
  apply sq_detg 49 hE k rfl (by rfl) (by rfl) rfl rfl e47
  case h =>   -- 9: t49 := Op.binOp BinOp.eql 36 (tmp 48) (const (Value.int IntKind.i64 0)) 36
    exact x_eql rfl e48 rfl
  intro a63 hE e49 kp
  replace e47 := (kp 47 rfl).trans e47
  apply sq_det 50 hE k rfl (by rfl) (by rfl) rfl
  case h =>   -- 10: t50 := Op.pick (tmp 47) (tmp 49) (const (Value.bool false))
    exact x_pick_t rfl e47 e49
  intro a64 hE e50 kp
  apply sq_det 51 hE k rfl (by rfl) (by rfl) rfl
  case h =>   -- 11: t51 := Op.move (tmp 50)
    exact x_move rfl e50
  intro a65 hE e51 kp
  apply sq_detg 52 hE k rfl (by rfl) (by rfl) rfl rfl e51
  case h =>   -- 12: t52 := Op.move (tmp 4)
    exact x_move rfl (hE.eval 4 (by rfl) e4)
  intro a66 hE e52 kp
  replace e51 := (kp 51 rfl).trans e51
  apply sq_detg 53 hE k rfl (by rfl) (by rfl) rfl rfl e51
  case h =>   -- 13: t53 := Op.move (tmp 10)
    exact x_move rfl (hE.eval 10 (by rfl) e10)
  intro a67 hE e53 kp
  replace e51 := (kp 51 rfl).trans e51
  replace e52 := (kp 52 rfl).trans e52
  apply sq_callg 54 hE k rfl (by rfl) (by rfl) rfl rfl e51
  case h =>   -- tierce/tiercelaw04.sector
    simp [go_sem, BigFrame.eval_const, BigFrame.eval_global, BigFrame.eval_func, ↓IntWalk.iteOmega]
    with_reducible exact ⟨rfl, rfl⟩
  case hc => exact sector_any 97 _
  rintro e w69 ⟨rfl, R⟩
  replace O := OwnT.ext O R
  refine ⟨_, rfl, ?_⟩
  intro a68 hE e54 kp
  replace e51 := (kp 51 rfl).trans e51
  replace e52 := (kp 52 rfl).trans e52
  replace e53 := (kp 53 rfl).trans e53
  apply sq_detg 55 hE k rfl (by rfl) (by rfl) rfl rfl e51
  case h =>   -- 15: t55 := Op.binOp BinOp.add 9 (tmp 53) (tmp 54) 9
    exact x_cat (l := List.replicate 16 0) (m := List.replicate 16 97) rfl e53 e54 (by simp)
  intro a70 hE e55 kp
  replace e51 := (kp 51 rfl).trans e51
  replace e52 := (kp 52 rfl).trans e52
  apply sq_callg 56 hE k rfl (by rfl) (by rfl) rfl rfl e51
  case h =>   -- tierce/tiercelaw04.sector
    simp [go_sem, BigFrame.eval_const, BigFrame.eval_global, BigFrame.eval_func, ↓IntWalk.iteOmega]
    with_reducible exact ⟨rfl, rfl⟩
  case hc => exact sector_any 98 _
  rintro e w72 ⟨rfl, R⟩
  replace O := OwnT.ext O R
  refine ⟨_, rfl, ?_⟩
  intro a71 hE e56 kp
  replace e51 := (kp 51 rfl).trans e51
  replace e52 := (kp 52 rfl).trans e52
  replace e55 := (kp 55 rfl).trans e55
  apply sq_detg 57 hE k rfl (by rfl) (by rfl) rfl rfl e51
  case h =>   -- 17: t57 := Op.binOp BinOp.add 9 (tmp 55) (tmp 56) 9
    exact x_cat (l := List.replicate 16 0 ++ List.replicate 16 97) (m := List.replicate 16 98) rfl e55 e56 (by simp)
  intro a73 hE e57 kp
  replace e51 := (kp 51 rfl).trans e51
  replace e52 := (kp 52 rfl).trans e52
  apply sq_detg 58 hE k rfl (by rfl) (by rfl) rfl rfl e51
  case h =>   -- 18: t58 := Op.binOp BinOp.eql 9 (tmp 52) (tmp 57) 9
    exact x_dec (x_eqs (l := readL awS0 awL 0 3) (m := List.replicate 16 0 ++ List.replicate 16 97 ++ List.replicate 16 98) rfl e52 e57) (decide_eq_true (by kernel_rfl))
  intro a74 hE e58 kp
  replace e51 := (kp 51 rfl).trans e51
  apply sq_det 59 hE k rfl (by rfl) (by rfl) rfl
  case h =>   -- 19: t59 := Op.pick (tmp 51) (tmp 58) (const (Value.bool false))
    exact x_pick_t rfl e51 e58
  intro a75 hE e59 kp
  apply sq_det 60 hE k rfl (by rfl) (by rfl) rfl
  case h =>   -- 20: t60 := Op.move (tmp 59)
    exact x_move rfl e59
  intro a76 hE e60 kp
  apply sq_detg 61 hE k rfl (by rfl) (by rfl) rfl rfl e60
  case h =>   -- 21: t61 := Op.move (tmp 6)
    exact x_move rfl (hE.eval 6 (by rfl) e6)
  intro a77 hE e61 kp
  replace e60 := (kp 60 rfl).trans e60
  apply sq_detg 62 hE k rfl (by rfl) (by rfl) rfl rfl e60
  case h =>   -- 22: t62 := Op.call {callee := Callee.builtin Builtin.len, args := #[tmp 61], argT
    exact x_len Try.underlying49 rfl e61
  intro a78 hE e62 kp
  replace e60 := (kp 60 rfl).trans e60
  apply sq_detg 63 hE k rfl (by rfl) (by rfl) rfl rfl e60
  case h =>   -- 23: t63 := Op.binOp BinOp.eql 3 (tmp 62) (const (Value.int IntKind.i64 2)) 3
    exact x_dec (x_eql rfl e62 rfl) (decide_eq_true (by kernel_rfl))
  intro a79 hE e63 kp
  replace e60 := (kp 60 rfl).trans e60
  apply sq_det 64 hE k rfl (by rfl) (by rfl) rfl
  case h =>   -- 24: t64 := Op.pick (tmp 60) (tmp 63) (const (Value.bool false))
    exact x_pick_t rfl e60 e63
  intro a80 hE e64 kp
  apply sq_det 65 hE k rfl (by rfl) (by rfl) rfl
  case h =>   -- 25: t65 := Op.move (tmp 64)
    exact x_move rfl e64
  intro a81 hE e65 kp
  apply sq_detg 66 hE k rfl (by rfl) (by rfl) rfl rfl e65
  case h =>   -- 26: t66 := Op.move (tmp 7)
    exact x_move rfl (hE.eval 7 (by rfl) e7)
  intro a82 hE e66 kp
  replace e65 := (kp 65 rfl).trans e65
  apply sq_detg 67 hE k rfl (by rfl) (by rfl) rfl rfl e65
  case h =>   -- 27: t67 := Op.binOp BinOp.eql 36 (tmp 66) (const (Value.int IntKind.i64 0)) 36
    exact x_eql rfl e66 rfl
  intro a83 hE e67 kp
  replace e65 := (kp 65 rfl).trans e65
  apply sq_det 68 hE k rfl (by rfl) (by rfl) rfl
  case h =>   -- 28: t68 := Op.pick (tmp 65) (tmp 67) (const (Value.bool false))
    exact x_pick_t rfl e65 e67
  intro a84 hE e68 kp
  apply sq_det 69 hE k rfl (by rfl) (by rfl) rfl
  case h =>   -- 29: t69 := Op.move (tmp 68)
    exact x_move rfl e68
  intro a85 hE e69 kp
  apply sq_detg 70 hE k rfl (by rfl) (by rfl) rfl rfl e69
  case h =>   -- 30: t70 := Op.move (tmp 9)
    exact x_move rfl (hE.eval 9 (by rfl) e9)
  intro a86 hE e70 kp
  replace e69 := (kp 69 rfl).trans e69
  apply sq_detg 71 hE k rfl (by rfl) (by rfl) rfl rfl e69
  case h =>   -- 31: t71 := Op.binOp BinOp.eql 36 (tmp 70) (const (Value.int IntKind.i64 0)) 36
    exact x_eql rfl e70 rfl
  intro a87 hE e71 kp
  replace e69 := (kp 69 rfl).trans e69
  apply sq_det 72 hE k rfl (by rfl) (by rfl) rfl
  case h =>   -- 32: t72 := Op.pick (tmp 69) (tmp 71) (const (Value.bool false))
    exact x_pick_t rfl e69 e71
  intro a88 hE e72 kp
  apply sq_det 73 hE k rfl (by rfl) (by rfl) rfl
  case h =>   -- 33: t73 := Op.move (tmp 72)
    exact x_move rfl e72
  intro a89 hE e73 kp
  apply sq_detg 74 hE k rfl (by rfl) (by rfl) rfl rfl e73
  case h =>   -- 34: t74 := Op.move (tmp 8)
    exact x_move rfl (hE.eval 8 (by rfl) e8)
  intro a90 hE e74 kp
  replace e73 := (kp 73 rfl).trans e73
  apply sq_detg 75 hE k rfl (by rfl) (by rfl) rfl rfl e73
  case h =>   -- 35: t75 := Op.move (tmp 10)
    exact x_move rfl (hE.eval 10 (by rfl) e10)
  intro a91 hE e75 kp
  replace e73 := (kp 73 rfl).trans e73
  replace e74 := (kp 74 rfl).trans e74
  apply sq_detg 76 hE k rfl (by rfl) (by rfl) rfl rfl e73
  case h =>   -- 36: t76 := Op.move (tmp 10)
    exact x_move rfl (hE.eval 10 (by rfl) e10)
  intro a92 hE e76 kp
  replace e73 := (kp 73 rfl).trans e73
  replace e74 := (kp 74 rfl).trans e74
  replace e75 := (kp 75 rfl).trans e75
  apply sq_detg 77 hE k rfl (by rfl) (by rfl) rfl rfl e73
  case h =>   -- 37: t77 := Op.binOp BinOp.add 9 (tmp 75) (tmp 76) 9
    exact x_cat (l := List.replicate 16 0) (m := List.replicate 16 0) rfl e75 e76 (by simp)
  intro a93 hE e77 kp
  replace e73 := (kp 73 rfl).trans e73
  replace e74 := (kp 74 rfl).trans e74
  apply sq_callg 78 hE k rfl (by rfl) (by rfl) rfl rfl e73
  case h =>   -- tierce/tiercelaw04.sector
    simp [go_sem, BigFrame.eval_const, BigFrame.eval_global, BigFrame.eval_func, ↓IntWalk.iteOmega]
    with_reducible exact ⟨rfl, rfl⟩
  case hc => exact sector_any 98 _
  rintro e w95 ⟨rfl, R⟩
  replace O := OwnT.ext O R
  refine ⟨_, rfl, ?_⟩
  intro a94 hE e78 kp
  replace e73 := (kp 73 rfl).trans e73
  replace e74 := (kp 74 rfl).trans e74
  replace e77 := (kp 77 rfl).trans e77
  apply sq_detg 79 hE k rfl (by rfl) (by rfl) rfl rfl e73
  case h =>   -- 39: t79 := Op.binOp BinOp.add 9 (tmp 77) (tmp 78) 9
    exact x_cat (l := List.replicate 16 0 ++ List.replicate 16 0) (m := List.replicate 16 98) rfl e77 e78 (by simp)
  intro a96 hE e79 kp
  replace e73 := (kp 73 rfl).trans e73
  replace e74 := (kp 74 rfl).trans e74
  apply sq_detg 80 hE k rfl (by rfl) (by rfl) rfl rfl e73
  case h =>   -- 40: t80 := Op.binOp BinOp.eql 9 (tmp 74) (tmp 79) 9
    exact x_dec (x_eqs (l := readL awS1 (fun _ => none) 0 3) (m := List.replicate 16 0 ++ List.replicate 16 0 ++ List.replicate 16 98) rfl e74 e79) (decide_eq_true (by kernel_rfl))
  intro a97 hE e80 kp
  replace e73 := (kp 73 rfl).trans e73
  apply sq_det 81 hE k rfl (by rfl) (by rfl) rfl
  case h =>   -- 41: t81 := Op.pick (tmp 73) (tmp 80) (const (Value.bool false))
    exact x_pick_t rfl e73 e80
  intro a98 hE e81 kp
  apply sq_det 82 hE k rfl (by rfl) (by rfl) rfl
  case h =>   -- 42: t82 := Op.move (tmp 81)
    exact x_move rfl e81
  intro a99 hE e82 kp
  apply sq_detg 83 hE k rfl (by rfl) (by rfl) rfl rfl e82
  case h =>   -- 43: t83 := Op.move (tmp 2)
    exact x_move rfl (hE.eval 2 (by rfl) e2)
  intro a100 hE e83 kp
  replace e82 := (kp 82 rfl).trans e82
  apply sq_detg 84 hE k rfl (by rfl) (by rfl) rfl rfl e82
  case h =>   -- 44: t84 := Op.move (tmp 10)
    exact x_move rfl (hE.eval 10 (by rfl) e10)
  intro a101 hE e84 kp
  replace e82 := (kp 82 rfl).trans e82
  replace e83 := (kp 83 rfl).trans e83
  apply sq_callg 85 hE k rfl (by rfl) (by rfl) rfl rfl e82
  case h =>   -- (*tierce/disc.Disc).Write
    simp [go_sem, BigFrame.eval_const, BigFrame.eval_global, BigFrame.eval_func, ↓IntWalk.iteOmega, ev e83, ev e84]
    with_reducible exact ⟨rfl, rfl⟩
  case hc => exact dwrite_range 3 (List.replicate 16 0) _ O (by decide) (by decide) (by decide)
  clear O
  rintro e w103 ⟨rfl, O⟩
  refine ⟨_, rfl, ?_⟩
  intro a102 hE e85 kp
  replace e82 := (kp 82 rfl).trans e82
  apply sq_detg 86 hE k rfl (by rfl) (by rfl) rfl rfl e82
  case h =>   -- 46: t86 := Op.binOp BinOp.eql 36 (tmp 85) (const (Value.int IntKind.i64 9)) 36
    exact x_eql rfl e85 rfl
  intro a104 hE e86 kp
  replace e82 := (kp 82 rfl).trans e82
  apply sq_det 87 hE k rfl (by rfl) (by rfl) rfl
  case h =>   -- 47: t87 := Op.pick (tmp 82) (tmp 86) (const (Value.bool false))
    exact x_pick_t rfl e82 e86
  intro a105 hE e87 kp
  apply sq_det 88 hE k rfl (by rfl) (by rfl) rfl
  case h =>   -- 48: t88 := Op.move (tmp 87)
    exact x_move rfl e87
  intro a106 hE e88 kp
  apply sq_detg 89 hE k rfl (by rfl) (by rfl) rfl rfl e88
  case h =>   -- 49: t89 := Op.move (tmp 2)
    exact x_move rfl (hE.eval 2 (by rfl) e2)
  intro a107 hE e89 kp
  replace e88 := (kp 88 rfl).trans e88
  apply sq_callg 90 hE k rfl (by rfl) (by rfl) rfl rfl e88
  case h =>   -- (*tierce/disc.Disc).Write
    simp [go_sem, BigFrame.eval_const, BigFrame.eval_global, BigFrame.eval_func, ↓IntWalk.iteOmega, ev e89]
    with_reducible exact ⟨rfl, rfl⟩
  case hc => exact dwrite_arg 0 [97] _ O (by decide) (by decide)
  clear O
  rintro e w109 ⟨rfl, O⟩
  refine ⟨_, rfl, ?_⟩
  intro a108 hE e90 kp
  replace e88 := (kp 88 rfl).trans e88
  apply sq_detg 91 hE k rfl (by rfl) (by rfl) rfl rfl e88
  case h =>   -- 51: t91 := Op.binOp BinOp.eql 36 (tmp 90) (const (Value.int IntKind.i64 1)) 36
    exact x_eql rfl e90 rfl
  intro a110 hE e91 kp
  replace e88 := (kp 88 rfl).trans e88
  apply sq_det 92 hE k rfl (by rfl) (by rfl) rfl
  case h =>   -- 52: t92 := Op.pick (tmp 88) (tmp 91) (const (Value.bool false))
    exact x_pick_t rfl e88 e91
  intro a111 hE e92 kp
  apply sq_det 0 hE k rfl (by rfl) (by rfl) rfl
  case h =>   -- 53: t0 := Op.assign (tmp 92)
    exact x_assign rfl e92
  intro a112 hE e0 kp
  refine wpList_nil ?_
  replace k := k.env hE
  clear hE e2 e3 e4 e5 e6 e7 e8 e9 e10
  refine then_n ?_
  refine wp_ret ?_
  refine ret_F1 rfl k e0 ?_
  exact ⟨rfl, O.below⟩
end Go.Proofs.Ytdpohbaeopidmaa
