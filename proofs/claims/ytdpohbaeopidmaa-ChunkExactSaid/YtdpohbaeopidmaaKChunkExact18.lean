/- chunk: Read, Write, Copy, Zero, Flush, New (printed by XChunkB.gen.py). -/
import Derived.Test.YtdpohbaeopidmaaKChunkExact16
import Derived.Test.YtdpohbaeopidmaaKChunkExact17
namespace Go.Proofs.Ytdpohbaeopidmaa
attribute [local simp] BigFrame.eval_const BigFrame.eval_global BigFrame.eval_func
set_option linter.unusedVariables false
set_option linter.unusedSimpArgs false
open Go.RowKit Go.Maps

set_option maxRecDepth 100000 in
set_option maxHeartbeats 4000000 in
theorem cread_bad (dv : Value) (t u x y c : Int) (W0 : World) (hc : c ≠ 0) (hsp : ∀ W, Ext W0 W → Calls Try.prog 91 #[dv, .agg #[.int .i64 t, .int .i64 u]] W fun e w' => e = .returned (.tuple #[.int .i64 0, .int .i64 c]) ∧ Ext W w') : Calls Try.prog 54 #[dv, .agg #[.int .i64 t, .int .i64 u], .int .i64 x, .int .i64 y] W0 fun e w' => e = .returned (.tuple #[.string (sB []), .int .i64 c]) ∧ Ext W0 w' := by
  have O := OwnT.start W0
  refine calls_F Try.func54 rfl 42 rfl (by rfl) ?_
  intro a1 k hargs
  have e0 : a1.eval (.tmp 0) = dv := hargs 0 _ rfl
  have e1 : a1.eval (.tmp 1) = .agg #[.int .i64 t, .int .i64 u] := hargs 1 _ rfl
  have e2 : a1.eval (.tmp 2) = .int .i64 x := hargs 2 _ rfl
  have e3 : a1.eval (.tmp 3) = .int .i64 y := hargs 3 _ rfl
  clear hargs
  refine wp_seq ?_
  refine wp_region_lit ?_
  have hE := Env.refl a1 [5, 8, 9]
  refine sq_new O (cs := #[.int .i64 t, .int .i64 u]) (t := 90) 5 hE k rfl (by rfl) (by rfl) rfl (by simp [go_sem, ↓IntWalk.iteOmega, ev (hE.eval 1 (by rfl) e1)]) ?_
  clear O
  intro sb a2 w3 O hE e5 kp
  apply sq_det 8 hE k rfl (by rfl) (by rfl) rfl
  case h =>
    exact x_assign rfl rfl
  intro a4 hE e8 kp
  replace e5 := (kp 5 rfl).trans e5
  apply sq_det 9 hE k rfl (by rfl) (by rfl) rfl
  case h =>
    exact x_assign rfl rfl
  intro a5 hE e9 kp
  replace e5 := (kp 5 rfl).trans e5
  refine wpList_nil ?_
  replace e0 := hE.eval 0 (by rfl) e0
  replace e2 := hE.eval 2 (by rfl) e2
  replace e3 := hE.eval 3 (by rfl) e3
  replace k := k.env hE
  clear hE e1 e9
  refine then_n ?_
  refine wp_seq ?_
  refine wp_region_lit ?_
  have hE := Env.refl a5 [13, 14, 15, 12, 16, 17, 10, 11]
  apply sq_det 13 hE k rfl (by rfl) (by rfl) rfl
  case h =>
    exact x_move rfl (hE.eval 0 (by rfl) e0)
  intro a6 hE e13 kp
  apply sq_det 14 hE k rfl (by rfl) (by rfl) rfl
  case h =>
    have q0 : w3.cell? ⟨sb, 0, none⟩ = some (.int .i64 t) := (OwnT.blk O 0 rfl).cell 0
    have q1 : w3.cell? ⟨sb, 1, none⟩ = some (.int .i64 u) := (OwnT.blk O 0 rfl).cell 1
    simp [go_sem, ↓IntWalk.iteOmega, ev (hE.eval 5 (by rfl) e5), q0, q1]
    with_reducible rfl
  intro a7 hE e14 kp
  replace e13 := (kp 13 rfl).trans e13
  apply sq_call 15 hE k rfl (by rfl) (by rfl) rfl
  case h =>
    simp [go_sem, ↓IntWalk.iteOmega, ev e13, ev e14]
    with_reducible exact ⟨rfl, rfl⟩
  case hc => exact hsp _ O.below
  rintro e w9 ⟨rfl, R⟩
  replace O := OwnT.ext O R
  refine ⟨_, rfl, ?_⟩
  intro a8 hE e15 kp
  apply sq_det 12 hE k rfl (by rfl) (by rfl) rfl
  case h =>
    exact x_move rfl e15
  intro a10 hE e12 kp
  apply sq_det 16 hE k rfl (by rfl) (by rfl) rfl
  case h =>
    simp [go_sem, ↓IntWalk.iteOmega, ev e12]
    with_reducible rfl
  intro a11 hE e16 kp
  replace e12 := (kp 12 rfl).trans e12
  apply sq_det 17 hE k rfl (by rfl) (by rfl) rfl
  case h =>
    simp [go_sem, ↓IntWalk.iteOmega, ev e12]
    with_reducible rfl
  intro a12 hE e17 kp
  replace e16 := (kp 16 rfl).trans e16
  apply sq_det 10 hE k rfl (by rfl) (by rfl) rfl
  case h =>
    exact x_assign rfl e16
  intro a13 hE e10 kp
  replace e17 := (kp 17 rfl).trans e17
  apply sq_det 11 hE k rfl (by rfl) (by rfl) rfl
  case h =>
    exact x_assign rfl e17
  intro a14 hE e11 kp
  replace e10 := (kp 10 rfl).trans e10
  refine wpList_nil ?_
  replace e0 := hE.eval 0 (by rfl) e0
  replace e2 := hE.eval 2 (by rfl) e2
  replace e3 := hE.eval 3 (by rfl) e3
  replace e5 := hE.eval 5 (by rfl) e5
  replace k := k.env hE
  clear hE
  refine then_n ?_
  refine wp_seq ?_
  refine wp_block ?_
  refine wp_seq ?_
  refine wp_region_lit ?_
  have hE := Env.refl a14 [19, 20, 18]
  apply sq_det 19 hE k rfl (by rfl) (by rfl) rfl
  case h =>
    exact x_move rfl (hE.eval 11 (by rfl) e11)
  intro a15 hE e19 kp
  apply sq_det 20 hE k rfl (by rfl) (by rfl) rfl
  case h =>
    exact x_dec (x_neq rfl e19 rfl) (decide_eq_true hc)
  intro a16 hE e20 kp
  apply sq_det 18 hE k rfl (by rfl) (by rfl) rfl
  case h =>
    exact x_assign rfl e20
  intro a17 hE e18 kp
  refine wpList_nil ?_
  replace e0 := hE.eval 0 (by rfl) e0
  replace e2 := hE.eval 2 (by rfl) e2
  replace e3 := hE.eval 3 (by rfl) e3
  replace e5 := hE.eval 5 (by rfl) e5
  replace e10 := hE.eval 10 (by rfl) e10
  replace e11 := hE.eval 11 (by rfl) e11
  replace k := k.env hE
  clear hE
  refine then_n ?_
  refine cond_t e18 rfl ?_
  refine wp_seq ?_
  refine wp_region_lit ?_
  have hE := Env.refl a17 [21, 8, 9]
  apply sq_det 21 hE k rfl (by rfl) (by rfl) rfl
  case h =>
    exact x_move rfl (hE.eval 11 (by rfl) e11)
  intro a18 hE e21 kp
  apply sq_det 8 hE k rfl (by rfl) (by rfl) rfl
  case h =>
    exact x_assign rfl rfl
  intro a19 hE e8 kp
  replace e21 := (kp 21 rfl).trans e21
  apply sq_det 9 hE k rfl (by rfl) (by rfl) rfl
  case h =>
    exact x_assign rfl e21
  intro a20 hE e9 kp
  replace e8 := (kp 8 rfl).trans e8
  refine wpList_nil ?_
  replace k := k.env hE
  clear hE e0 e2 e3 e5 e10 e11 e18
  refine then_n ?_
  refine wp_ret ?_
  refine block_r ?_
  refine then_r ?_
  refine ret_F2 rfl k e8 e9 ?_
  exact ⟨rfl, O.below⟩
set_option maxRecDepth 100000 in
set_option maxHeartbeats 4000000 in
theorem cwrite_bad (dv : Value) (t u x c : Int) (l : List UInt8) (W0 : World) (hc : c ≠ 0) (hsp : ∀ W, Ext W0 W → Calls Try.prog 91 #[dv, .agg #[.int .i64 t, .int .i64 u]] W fun e w' => e = .returned (.tuple #[.int .i64 0, .int .i64 c]) ∧ Ext W w') : Calls Try.prog 51 #[dv, .agg #[.int .i64 t, .int .i64 u], .int .i64 x, .string (sB l)] W0 fun e w' => e = .returned (.int .i64 c) ∧ Ext W0 w' := by
  have O := OwnT.start W0
  refine calls_F Try.func51 rfl 46 rfl (by rfl) ?_
  intro a1 k hargs
  have e0 : a1.eval (.tmp 0) = dv := hargs 0 _ rfl
  have e1 : a1.eval (.tmp 1) = .agg #[.int .i64 t, .int .i64 u] := hargs 1 _ rfl
  have e2 : a1.eval (.tmp 2) = .int .i64 x := hargs 2 _ rfl
  have e3 : a1.eval (.tmp 3) = .string (sB l) := hargs 3 _ rfl
  clear hargs
  refine wp_seq ?_
  refine wp_region_lit ?_
  have hE := Env.refl a1 [5, 8]
  refine sq_new O (cs := #[.int .i64 t, .int .i64 u]) (t := 90) 5 hE k rfl (by rfl) (by rfl) rfl (by simp [go_sem, ↓IntWalk.iteOmega, ev (hE.eval 1 (by rfl) e1)]) ?_
  clear O
  intro sb a2 w3 O hE e5 kp
  apply sq_det 8 hE k rfl (by rfl) (by rfl) rfl
  case h =>
    exact x_assign rfl rfl
  intro a4 hE e8 kp
  replace e5 := (kp 5 rfl).trans e5
  refine wpList_nil ?_
  replace e0 := hE.eval 0 (by rfl) e0
  replace e2 := hE.eval 2 (by rfl) e2
  replace e3 := hE.eval 3 (by rfl) e3
  replace k := k.env hE
  clear hE e1 e8
  refine then_n ?_
  refine wp_seq ?_
  refine wp_region_lit ?_
  have hE := Env.refl a4 [12, 13, 14, 11, 15, 16, 9, 10]
  apply sq_det 12 hE k rfl (by rfl) (by rfl) rfl
  case h =>
    exact x_move rfl (hE.eval 0 (by rfl) e0)
  intro a5 hE e12 kp
  apply sq_det 13 hE k rfl (by rfl) (by rfl) rfl
  case h =>
    have q0 : w3.cell? ⟨sb, 0, none⟩ = some (.int .i64 t) := (OwnT.blk O 0 rfl).cell 0
    have q1 : w3.cell? ⟨sb, 1, none⟩ = some (.int .i64 u) := (OwnT.blk O 0 rfl).cell 1
    simp [go_sem, ↓IntWalk.iteOmega, ev (hE.eval 5 (by rfl) e5), q0, q1]
    with_reducible rfl
  intro a6 hE e13 kp
  replace e12 := (kp 12 rfl).trans e12
  apply sq_call 14 hE k rfl (by rfl) (by rfl) rfl
  case h =>
    simp [go_sem, ↓IntWalk.iteOmega, ev e12, ev e13]
    with_reducible exact ⟨rfl, rfl⟩
  case hc => exact hsp _ O.below
  rintro e w8 ⟨rfl, R⟩
  replace O := OwnT.ext O R
  refine ⟨_, rfl, ?_⟩
  intro a7 hE e14 kp
  apply sq_det 11 hE k rfl (by rfl) (by rfl) rfl
  case h =>
    exact x_move rfl e14
  intro a9 hE e11 kp
  apply sq_det 15 hE k rfl (by rfl) (by rfl) rfl
  case h =>
    simp [go_sem, ↓IntWalk.iteOmega, ev e11]
    with_reducible rfl
  intro a10 hE e15 kp
  replace e11 := (kp 11 rfl).trans e11
  apply sq_det 16 hE k rfl (by rfl) (by rfl) rfl
  case h =>
    simp [go_sem, ↓IntWalk.iteOmega, ev e11]
    with_reducible rfl
  intro a11 hE e16 kp
  replace e15 := (kp 15 rfl).trans e15
  apply sq_det 9 hE k rfl (by rfl) (by rfl) rfl
  case h =>
    exact x_assign rfl e15
  intro a12 hE e9 kp
  replace e16 := (kp 16 rfl).trans e16
  apply sq_det 10 hE k rfl (by rfl) (by rfl) rfl
  case h =>
    exact x_assign rfl e16
  intro a13 hE e10 kp
  replace e9 := (kp 9 rfl).trans e9
  refine wpList_nil ?_
  replace e0 := hE.eval 0 (by rfl) e0
  replace e2 := hE.eval 2 (by rfl) e2
  replace e3 := hE.eval 3 (by rfl) e3
  replace e5 := hE.eval 5 (by rfl) e5
  replace k := k.env hE
  clear hE
  refine then_n ?_
  refine wp_seq ?_
  refine wp_block ?_
  refine wp_seq ?_
  refine wp_region_lit ?_
  have hE := Env.refl a13 [18, 19, 17]
  apply sq_det 18 hE k rfl (by rfl) (by rfl) rfl
  case h =>
    exact x_move rfl (hE.eval 10 (by rfl) e10)
  intro a14 hE e18 kp
  apply sq_det 19 hE k rfl (by rfl) (by rfl) rfl
  case h =>
    exact x_dec (x_neq rfl e18 rfl) (decide_eq_true hc)
  intro a15 hE e19 kp
  apply sq_det 17 hE k rfl (by rfl) (by rfl) rfl
  case h =>
    exact x_assign rfl e19
  intro a16 hE e17 kp
  refine wpList_nil ?_
  replace e0 := hE.eval 0 (by rfl) e0
  replace e2 := hE.eval 2 (by rfl) e2
  replace e3 := hE.eval 3 (by rfl) e3
  replace e5 := hE.eval 5 (by rfl) e5
  replace e9 := hE.eval 9 (by rfl) e9
  replace e10 := hE.eval 10 (by rfl) e10
  replace k := k.env hE
  clear hE
  refine then_n ?_
  refine cond_t e17 rfl ?_
  refine wp_seq ?_
  refine wp_region_lit ?_
  have hE := Env.refl a16 [20, 8]
  apply sq_det 20 hE k rfl (by rfl) (by rfl) rfl
  case h =>
    exact x_move rfl (hE.eval 10 (by rfl) e10)
  intro a17 hE e20 kp
  apply sq_det 8 hE k rfl (by rfl) (by rfl) rfl
  case h =>
    exact x_assign rfl e20
  intro a18 hE e8 kp
  refine wpList_nil ?_
  replace k := k.env hE
  clear hE e0 e2 e3 e5 e9 e10 e17
  refine then_n ?_
  refine wp_ret ?_
  refine block_r ?_
  refine then_r ?_
  refine ret_F1 rfl k e8 ?_
  exact ⟨rfl, O.below⟩
set_option maxRecDepth 100000 in
set_option maxHeartbeats 4000000 in
theorem ccopy_bad (dv : Value) (t u t2 u2 c : Int) (W0 : World) (hc : c ≠ 0) (hsp : ∀ W, Ext W0 W → Calls Try.prog 91 #[dv, .agg #[.int .i64 t2, .int .i64 u2]] W fun e w' => e = .returned (.tuple #[.int .i64 0, .int .i64 c]) ∧ Ext W w') : Calls Try.prog 57 #[dv, .agg #[.int .i64 t, .int .i64 u], .agg #[.int .i64 t2, .int .i64 u2]] W0 fun e w' => e = .returned (.int .i64 c) ∧ Ext W0 w' := by
  have O := OwnT.start W0
  refine calls_F Try.func57 rfl 37 rfl (by rfl) ?_
  intro a1 k hargs
  have e0 : a1.eval (.tmp 0) = dv := hargs 0 _ rfl
  have e1 : a1.eval (.tmp 1) = .agg #[.int .i64 t, .int .i64 u] := hargs 1 _ rfl
  have e2 : a1.eval (.tmp 2) = .agg #[.int .i64 t2, .int .i64 u2] := hargs 2 _ rfl
  clear hargs
  refine wp_seq ?_
  refine wp_region_lit ?_
  have hE := Env.refl a1 [4, 5, 6]
  refine sq_new O (cs := #[.int .i64 t, .int .i64 u]) (t := 90) 4 hE k rfl (by rfl) (by rfl) rfl (by simp [go_sem, ↓IntWalk.iteOmega, ev (hE.eval 1 (by rfl) e1)]) ?_
  clear O
  intro sa a2 w3 O hE e4 kp
  refine sq_new O (cs := #[.int .i64 t2, .int .i64 u2]) (t := 90) 5 hE k rfl (by rfl) (by rfl) rfl (by simp [go_sem, ↓IntWalk.iteOmega, ev (hE.eval 2 (by rfl) e2)]) ?_
  clear O
  intro sb a4 w5 O hE e5 kp
  replace e4 := (kp 4 rfl).trans e4
  apply sq_det 6 hE k rfl (by rfl) (by rfl) rfl
  case h =>
    exact x_assign rfl rfl
  intro a6 hE e6 kp
  replace e4 := (kp 4 rfl).trans e4
  replace e5 := (kp 5 rfl).trans e5
  refine wpList_nil ?_
  replace e0 := hE.eval 0 (by rfl) e0
  replace k := k.env hE
  clear hE e1 e2 e6
  refine then_n ?_
  refine wp_seq ?_
  refine wp_seq ?_
  refine wp_region_lit ?_
  have hE := Env.refl a6 [12, 13, 14, 11, 15, 16, 7, 8]
  apply sq_det 12 hE k rfl (by rfl) (by rfl) rfl
  case h =>
    exact x_move rfl (hE.eval 0 (by rfl) e0)
  intro a7 hE e12 kp
  apply sq_det 13 hE k rfl (by rfl) (by rfl) rfl
  case h =>
    have q0 : w5.cell? ⟨sb, 0, none⟩ = some (.int .i64 t2) := (OwnT.blk O 0 rfl).cell 0
    have q1 : w5.cell? ⟨sb, 1, none⟩ = some (.int .i64 u2) := (OwnT.blk O 0 rfl).cell 1
    simp [go_sem, ↓IntWalk.iteOmega, ev (hE.eval 5 (by rfl) e5), q0, q1]
    with_reducible rfl
  intro a8 hE e13 kp
  replace e12 := (kp 12 rfl).trans e12
  apply sq_call 14 hE k rfl (by rfl) (by rfl) rfl
  case h =>
    simp [go_sem, ↓IntWalk.iteOmega, ev e12, ev e13]
    with_reducible exact ⟨rfl, rfl⟩
  case hc => exact hsp _ O.below
  rintro e w10 ⟨rfl, R⟩
  replace O := OwnT.ext O R
  refine ⟨_, rfl, ?_⟩
  intro a9 hE e14 kp
  apply sq_det 11 hE k rfl (by rfl) (by rfl) rfl
  case h =>
    exact x_move rfl e14
  intro a11 hE e11 kp
  apply sq_det 15 hE k rfl (by rfl) (by rfl) rfl
  case h =>
    simp [go_sem, ↓IntWalk.iteOmega, ev e11]
    with_reducible rfl
  intro a12 hE e15 kp
  replace e11 := (kp 11 rfl).trans e11
  apply sq_det 16 hE k rfl (by rfl) (by rfl) rfl
  case h =>
    simp [go_sem, ↓IntWalk.iteOmega, ev e11]
    with_reducible rfl
  intro a13 hE e16 kp
  replace e15 := (kp 15 rfl).trans e15
  apply sq_det 7 hE k rfl (by rfl) (by rfl) rfl
  case h =>
    exact x_assign rfl e15
  intro a14 hE e7 kp
  replace e16 := (kp 16 rfl).trans e16
  apply sq_det 8 hE k rfl (by rfl) (by rfl) rfl
  case h =>
    exact x_assign rfl e16
  intro a15 hE e8 kp
  refine wpList_nil ?_
  replace e0 := hE.eval 0 (by rfl) e0
  replace e4 := hE.eval 4 (by rfl) e4
  replace e5 := hE.eval 5 (by rfl) e5
  replace k := k.env hE
  clear hE
  refine then_n ?_
  refine wp_seq ?_
  refine wp_region_lit ?_
  have hE := Env.refl a15 [17, 18]
  apply sq_det 17 hE k rfl (by rfl) (by rfl) rfl
  case h =>
    exact x_move rfl (hE.eval 8 (by rfl) e8)
  intro a16 hE e17 kp
  apply sq_det 18 hE k rfl (by rfl) (by rfl) rfl
  case h =>
    exact x_dec (x_neq rfl e17 rfl) (decide_eq_true hc)
  intro a17 hE e18 kp
  refine wpList_nil ?_
  replace e0 := hE.eval 0 (by rfl) e0
  replace e4 := hE.eval 4 (by rfl) e4
  replace e5 := hE.eval 5 (by rfl) e5
  replace e8 := hE.eval 8 (by rfl) e8
  replace k := k.env hE
  clear hE
  refine then_n ?_
  refine cond_t e18 rfl ?_
  refine wp_seq ?_
  refine wp_region_lit ?_
  have hE := Env.refl a17 [19, 6]
  apply sq_det 19 hE k rfl (by rfl) (by rfl) rfl
  case h =>
    exact x_move rfl (hE.eval 8 (by rfl) e8)
  intro a18 hE e19 kp
  apply sq_det 6 hE k rfl (by rfl) (by rfl) rfl
  case h =>
    exact x_assign rfl e19
  intro a19 hE e6 kp
  refine wpList_nil ?_
  replace k := k.env hE
  clear hE e0 e4 e5 e8 e18
  refine then_n ?_
  refine wp_ret ?_
  refine then_r ?_
  refine ret_F1 rfl k e6 ?_
  exact ⟨rfl, O.below⟩
set_option maxRecDepth 100000 in
set_option maxHeartbeats 4000000 in
theorem ccopy_from {db sz : Nat} {v1 v2 : Value} (t u t2 u2 c z : Int) (s : List UInt8) (W0 : World) (hd : Blk W0 db 149 #[v1, v2, .int .i64 sz]) (hsp : ∀ W, Ext W0 W → Calls Try.prog 91 #[.pointer (some ⟨db, 0, none⟩), .agg #[.int .i64 t2, .int .i64 u2]] W fun e w' => e = .returned (.tuple #[.int .i64 z, .int .i64 0]) ∧ Ext W w') (hc : c ≠ 0) (hrd : ∀ W, Ext W0 W → Calls Try.prog 54 #[.pointer (some ⟨db, 0, none⟩), .agg #[.int .i64 t, .int .i64 u], .int .i64 0, .int .i64 (sz : Nat)] W fun e w' => e = .returned (.tuple #[.string (sB s), .int .i64 c]) ∧ Ext W w') : Calls Try.prog 57 #[.pointer (some ⟨db, 0, none⟩), .agg #[.int .i64 t, .int .i64 u], .agg #[.int .i64 t2, .int .i64 u2]] W0 fun e w' => e = .returned (.int .i64 c) ∧ Ext W0 w' := by
  have O := OwnT.start W0
  refine calls_F Try.func57 rfl 37 rfl (by rfl) ?_
  intro a1 k hargs
  have e0 : a1.eval (.tmp 0) = .pointer (some ⟨db, 0, none⟩) := hargs 0 _ rfl
  have e1 : a1.eval (.tmp 1) = .agg #[.int .i64 t, .int .i64 u] := hargs 1 _ rfl
  have e2 : a1.eval (.tmp 2) = .agg #[.int .i64 t2, .int .i64 u2] := hargs 2 _ rfl
  clear hargs
  refine wp_seq ?_
  refine wp_region_lit ?_
  have hE := Env.refl a1 [4, 5, 6]
  refine sq_new O (cs := #[.int .i64 t, .int .i64 u]) (t := 90) 4 hE k rfl (by rfl) (by rfl) rfl (by simp [go_sem, ↓IntWalk.iteOmega, ev (hE.eval 1 (by rfl) e1)]) ?_
  clear O
  intro sa a2 w3 O hE e4 kp
  refine sq_new O (cs := #[.int .i64 t2, .int .i64 u2]) (t := 90) 5 hE k rfl (by rfl) (by rfl) rfl (by simp [go_sem, ↓IntWalk.iteOmega, ev (hE.eval 2 (by rfl) e2)]) ?_
  clear O
  intro sb a4 w5 O hE e5 kp
  replace e4 := (kp 4 rfl).trans e4
  apply sq_det 6 hE k rfl (by rfl) (by rfl) rfl
  case h =>
    exact x_assign rfl rfl
  intro a6 hE e6 kp
  replace e4 := (kp 4 rfl).trans e4
  replace e5 := (kp 5 rfl).trans e5
  refine wpList_nil ?_
  replace e0 := hE.eval 0 (by rfl) e0
  replace k := k.env hE
  clear hE e1 e2 e6
  refine then_n ?_
  refine wp_seq ?_
  refine wp_seq ?_
  refine wp_region_lit ?_
  have hE := Env.refl a6 [12, 13, 14, 11, 15, 16, 7, 8]
  apply sq_det 12 hE k rfl (by rfl) (by rfl) rfl
  case h =>
    exact x_move rfl (hE.eval 0 (by rfl) e0)
  intro a7 hE e12 kp
  apply sq_det 13 hE k rfl (by rfl) (by rfl) rfl
  case h =>
    have q0 : w5.cell? ⟨sb, 0, none⟩ = some (.int .i64 t2) := (OwnT.blk O 0 rfl).cell 0
    have q1 : w5.cell? ⟨sb, 1, none⟩ = some (.int .i64 u2) := (OwnT.blk O 0 rfl).cell 1
    simp [go_sem, ↓IntWalk.iteOmega, ev (hE.eval 5 (by rfl) e5), q0, q1]
    with_reducible rfl
  intro a8 hE e13 kp
  replace e12 := (kp 12 rfl).trans e12
  apply sq_call 14 hE k rfl (by rfl) (by rfl) rfl
  case h =>
    simp [go_sem, ↓IntWalk.iteOmega, ev e12, ev e13]
    with_reducible exact ⟨rfl, rfl⟩
  case hc => exact hsp _ O.below
  rintro e w10 ⟨rfl, R⟩
  replace O := OwnT.ext O R
  refine ⟨_, rfl, ?_⟩
  intro a9 hE e14 kp
  apply sq_det 11 hE k rfl (by rfl) (by rfl) rfl
  case h =>
    exact x_move rfl e14
  intro a11 hE e11 kp
  apply sq_det 15 hE k rfl (by rfl) (by rfl) rfl
  case h =>
    simp [go_sem, ↓IntWalk.iteOmega, ev e11]
    with_reducible rfl
  intro a12 hE e15 kp
  replace e11 := (kp 11 rfl).trans e11
  apply sq_det 16 hE k rfl (by rfl) (by rfl) rfl
  case h =>
    simp [go_sem, ↓IntWalk.iteOmega, ev e11]
    with_reducible rfl
  intro a13 hE e16 kp
  replace e15 := (kp 15 rfl).trans e15
  apply sq_det 7 hE k rfl (by rfl) (by rfl) rfl
  case h =>
    exact x_assign rfl e15
  intro a14 hE e7 kp
  replace e16 := (kp 16 rfl).trans e16
  apply sq_det 8 hE k rfl (by rfl) (by rfl) rfl
  case h =>
    exact x_assign rfl e16
  intro a15 hE e8 kp
  refine wpList_nil ?_
  replace e0 := hE.eval 0 (by rfl) e0
  replace e4 := hE.eval 4 (by rfl) e4
  replace e5 := hE.eval 5 (by rfl) e5
  replace k := k.env hE
  clear hE
  refine then_n ?_
  refine wp_seq ?_
  refine wp_region_lit ?_
  have hE := Env.refl a15 [17, 18]
  apply sq_det 17 hE k rfl (by rfl) (by rfl) rfl
  case h =>
    exact x_move rfl (hE.eval 8 (by rfl) e8)
  intro a16 hE e17 kp
  apply sq_det 18 hE k rfl (by rfl) (by rfl) rfl
  case h =>
    exact x_dec (x_neq rfl e17 rfl) (decide_eq_false (by omega))
  intro a17 hE e18 kp
  refine wpList_nil ?_
  replace e0 := hE.eval 0 (by rfl) e0
  replace e4 := hE.eval 4 (by rfl) e4
  replace e5 := hE.eval 5 (by rfl) e5
  replace e8 := hE.eval 8 (by rfl) e8
  replace k := k.env hE
  clear hE
  refine then_n ?_
  refine cond_f e18 rfl ?_
  refine wp_skip ?_
  refine then_n ?_
  refine wp_seq ?_
  refine wp_typed (R := Ext) (w0 := w10) [[], [], [], [2], [2, 3], [2, 3, 4], [0, 1, 2, 3, 4, 5], [0, 1, 2, 3, 4, 5, 6], [0, 1, 2, 3, 4, 5, 6, 7], [0, 1, 2, 3, 4, 5, 6, 7], [0, 1, 2, 3, 4, 5, 6, 7, 8], [0, 1, 2, 3, 4, 5, 6, 7, 8, 9, 10]] [21, 22, 23, 24, 25, 26, 27, 20, 28, 29, 9, 10] Ext.refl (fun _ _ _ => Ext.trans) (Ext.drew _) (by kernel_rfl) ?_
  apply Build.det 21 Ext.refl (by rfl) (by rw [k.size]; rfl) rfl
  case h =>
    intro ax wx hE hR hF
    exact x_move rfl (hE.eval 0 (by rfl) e0)
  apply Build.det 22 Ext.refl (by rfl) (by rw [k.size]; rfl) rfl
  case h =>
    intro ax wx hE hR hF
    have q0 : wx.cell? ⟨sa, 0, none⟩ = some (.int .i64 t) := (OwnT.blk (OwnT.ext O hR) 1 rfl).cell 0
    have q1 : wx.cell? ⟨sa, 1, none⟩ = some (.int .i64 u) := (OwnT.blk (OwnT.ext O hR) 1 rfl).cell 1
    simp [go_sem, ↓IntWalk.iteOmega, ev (hE.eval 4 (by rfl) e4), q0, q1]
    with_reducible rfl
  apply Build.det 23 Ext.refl (by rfl) (by rw [k.size]; rfl) rfl
  case h =>
    intro ax wx hE hR hF
    exact x_move rfl (hE.eval 0 (by rfl) e0)
  apply Build.det 24 Ext.refl (by rfl) (by rw [k.size]; rfl) rfl
  case h =>
    intro ax wx hE hR hF
    have e23 : ax.eval (.tmp 23) = _ := hF 2 (det 23 _) (by decide) (.head _)
    exact x_nil rfl e23
  apply Build.det 25 Ext.refl (by rfl) (by rw [k.size]; rfl) rfl
  case h =>
    intro ax wx hE hR hF
    have e24 : ax.eval (.tmp 24) = _ := hF 3 (det 24 _) (by decide) (.head _)
    simp [go_sem, ↓IntWalk.iteOmega, ev e24]
    with_reducible rfl
  apply Build.det 26 Ext.refl (by rfl) (by rw [k.size]; rfl) rfl
  case h =>
    intro ax wx hE hR hF
    have e25 : ax.eval (.tmp 25) = _ := hF 4 (det 25 _) (by decide) (.head _)
    have d2 : wx.cell? ⟨db, 2, none⟩ = some (.int .i64 sz) := (hd.ext (OwnT.ext O hR).below).cell 2
    simp [go_sem, ↓IntWalk.iteOmega, ev e25, d2]
    with_reducible rfl
  apply Build.call 27 Ext.refl (by rfl) (by rw [k.size]; rfl) rfl
  case h =>
    intro ax wx hE hR hF
    have e21 : ax.eval (.tmp 21) = _ := hF 0 (det 21 _) (by decide) (.tail _ (.tail _ (.tail _ (.tail _ (.tail _ (.head _))))))
    have e22 : ax.eval (.tmp 22) = _ := hF 1 (det 22 _) (by decide) (.tail _ (.tail _ (.tail _ (.tail _ (.head _)))))
    have e26 : ax.eval (.tmp 26) = _ := hF 5 (det 26 _) (by decide) (.head _)
    simp [go_sem, ↓IntWalk.iteOmega, ev e21, ev e22, ev e26]
    with_reducible exact ⟨rfl, rfl⟩
  case hc => intro wx hR; exact (hrd wx (OwnT.ext O hR).below)
  apply Build.det 20 Ext.refl (by rfl) (by rw [k.size]; rfl) rfl
  case h =>
    intro ax wx hE hR hF
    have e27 : ax.eval (.tmp 27) = _ := hF 6 (det 27 _) (by decide) (.head _)
    exact x_move rfl e27
  apply Build.det 28 Ext.refl (by rfl) (by rw [k.size]; rfl) rfl
  case h =>
    intro ax wx hE hR hF
    have e20 : ax.eval (.tmp 20) = _ := hF 7 (det 20 _) (by decide) (.head _)
    simp [go_sem, ↓IntWalk.iteOmega, ev e20]
    with_reducible rfl
  apply Build.det 29 Ext.refl (by rfl) (by rw [k.size]; rfl) rfl
  case h =>
    intro ax wx hE hR hF
    have e20 : ax.eval (.tmp 20) = _ := hF 7 (det 20 _) (by decide) (.tail _ (.head _))
    simp [go_sem, ↓IntWalk.iteOmega, ev e20]
    with_reducible rfl
  apply Build.det 9 Ext.refl (by rfl) (by rw [k.size]; rfl) rfl
  case h =>
    intro ax wx hE hR hF
    have e28 : ax.eval (.tmp 28) = _ := hF 8 (det 28 _) (by decide) (.tail _ (.head _))
    exact x_assign rfl e28
  apply Build.det 10 Ext.refl (by rfl) (by rw [k.size]; rfl) rfl
  case h =>
    intro ax wx hE hR hF
    have e29 : ax.eval (.tmp 29) = _ := hF 9 (det 29 _) (by decide) (.tail _ (.head _))
    exact x_assign rfl e29
  apply Build.stop
  refine ⟨by kernel_rfl, .inl ⟨rfl, ?_⟩⟩
  intro a18 w19 hE R hF
  have e9 : a18.eval (.tmp 9) = _ := hF 10 (det 9 _) (.tail _ (.head _))
  have e10 : a18.eval (.tmp 10) = _ := hF 11 (det 10 _) (.head _)
  clear hF
  replace O := OwnT.ext O R
  clear R
  replace e0 := hE.eval 0 (by rfl) e0
  replace e5 := hE.eval 5 (by rfl) e5
  replace k := k.env hE
  clear hE e4 e8 e18
  refine then_n ?_
  refine wp_seq ?_
  refine wp_seq ?_
  refine wp_region_lit ?_
  have hE := Env.refl a18 [30, 31]
  apply sq_det 30 hE k rfl (by rfl) (by rfl) rfl
  case h =>
    exact x_move rfl (hE.eval 10 (by rfl) e10)
  intro a20 hE e30 kp
  apply sq_det 31 hE k rfl (by rfl) (by rfl) rfl
  case h =>
    exact x_dec (x_neq rfl e30 rfl) (decide_eq_true hc)
  intro a21 hE e31 kp
  refine wpList_nil ?_
  replace e0 := hE.eval 0 (by rfl) e0
  replace e5 := hE.eval 5 (by rfl) e5
  replace e9 := hE.eval 9 (by rfl) e9
  replace e10 := hE.eval 10 (by rfl) e10
  replace k := k.env hE
  clear hE
  refine then_n ?_
  refine cond_t e31 rfl ?_
  refine wp_seq ?_
  refine wp_region_lit ?_
  have hE := Env.refl a21 [32, 6]
  apply sq_det 32 hE k rfl (by rfl) (by rfl) rfl
  case h =>
    exact x_move rfl (hE.eval 10 (by rfl) e10)
  intro a22 hE e32 kp
  apply sq_det 6 hE k rfl (by rfl) (by rfl) rfl
  case h =>
    exact x_assign rfl e32
  intro a23 hE e6 kp
  refine wpList_nil ?_
  replace k := k.env hE
  clear hE e0 e5 e9 e10 e31
  refine then_n ?_
  refine wp_ret ?_
  refine then_r ?_
  refine ret_F1 rfl k e6 ?_
  exact ⟨rfl, O.below⟩
set_option maxRecDepth 100000 in
set_option maxHeartbeats 4000000 in
theorem ccopy_go {db sz : Nat} {v1 v2 : Value} (t u t2 u2 c z : Int) (s : List UInt8) (W0 : World) (hd : Blk W0 db 149 #[v1, v2, .int .i64 sz]) (hsp : ∀ W, Ext W0 W → Calls Try.prog 91 #[.pointer (some ⟨db, 0, none⟩), .agg #[.int .i64 t2, .int .i64 u2]] W fun e w' => e = .returned (.tuple #[.int .i64 z, .int .i64 0]) ∧ Ext W w') {Post : Int → World → Prop} (hrd : ∀ W, Ext W0 W → Calls Try.prog 54 #[.pointer (some ⟨db, 0, none⟩), .agg #[.int .i64 t, .int .i64 u], .int .i64 0, .int .i64 (sz : Nat)] W fun e w' => e = .returned (.tuple #[.string (sB s), .int .i64 0]) ∧ Ext W w') (hwr : ∀ W, Ext W0 W → Calls Try.prog 51 #[.pointer (some ⟨db, 0, none⟩), .agg #[.int .i64 t2, .int .i64 u2], .int .i64 0, .string (sB s)] W fun e w' => ∃ r : Int, e = .returned (.int .i64 r) ∧ Post r w') : Calls Try.prog 57 #[.pointer (some ⟨db, 0, none⟩), .agg #[.int .i64 t, .int .i64 u], .agg #[.int .i64 t2, .int .i64 u2]] W0 fun e w' => ∃ r : Int, e = .returned (.int .i64 r) ∧ Post r w' := by
  have O := OwnT.start W0
  refine calls_F Try.func57 rfl 37 rfl (by rfl) ?_
  intro a1 k hargs
  have e0 : a1.eval (.tmp 0) = .pointer (some ⟨db, 0, none⟩) := hargs 0 _ rfl
  have e1 : a1.eval (.tmp 1) = .agg #[.int .i64 t, .int .i64 u] := hargs 1 _ rfl
  have e2 : a1.eval (.tmp 2) = .agg #[.int .i64 t2, .int .i64 u2] := hargs 2 _ rfl
  clear hargs
  refine wp_seq ?_
  refine wp_region_lit ?_
  have hE := Env.refl a1 [4, 5, 6]
  refine sq_new O (cs := #[.int .i64 t, .int .i64 u]) (t := 90) 4 hE k rfl (by rfl) (by rfl) rfl (by simp [go_sem, ↓IntWalk.iteOmega, ev (hE.eval 1 (by rfl) e1)]) ?_
  clear O
  intro sa a2 w3 O hE e4 kp
  refine sq_new O (cs := #[.int .i64 t2, .int .i64 u2]) (t := 90) 5 hE k rfl (by rfl) (by rfl) rfl (by simp [go_sem, ↓IntWalk.iteOmega, ev (hE.eval 2 (by rfl) e2)]) ?_
  clear O
  intro sb a4 w5 O hE e5 kp
  replace e4 := (kp 4 rfl).trans e4
  apply sq_det 6 hE k rfl (by rfl) (by rfl) rfl
  case h =>
    exact x_assign rfl rfl
  intro a6 hE e6 kp
  replace e4 := (kp 4 rfl).trans e4
  replace e5 := (kp 5 rfl).trans e5
  refine wpList_nil ?_
  replace e0 := hE.eval 0 (by rfl) e0
  replace k := k.env hE
  clear hE e1 e2 e6
  refine then_n ?_
  refine wp_seq ?_
  refine wp_seq ?_
  refine wp_region_lit ?_
  have hE := Env.refl a6 [12, 13, 14, 11, 15, 16, 7, 8]
  apply sq_det 12 hE k rfl (by rfl) (by rfl) rfl
  case h =>
    exact x_move rfl (hE.eval 0 (by rfl) e0)
  intro a7 hE e12 kp
  apply sq_det 13 hE k rfl (by rfl) (by rfl) rfl
  case h =>
    have q0 : w5.cell? ⟨sb, 0, none⟩ = some (.int .i64 t2) := (OwnT.blk O 0 rfl).cell 0
    have q1 : w5.cell? ⟨sb, 1, none⟩ = some (.int .i64 u2) := (OwnT.blk O 0 rfl).cell 1
    simp [go_sem, ↓IntWalk.iteOmega, ev (hE.eval 5 (by rfl) e5), q0, q1]
    with_reducible rfl
  intro a8 hE e13 kp
  replace e12 := (kp 12 rfl).trans e12
  apply sq_call 14 hE k rfl (by rfl) (by rfl) rfl
  case h =>
    simp [go_sem, ↓IntWalk.iteOmega, ev e12, ev e13]
    with_reducible exact ⟨rfl, rfl⟩
  case hc => exact hsp _ O.below
  rintro e w10 ⟨rfl, R⟩
  replace O := OwnT.ext O R
  refine ⟨_, rfl, ?_⟩
  intro a9 hE e14 kp
  apply sq_det 11 hE k rfl (by rfl) (by rfl) rfl
  case h =>
    exact x_move rfl e14
  intro a11 hE e11 kp
  apply sq_det 15 hE k rfl (by rfl) (by rfl) rfl
  case h =>
    simp [go_sem, ↓IntWalk.iteOmega, ev e11]
    with_reducible rfl
  intro a12 hE e15 kp
  replace e11 := (kp 11 rfl).trans e11
  apply sq_det 16 hE k rfl (by rfl) (by rfl) rfl
  case h =>
    simp [go_sem, ↓IntWalk.iteOmega, ev e11]
    with_reducible rfl
  intro a13 hE e16 kp
  replace e15 := (kp 15 rfl).trans e15
  apply sq_det 7 hE k rfl (by rfl) (by rfl) rfl
  case h =>
    exact x_assign rfl e15
  intro a14 hE e7 kp
  replace e16 := (kp 16 rfl).trans e16
  apply sq_det 8 hE k rfl (by rfl) (by rfl) rfl
  case h =>
    exact x_assign rfl e16
  intro a15 hE e8 kp
  refine wpList_nil ?_
  replace e0 := hE.eval 0 (by rfl) e0
  replace e4 := hE.eval 4 (by rfl) e4
  replace e5 := hE.eval 5 (by rfl) e5
  replace k := k.env hE
  clear hE
  refine then_n ?_
  refine wp_seq ?_
  refine wp_region_lit ?_
  have hE := Env.refl a15 [17, 18]
  apply sq_det 17 hE k rfl (by rfl) (by rfl) rfl
  case h =>
    exact x_move rfl (hE.eval 8 (by rfl) e8)
  intro a16 hE e17 kp
  apply sq_det 18 hE k rfl (by rfl) (by rfl) rfl
  case h =>
    exact x_dec (x_neq rfl e17 rfl) (decide_eq_false (by omega))
  intro a17 hE e18 kp
  refine wpList_nil ?_
  replace e0 := hE.eval 0 (by rfl) e0
  replace e4 := hE.eval 4 (by rfl) e4
  replace e5 := hE.eval 5 (by rfl) e5
  replace e8 := hE.eval 8 (by rfl) e8
  replace k := k.env hE
  clear hE
  refine then_n ?_
  refine cond_f e18 rfl ?_
  refine wp_skip ?_
  refine then_n ?_
  refine wp_seq ?_
  refine wp_typed (R := Ext) (w0 := w10) [[], [], [], [2], [2, 3], [2, 3, 4], [0, 1, 2, 3, 4, 5], [0, 1, 2, 3, 4, 5, 6], [0, 1, 2, 3, 4, 5, 6, 7], [0, 1, 2, 3, 4, 5, 6, 7], [0, 1, 2, 3, 4, 5, 6, 7, 8], [0, 1, 2, 3, 4, 5, 6, 7, 8, 9, 10]] [21, 22, 23, 24, 25, 26, 27, 20, 28, 29, 9, 10] Ext.refl (fun _ _ _ => Ext.trans) (Ext.drew _) (by kernel_rfl) ?_
  apply Build.det 21 Ext.refl (by rfl) (by rw [k.size]; rfl) rfl
  case h =>
    intro ax wx hE hR hF
    exact x_move rfl (hE.eval 0 (by rfl) e0)
  apply Build.det 22 Ext.refl (by rfl) (by rw [k.size]; rfl) rfl
  case h =>
    intro ax wx hE hR hF
    have q0 : wx.cell? ⟨sa, 0, none⟩ = some (.int .i64 t) := (OwnT.blk (OwnT.ext O hR) 1 rfl).cell 0
    have q1 : wx.cell? ⟨sa, 1, none⟩ = some (.int .i64 u) := (OwnT.blk (OwnT.ext O hR) 1 rfl).cell 1
    simp [go_sem, ↓IntWalk.iteOmega, ev (hE.eval 4 (by rfl) e4), q0, q1]
    with_reducible rfl
  apply Build.det 23 Ext.refl (by rfl) (by rw [k.size]; rfl) rfl
  case h =>
    intro ax wx hE hR hF
    exact x_move rfl (hE.eval 0 (by rfl) e0)
  apply Build.det 24 Ext.refl (by rfl) (by rw [k.size]; rfl) rfl
  case h =>
    intro ax wx hE hR hF
    have e23 : ax.eval (.tmp 23) = _ := hF 2 (det 23 _) (by decide) (.head _)
    exact x_nil rfl e23
  apply Build.det 25 Ext.refl (by rfl) (by rw [k.size]; rfl) rfl
  case h =>
    intro ax wx hE hR hF
    have e24 : ax.eval (.tmp 24) = _ := hF 3 (det 24 _) (by decide) (.head _)
    simp [go_sem, ↓IntWalk.iteOmega, ev e24]
    with_reducible rfl
  apply Build.det 26 Ext.refl (by rfl) (by rw [k.size]; rfl) rfl
  case h =>
    intro ax wx hE hR hF
    have e25 : ax.eval (.tmp 25) = _ := hF 4 (det 25 _) (by decide) (.head _)
    have d2 : wx.cell? ⟨db, 2, none⟩ = some (.int .i64 sz) := (hd.ext (OwnT.ext O hR).below).cell 2
    simp [go_sem, ↓IntWalk.iteOmega, ev e25, d2]
    with_reducible rfl
  apply Build.call 27 Ext.refl (by rfl) (by rw [k.size]; rfl) rfl
  case h =>
    intro ax wx hE hR hF
    have e21 : ax.eval (.tmp 21) = _ := hF 0 (det 21 _) (by decide) (.tail _ (.tail _ (.tail _ (.tail _ (.tail _ (.head _))))))
    have e22 : ax.eval (.tmp 22) = _ := hF 1 (det 22 _) (by decide) (.tail _ (.tail _ (.tail _ (.tail _ (.head _)))))
    have e26 : ax.eval (.tmp 26) = _ := hF 5 (det 26 _) (by decide) (.head _)
    simp [go_sem, ↓IntWalk.iteOmega, ev e21, ev e22, ev e26]
    with_reducible exact ⟨rfl, rfl⟩
  case hc => intro wx hR; exact (hrd wx (OwnT.ext O hR).below)
  apply Build.det 20 Ext.refl (by rfl) (by rw [k.size]; rfl) rfl
  case h =>
    intro ax wx hE hR hF
    have e27 : ax.eval (.tmp 27) = _ := hF 6 (det 27 _) (by decide) (.head _)
    exact x_move rfl e27
  apply Build.det 28 Ext.refl (by rfl) (by rw [k.size]; rfl) rfl
  case h =>
    intro ax wx hE hR hF
    have e20 : ax.eval (.tmp 20) = _ := hF 7 (det 20 _) (by decide) (.head _)
    simp [go_sem, ↓IntWalk.iteOmega, ev e20]
    with_reducible rfl
  apply Build.det 29 Ext.refl (by rfl) (by rw [k.size]; rfl) rfl
  case h =>
    intro ax wx hE hR hF
    have e20 : ax.eval (.tmp 20) = _ := hF 7 (det 20 _) (by decide) (.tail _ (.head _))
    simp [go_sem, ↓IntWalk.iteOmega, ev e20]
    with_reducible rfl
  apply Build.det 9 Ext.refl (by rfl) (by rw [k.size]; rfl) rfl
  case h =>
    intro ax wx hE hR hF
    have e28 : ax.eval (.tmp 28) = _ := hF 8 (det 28 _) (by decide) (.tail _ (.head _))
    exact x_assign rfl e28
  apply Build.det 10 Ext.refl (by rfl) (by rw [k.size]; rfl) rfl
  case h =>
    intro ax wx hE hR hF
    have e29 : ax.eval (.tmp 29) = _ := hF 9 (det 29 _) (by decide) (.tail _ (.head _))
    exact x_assign rfl e29
  apply Build.stop
  refine ⟨by kernel_rfl, .inl ⟨rfl, ?_⟩⟩
  intro a18 w19 hE R hF
  have e9 : a18.eval (.tmp 9) = _ := hF 10 (det 9 _) (.tail _ (.head _))
  have e10 : a18.eval (.tmp 10) = _ := hF 11 (det 10 _) (.head _)
  clear hF
  replace O := OwnT.ext O R
  clear R
  replace e0 := hE.eval 0 (by rfl) e0
  replace e5 := hE.eval 5 (by rfl) e5
  replace k := k.env hE
  clear hE e4 e8 e18
  refine then_n ?_
  refine wp_seq ?_
  refine wp_seq ?_
  refine wp_region_lit ?_
  have hE := Env.refl a18 [30, 31]
  apply sq_det 30 hE k rfl (by rfl) (by rfl) rfl
  case h =>
    exact x_move rfl (hE.eval 10 (by rfl) e10)
  intro a20 hE e30 kp
  apply sq_det 31 hE k rfl (by rfl) (by rfl) rfl
  case h =>
    exact x_dec (x_neq rfl e30 rfl) (decide_eq_false (by omega))
  intro a21 hE e31 kp
  refine wpList_nil ?_
  replace e0 := hE.eval 0 (by rfl) e0
  replace e5 := hE.eval 5 (by rfl) e5
  replace e9 := hE.eval 9 (by rfl) e9
  replace e10 := hE.eval 10 (by rfl) e10
  replace k := k.env hE
  clear hE
  refine then_n ?_
  refine cond_f e31 rfl ?_
  refine wp_skip ?_
  refine then_n ?_
  refine wp_seq ?_
  refine wp_region_lit ?_
  have hE := Env.refl a21 [33, 34, 35, 36, 6]
  apply sq_det 33 hE k rfl (by rfl) (by rfl) rfl
  case h =>
    exact x_move rfl (hE.eval 0 (by rfl) e0)
  intro a22 hE e33 kp
  apply sq_det 34 hE k rfl (by rfl) (by rfl) rfl
  case h =>
    have q0 : w19.cell? ⟨sb, 0, none⟩ = some (.int .i64 t2) := (OwnT.blk O 0 rfl).cell 0
    have q1 : w19.cell? ⟨sb, 1, none⟩ = some (.int .i64 u2) := (OwnT.blk O 0 rfl).cell 1
    simp [go_sem, ↓IntWalk.iteOmega, ev (hE.eval 5 (by rfl) e5), q0, q1]
    with_reducible rfl
  intro a23 hE e34 kp
  replace e33 := (kp 33 rfl).trans e33
  apply sq_det 35 hE k rfl (by rfl) (by rfl) rfl
  case h =>
    exact x_move rfl (hE.eval 9 (by rfl) e9)
  intro a24 hE e35 kp
  replace e33 := (kp 33 rfl).trans e33
  replace e34 := (kp 34 rfl).trans e34
  apply sq_call 36 hE k rfl (by rfl) (by rfl) rfl
  case h =>
    simp [go_sem, ↓IntWalk.iteOmega, ev e33, ev e34, ev e35]
    with_reducible exact ⟨rfl, rfl⟩
  case hc => exact hwr _ O.below
  rintro e w26 ⟨r, rfl, hP⟩
  refine ⟨_, rfl, ?_⟩
  intro a25 hE e36 kp
  apply sq_det 6 hE k rfl (by rfl) (by rfl) rfl
  case h =>
    exact x_assign rfl e36
  intro a27 hE e6 kp
  refine wpList_nil ?_
  replace k := k.env hE
  clear hE e0 e5 e9 e10 e31
  refine then_n ?_
  refine wp_ret ?_
  refine ret_F1 rfl k e6 ?_
  exact ⟨r, rfl, hP⟩
set_option maxRecDepth 100000 in
set_option maxHeartbeats 4000000 in
theorem czero_go (dv : Value) (sz : Nat) (t u : Int) {Post : Int → World → Prop} (W0 : World) (hz : sz ≤ 1000000) (hsz : ∀ W, Ext W0 W → Calls Try.prog 58 #[dv] W fun e w' => e = .returned (.int .i64 (sz : Nat)) ∧ Ext W w') (hwr : ∀ W, Ext W0 W → Calls Try.prog 51 #[dv, .agg #[.int .i64 t, .int .i64 u], .int .i64 0, .string (sB (List.replicate (16 * sz) 0))] W fun e w' => ∃ r : Int, e = .returned (.int .i64 r) ∧ Post r w') : Calls Try.prog 55 #[dv, .agg #[.int .i64 t, .int .i64 u]] W0 fun e w' => ∃ r : Int, e = .returned (.int .i64 r) ∧ Post r w' := by
  have O := OwnT.start W0
  have hR0 : ∀ W, Calls Try.prog 78 #[.string (sB [0]), .int .i64 ((16 * sz : Nat) : Int)] W fun e w' => e = .returned (.string (sB (List.replicate (16 * sz) 0))) ∧ Ext W w' := fun W => by
    have h := Try.strings_Repeat (sB [0]) (16 * sz) W (by omega) (by rw [sB_size]; simp only [List.length_cons, List.length_nil]; omega)
    rw [sB_data, rep_zero] at h
    exact h
  refine calls_F Try.func55 rfl 12 rfl (by rfl) ?_
  intro a1 k hargs
  have e0 : a1.eval (.tmp 0) = dv := hargs 0 _ rfl
  have e1 : a1.eval (.tmp 1) = .agg #[.int .i64 t, .int .i64 u] := hargs 1 _ rfl
  clear hargs
  refine wp_seq ?_
  refine wp_region_lit ?_
  have hE := Env.refl a1 [3, 4]
  refine sq_new O (cs := #[.int .i64 t, .int .i64 u]) (t := 90) 3 hE k rfl (by rfl) (by rfl) rfl (by simp [go_sem, ↓IntWalk.iteOmega, ev (hE.eval 1 (by rfl) e1)]) ?_
  clear O
  intro sb a2 w3 O hE e3 kp
  apply sq_det 4 hE k rfl (by rfl) (by rfl) rfl
  case h =>
    exact x_assign rfl rfl
  intro a4 hE e4 kp
  replace e3 := (kp 3 rfl).trans e3
  refine wpList_nil ?_
  replace e0 := hE.eval 0 (by rfl) e0
  replace k := k.env hE
  clear hE e1 e4
  refine then_n ?_
  refine wp_seq ?_
  refine wp_tail (w0 := w3) [[], [], [], [2], [2, 3], [2, 3, 4], [0, 1, 2, 3, 4, 5], [0, 1, 2, 3, 4, 5, 6]] [5, 6, 7, 8, 9, 10] (by kernel_rfl) ?_
  apply BuildL.det 5 (fun _ w_ => Ext.refl w_) (fun _ _ h => h) (by rfl) (by rw [k.size]; rfl) rfl
  case h =>
    intro lx ax wx hE hR hF
    exact x_move rfl (hE.eval 0 (by rfl) e0)
  apply BuildL.det 6 (fun _ w_ => Ext.refl w_) (fun _ _ h => h) (by rfl) (by rw [k.size]; rfl) rfl
  case h =>
    intro lx ax wx hE hR hF
    have q0 : wx.cell? ⟨sb, 0, none⟩ = some (.int .i64 t) := (OwnT.blk (OwnT.ext O hR) 0 rfl).cell 0
    have q1 : wx.cell? ⟨sb, 1, none⟩ = some (.int .i64 u) := (OwnT.blk (OwnT.ext O hR) 0 rfl).cell 1
    simp [go_sem, ↓IntWalk.iteOmega, ev (hE.eval 3 (by rfl) e3), q0, q1]
    with_reducible rfl
  apply BuildL.det 7 (fun _ w_ => Ext.refl w_) (fun _ _ h => h) (by rfl) (by rw [k.size]; rfl) rfl
  case h =>
    intro lx ax wx hE hR hF
    exact x_move rfl (hE.eval 0 (by rfl) e0)
  apply BuildL.call 8 (by rfl) (by rw [k.size]; rfl) rfl
  case h =>
    intro lx ax wx hE hR hF
    have e7 : ax.eval (.tmp 7) = _ := hF 2 (detL 2 7 _) (by decide) (.head _)
    simp [go_sem, ↓IntWalk.iteOmega, ev e7]
    with_reducible exact ⟨rfl, rfl⟩
  case hc => intro lx wx hR _ _; exact (hsz wx (OwnT.ext O hR).below).mono (fun e w' h => ⟨h.1, h.2, Ext.trans hR h.2⟩)
  apply BuildL.det 9 (fun _ w_ => Ext.refl w_) (fun _ _ h => h) (by rfl) (by rw [k.size]; rfl) rfl
  case h =>
    intro lx ax wx hE hR hF
    have e8 : ax.eval (.tmp 8) = _ := hF 3 (detL 3 8 _) (by decide) (.head _)
    exact x_val (v := .int .i64 ((16 * sz : Nat) : Int)) (x_mul rfl e8 rfl (by omega)) (int_eq (by omega))
  apply BuildL.call 10 (by rfl) (by rw [k.size]; rfl) rfl
  case h =>
    intro lx ax wx hE hR hF
    have e9 : ax.eval (.tmp 9) = _ := hF 4 (detL 4 9 _) (by decide) (.head _)
    simp [go_sem, ↓IntWalk.iteOmega, ev e9]
    with_reducible exact ⟨rfl, rfl⟩
  case hc => intro lx wx hR _ _; exact (hR0 wx).mono (fun e w' h => ⟨h.1, h.2, Ext.trans hR h.2⟩)
  apply BuildL.stop
  refine ⟨by kernel_rfl, ?_⟩
  intro lx a5 w6 hE R hL hF
  have e5 : a5.eval (.tmp 5) = _ := hF 0 (detL 0 5 _) (.tail _ (.tail _ (.tail _ (.tail _ (.tail _ (.head _))))))
  have e6 : a5.eval (.tmp 6) = _ := hF 1 (detL 1 6 _) (.tail _ (.tail _ (.tail _ (.tail _ (.head _)))))
  have e10 : a5.eval (.tmp 10) = _ := hF 5 (detL 5 10 _) (.head _)
  clear hF hL
  replace O := OwnT.ext O R
  clear R
  simp only [List.length_cons, List.length_nil, Nat.zero_add, Nat.reduceAdd, List.drop_succ_cons, List.drop_zero, List.drop_nil, tailOps]
  apply tail_call 11 [5, 6, 7, 8, 9, 10, 11] hE k rfl (by rfl) (by rfl) (by rfl)
  case h =>
    simp [go_sem, ↓IntWalk.iteOmega, ev e5, ev e6, ev e10]
    with_reducible exact ⟨rfl, rfl⟩
  case hc => exact hwr _ O.below
  rintro e w7 ⟨r, rfl, hP⟩
  refine ⟨_, rfl, ?_⟩
  intro a8 hE e11 kp
  apply tail_val (w' := w7) 4 [5, 6, 7, 8, 9, 10, 11, 4] hE k rfl (by rfl) (by rfl) (by rfl)
  case h =>
    exact x_assign rfl e11
  intro a9 hE e4 kp
  replace k := k.env hE
  clear hE e0 e3
  refine then_n ?_
  refine wp_ret ?_
  refine ret_F1 rfl k e4 ?_
  exact ⟨r, rfl, hP⟩
theorem cflush_nil (t : Int) (w : World) : Calls Try.prog 56 #[.pointer none, .int .i64 t] w fun e w' => e = .returned (.int .i64 2) ∧ w = w' := by
  refine calls_F Try.func56 rfl 20 rfl (by rfl) ?_
  intro a1 k hargs
  have e0 : a1.eval (.tmp 0) = .pointer none := hargs 0 _ rfl
  have e1 : a1.eval (.tmp 1) = .int .i64 t := hargs 1 _ rfl
  clear hargs
  refine wp_seq ?_
  refine wp_region_lit ?_
  have hE := Env.refl a1 [4]
  apply sq_det 4 hE k rfl (by rfl) (by rfl) rfl
  case h =>
    exact x_assign rfl rfl
  intro a2 hE e4 kp
  refine wpList_nil ?_
  replace e0 := hE.eval 0 (by rfl) e0
  replace e1 := hE.eval 1 (by rfl) e1
  replace k := k.env hE
  clear hE e4
  refine then_n ?_
  refine wp_seq ?_
  refine wp_block ?_
  refine wp_seq ?_
  refine wp_region_lit ?_
  have hE := Env.refl a2 [6, 7, 5]
  apply sq_det 6 hE k rfl (by rfl) (by rfl) rfl
  case h =>
    exact x_move rfl (hE.eval 0 (by rfl) e0)
  intro a3 hE e6 kp
  apply sq_det 7 hE k rfl (by rfl) (by rfl) rfl
  case h =>
    simp [go_sem, ↓IntWalk.iteOmega, ev e6]
    with_reducible rfl
  intro a4 hE e7 kp
  apply sq_det 5 hE k rfl (by rfl) (by rfl) rfl
  case h =>
    exact x_assign rfl e7
  intro a5 hE e5 kp
  refine wpList_nil ?_
  replace e0 := hE.eval 0 (by rfl) e0
  replace e1 := hE.eval 1 (by rfl) e1
  replace k := k.env hE
  clear hE
  refine then_n ?_
  refine cond_t e5 rfl ?_
  refine wp_seq ?_
  refine wp_region_lit ?_
  have hE := Env.refl a5 [4]
  apply sq_det 4 hE k rfl (by rfl) (by rfl) rfl
  case h =>
    exact x_assign rfl rfl
  intro a6 hE e4 kp
  refine wpList_nil ?_
  replace k := k.env hE
  clear hE e0 e1 e5
  refine then_n ?_
  refine wp_ret ?_
  refine block_r ?_
  refine then_r ?_
  refine ret_F1 rfl k e4 ?_
  exact ⟨rfl, rfl⟩
theorem cflush_bad (db : Nat) (t : Int) (w : World) (h0 : t ≠ 0) (h1 : t ≠ 1) : Calls Try.prog 56 #[.pointer (some ⟨db, 0, none⟩), .int .i64 t] w fun e w' => e = .returned (.int .i64 1) ∧ w = w' := by
  refine calls_F Try.func56 rfl 20 rfl (by rfl) ?_
  intro a1 k hargs
  have e0 : a1.eval (.tmp 0) = .pointer (some ⟨db, 0, none⟩) := hargs 0 _ rfl
  have e1 : a1.eval (.tmp 1) = .int .i64 t := hargs 1 _ rfl
  clear hargs
  refine wp_seq ?_
  refine wp_region_lit ?_
  have hE := Env.refl a1 [4]
  apply sq_det 4 hE k rfl (by rfl) (by rfl) rfl
  case h =>
    exact x_assign rfl rfl
  intro a2 hE e4 kp
  refine wpList_nil ?_
  replace e0 := hE.eval 0 (by rfl) e0
  replace e1 := hE.eval 1 (by rfl) e1
  replace k := k.env hE
  clear hE e4
  refine then_n ?_
  refine wp_seq ?_
  refine wp_block ?_
  refine wp_seq ?_
  refine wp_region_lit ?_
  have hE := Env.refl a2 [6, 7, 5]
  apply sq_det 6 hE k rfl (by rfl) (by rfl) rfl
  case h =>
    exact x_move rfl (hE.eval 0 (by rfl) e0)
  intro a3 hE e6 kp
  apply sq_det 7 hE k rfl (by rfl) (by rfl) rfl
  case h =>
    simp [go_sem, ↓IntWalk.iteOmega, ev e6]
    with_reducible rfl
  intro a4 hE e7 kp
  apply sq_det 5 hE k rfl (by rfl) (by rfl) rfl
  case h =>
    exact x_assign rfl e7
  intro a5 hE e5 kp
  refine wpList_nil ?_
  replace e0 := hE.eval 0 (by rfl) e0
  replace e1 := hE.eval 1 (by rfl) e1
  replace k := k.env hE
  clear hE
  refine then_n ?_
  refine cond_f e5 rfl ?_
  refine wp_seq ?_
  refine wp_region_lit ?_
  have hE := Env.refl a5 [9, 10, 11, 12, 8]
  apply sq_det 9 hE k rfl (by rfl) (by rfl) rfl
  case h =>
    exact x_move rfl (hE.eval 0 (by rfl) e0)
  intro a6 hE e9 kp
  apply sq_det 10 hE k rfl (by rfl) (by rfl) rfl
  case h =>
    exact x_move rfl (hE.eval 1 (by rfl) e1)
  intro a7 hE e10 kp
  replace e9 := (kp 9 rfl).trans e9
  apply sq_call 11 hE k rfl (by rfl) (by rfl) rfl
  case h =>
    simp [go_sem, ↓IntWalk.iteOmega, ev e9, ev e10]
    with_reducible exact ⟨rfl, rfl⟩
  case hc => exact chas_bad db t _ h0 h1
  rintro e _ ⟨rfl, rfl⟩
  refine ⟨_, rfl, ?_⟩
  intro a8 hE e11 kp
  apply sq_det 12 hE k rfl (by rfl) (by rfl) rfl
  case h =>
    exact x_not rfl e11
  intro a9 hE e12 kp
  apply sq_det 8 hE k rfl (by rfl) (by rfl) rfl
  case h =>
    exact x_assign rfl e12
  intro a10 hE e8 kp
  refine wpList_nil ?_
  replace e0 := hE.eval 0 (by rfl) e0
  replace e1 := hE.eval 1 (by rfl) e1
  replace k := k.env hE
  clear hE e5
  refine then_n ?_
  refine cond_t e8 rfl ?_
  refine wp_seq ?_
  refine wp_region_lit ?_
  have hE := Env.refl a10 [4]
  apply sq_det 4 hE k rfl (by rfl) (by rfl) rfl
  case h =>
    exact x_assign rfl rfl
  intro a11 hE e4 kp
  refine wpList_nil ?_
  replace k := k.env hE
  clear hE e0 e1 e8
  refine then_n ?_
  refine wp_ret ?_
  refine block_r ?_
  refine then_r ?_
  refine ret_F1 rfl k e4 ?_
  exact ⟨rfl, rfl⟩
set_option maxRecDepth 100000 in
set_option maxHeartbeats 4000000 in
theorem cflush_ok0 {H : Nat} {A0 : World} {R : List Thing} {Y : Thing} {p mb n cap bm db p2 sz : Nat} {B : Option Addr} {S : List Sec} {L : Int → Option Sec} {M : Mn} {c : Int} (w : World) (O : OwnT H A0 ((tDisc p mb B n cap bm S L) :: (tMn mb M) :: (Y) :: (tBlk db 149 #[.pointer (some ⟨p, 0, none⟩), .pointer (some ⟨p2, 0, none⟩), .int .i64 ↑sz]) :: R) w) (hM : M.Ok c) (hc : c ≤ 1000000000000) (hu : M.up = true) : Calls Try.prog 56 #[.pointer (some ⟨db, 0, none⟩), .int .i64 0] w fun e w' => e = .returned (.int .i64 0) ∧ OwnT H A0 ((tDisc p mb B n cap bm (nowL S L) (fun _ => none)) :: (tMn mb M.use) :: (Y) :: (tBlk db 149 #[.pointer (some ⟨p, 0, none⟩), .pointer (some ⟨p2, 0, none⟩), .int .i64 ↑sz]) :: R) w' := by
  refine calls_F Try.func56 rfl 20 rfl (by rfl) ?_
  intro a1 k hargs
  have e0 : a1.eval (.tmp 0) = .pointer (some ⟨db, 0, none⟩) := hargs 0 _ rfl
  have e1 : a1.eval (.tmp 1) = .int .i64 0 := hargs 1 _ rfl
  clear hargs
  refine wp_seq ?_
  refine wp_region_lit ?_
  have hE := Env.refl a1 [4]
  apply sq_det 4 hE k rfl (by rfl) (by rfl) rfl
  case h =>
    exact x_assign rfl rfl
  intro a2 hE e4 kp
  refine wpList_nil ?_
  replace e0 := hE.eval 0 (by rfl) e0
  replace e1 := hE.eval 1 (by rfl) e1
  replace k := k.env hE
  clear hE e4
  refine then_n ?_
  refine wp_seq ?_
  refine wp_block ?_
  refine wp_seq ?_
  refine wp_region_lit ?_
  have hE := Env.refl a2 [6, 7, 5]
  apply sq_det 6 hE k rfl (by rfl) (by rfl) rfl
  case h =>
    exact x_move rfl (hE.eval 0 (by rfl) e0)
  intro a3 hE e6 kp
  apply sq_det 7 hE k rfl (by rfl) (by rfl) rfl
  case h =>
    simp [go_sem, ↓IntWalk.iteOmega, ev e6]
    with_reducible rfl
  intro a4 hE e7 kp
  apply sq_det 5 hE k rfl (by rfl) (by rfl) rfl
  case h =>
    exact x_assign rfl e7
  intro a5 hE e5 kp
  refine wpList_nil ?_
  replace e0 := hE.eval 0 (by rfl) e0
  replace e1 := hE.eval 1 (by rfl) e1
  replace k := k.env hE
  clear hE
  refine then_n ?_
  refine cond_f e5 rfl ?_
  refine wp_seq ?_
  refine wp_region_lit ?_
  have hE := Env.refl a5 [9, 10, 11, 12, 8]
  apply sq_det 9 hE k rfl (by rfl) (by rfl) rfl
  case h =>
    exact x_move rfl (hE.eval 0 (by rfl) e0)
  intro a6 hE e9 kp
  apply sq_det 10 hE k rfl (by rfl) (by rfl) rfl
  case h =>
    exact x_move rfl (hE.eval 1 (by rfl) e1)
  intro a7 hE e10 kp
  replace e9 := (kp 9 rfl).trans e9
  apply sq_call 11 hE k rfl (by rfl) (by rfl) rfl
  case h =>
    simp [go_sem, ↓IntWalk.iteOmega, ev e9, ev e10]
    with_reducible exact ⟨rfl, rfl⟩
  case hc => exact chas_0 db _
  rintro e _ ⟨rfl, rfl⟩
  refine ⟨_, rfl, ?_⟩
  intro a8 hE e11 kp
  apply sq_det 12 hE k rfl (by rfl) (by rfl) rfl
  case h =>
    exact x_not rfl e11
  intro a9 hE e12 kp
  apply sq_det 8 hE k rfl (by rfl) (by rfl) rfl
  case h =>
    exact x_assign rfl e12
  intro a10 hE e8 kp
  refine wpList_nil ?_
  replace e0 := hE.eval 0 (by rfl) e0
  replace e1 := hE.eval 1 (by rfl) e1
  replace k := k.env hE
  clear hE e5
  refine then_n ?_
  refine cond_f e8 rfl ?_
  refine wp_skip ?_
  refine block_n ?_
  refine then_n ?_
  refine wp_seq ?_
  refine wp_region_lit ?_
  have hE := Env.refl a10 [13, 14, 15, 16, 17, 18, 19, 4]
  apply sq_det 13 hE k rfl (by rfl) (by rfl) rfl
  case h =>
    exact x_move rfl (hE.eval 0 (by rfl) e0)
  intro a11 hE e13 kp
  apply sq_det 14 hE k rfl (by rfl) (by rfl) rfl
  case h =>
    exact x_move rfl (hE.eval 1 (by rfl) e1)
  intro a12 hE e14 kp
  replace e13 := (kp 13 rfl).trans e13
  apply sq_det 15 hE k rfl (by rfl) (by rfl) rfl
  case h =>
    exact x_nil rfl e13
  intro a13 hE e15 kp
  replace e14 := (kp 14 rfl).trans e14
  apply sq_det 16 hE k rfl (by rfl) (by rfl) rfl
  case h =>
    simp [go_sem, ↓IntWalk.iteOmega, ev e15]
    with_reducible rfl
  intro a14 hE e16 kp
  replace e14 := (kp 14 rfl).trans e14
  apply sq_det 17 hE k rfl (by rfl) (by rfl) rfl
  case h =>
    simp [go_sem, ↓IntWalk.iteOmega, ev e14, ev e16]
    with_reducible rfl
  intro a15 hE e17 kp
  apply sq_det 18 hE k rfl (by rfl) (by rfl) rfl
  case h =>
    have q0 : w.cell? ⟨db, 0, none⟩ = some (.pointer (some ⟨p, 0, none⟩)) := (OwnT.blk O 3 rfl).cell 0
    simp [go_sem, ↓IntWalk.iteOmega, ev e17, q0]
    with_reducible rfl
  intro a16 hE e18 kp
  apply sq_call 19 hE k rfl (by rfl) (by rfl) rfl
  case h =>
    simp [go_sem, ↓IntWalk.iteOmega, ev e18]
    with_reducible exact ⟨rfl, rfl⟩
  case hc => exact dflush_ok _ O hM hc hu
  clear O
  rintro e w18 ⟨rfl, O⟩
  refine ⟨_, rfl, ?_⟩
  intro a17 hE e19 kp
  apply sq_det 4 hE k rfl (by rfl) (by rfl) rfl
  case h =>
    exact x_assign rfl e19
  intro a19 hE e4 kp
  refine wpList_nil ?_
  replace k := k.env hE
  clear hE e0 e1 e8
  refine then_n ?_
  refine wp_ret ?_
  refine ret_F1 rfl k e4 ?_
  exact ⟨rfl, O⟩
set_option maxRecDepth 100000 in
set_option maxHeartbeats 4000000 in
theorem cflush_down0 {H : Nat} {A0 : World} {R : List Thing} {Y : Thing} {p mb n cap bm db p2 sz : Nat} {B : Option Addr} {S : List Sec} {L : Int → Option Sec} {M : Mn} {c : Int} (w : World) (O : OwnT H A0 ((tDisc p mb B n cap bm S L) :: (tMn mb M) :: (Y) :: (tBlk db 149 #[.pointer (some ⟨p, 0, none⟩), .pointer (some ⟨p2, 0, none⟩), .int .i64 ↑sz]) :: R) w) (hM : M.Ok c) (hc : c ≤ 1000000000000) (hu : M.up = false) : Calls Try.prog 56 #[.pointer (some ⟨db, 0, none⟩), .int .i64 0] w fun e w' => e = .returned (.int .i64 4) ∧ OwnT H A0 ((tDisc p mb B n cap bm S L) :: (tMn mb M.use) :: (Y) :: (tBlk db 149 #[.pointer (some ⟨p, 0, none⟩), .pointer (some ⟨p2, 0, none⟩), .int .i64 ↑sz]) :: R) w' := by
  refine calls_F Try.func56 rfl 20 rfl (by rfl) ?_
  intro a1 k hargs
  have e0 : a1.eval (.tmp 0) = .pointer (some ⟨db, 0, none⟩) := hargs 0 _ rfl
  have e1 : a1.eval (.tmp 1) = .int .i64 0 := hargs 1 _ rfl
  clear hargs
  refine wp_seq ?_
  refine wp_region_lit ?_
  have hE := Env.refl a1 [4]
  apply sq_det 4 hE k rfl (by rfl) (by rfl) rfl
  case h =>
    exact x_assign rfl rfl
  intro a2 hE e4 kp
  refine wpList_nil ?_
  replace e0 := hE.eval 0 (by rfl) e0
  replace e1 := hE.eval 1 (by rfl) e1
  replace k := k.env hE
  clear hE e4
  refine then_n ?_
  refine wp_seq ?_
  refine wp_block ?_
  refine wp_seq ?_
  refine wp_region_lit ?_
  have hE := Env.refl a2 [6, 7, 5]
  apply sq_det 6 hE k rfl (by rfl) (by rfl) rfl
  case h =>
    exact x_move rfl (hE.eval 0 (by rfl) e0)
  intro a3 hE e6 kp
  apply sq_det 7 hE k rfl (by rfl) (by rfl) rfl
  case h =>
    simp [go_sem, ↓IntWalk.iteOmega, ev e6]
    with_reducible rfl
  intro a4 hE e7 kp
  apply sq_det 5 hE k rfl (by rfl) (by rfl) rfl
  case h =>
    exact x_assign rfl e7
  intro a5 hE e5 kp
  refine wpList_nil ?_
  replace e0 := hE.eval 0 (by rfl) e0
  replace e1 := hE.eval 1 (by rfl) e1
  replace k := k.env hE
  clear hE
  refine then_n ?_
  refine cond_f e5 rfl ?_
  refine wp_seq ?_
  refine wp_region_lit ?_
  have hE := Env.refl a5 [9, 10, 11, 12, 8]
  apply sq_det 9 hE k rfl (by rfl) (by rfl) rfl
  case h =>
    exact x_move rfl (hE.eval 0 (by rfl) e0)
  intro a6 hE e9 kp
  apply sq_det 10 hE k rfl (by rfl) (by rfl) rfl
  case h =>
    exact x_move rfl (hE.eval 1 (by rfl) e1)
  intro a7 hE e10 kp
  replace e9 := (kp 9 rfl).trans e9
  apply sq_call 11 hE k rfl (by rfl) (by rfl) rfl
  case h =>
    simp [go_sem, ↓IntWalk.iteOmega, ev e9, ev e10]
    with_reducible exact ⟨rfl, rfl⟩
  case hc => exact chas_0 db _
  rintro e _ ⟨rfl, rfl⟩
  refine ⟨_, rfl, ?_⟩
  intro a8 hE e11 kp
  apply sq_det 12 hE k rfl (by rfl) (by rfl) rfl
  case h =>
    exact x_not rfl e11
  intro a9 hE e12 kp
  apply sq_det 8 hE k rfl (by rfl) (by rfl) rfl
  case h =>
    exact x_assign rfl e12
  intro a10 hE e8 kp
  refine wpList_nil ?_
  replace e0 := hE.eval 0 (by rfl) e0
  replace e1 := hE.eval 1 (by rfl) e1
  replace k := k.env hE
  clear hE e5
  refine then_n ?_
  refine cond_f e8 rfl ?_
  refine wp_skip ?_
  refine block_n ?_
  refine then_n ?_
  refine wp_seq ?_
  refine wp_region_lit ?_
  have hE := Env.refl a10 [13, 14, 15, 16, 17, 18, 19, 4]
  apply sq_det 13 hE k rfl (by rfl) (by rfl) rfl
  case h =>
    exact x_move rfl (hE.eval 0 (by rfl) e0)
  intro a11 hE e13 kp
  apply sq_det 14 hE k rfl (by rfl) (by rfl) rfl
  case h =>
    exact x_move rfl (hE.eval 1 (by rfl) e1)
  intro a12 hE e14 kp
  replace e13 := (kp 13 rfl).trans e13
  apply sq_det 15 hE k rfl (by rfl) (by rfl) rfl
  case h =>
    exact x_nil rfl e13
  intro a13 hE e15 kp
  replace e14 := (kp 14 rfl).trans e14
  apply sq_det 16 hE k rfl (by rfl) (by rfl) rfl
  case h =>
    simp [go_sem, ↓IntWalk.iteOmega, ev e15]
    with_reducible rfl
  intro a14 hE e16 kp
  replace e14 := (kp 14 rfl).trans e14
  apply sq_det 17 hE k rfl (by rfl) (by rfl) rfl
  case h =>
    simp [go_sem, ↓IntWalk.iteOmega, ev e14, ev e16]
    with_reducible rfl
  intro a15 hE e17 kp
  apply sq_det 18 hE k rfl (by rfl) (by rfl) rfl
  case h =>
    have q0 : w.cell? ⟨db, 0, none⟩ = some (.pointer (some ⟨p, 0, none⟩)) := (OwnT.blk O 3 rfl).cell 0
    simp [go_sem, ↓IntWalk.iteOmega, ev e17, q0]
    with_reducible rfl
  intro a16 hE e18 kp
  apply sq_call 19 hE k rfl (by rfl) (by rfl) rfl
  case h =>
    simp [go_sem, ↓IntWalk.iteOmega, ev e18]
    with_reducible exact ⟨rfl, rfl⟩
  case hc => exact dflush_down _ O hM hc hu
  clear O
  rintro e w18 ⟨rfl, O⟩
  refine ⟨_, rfl, ?_⟩
  intro a17 hE e19 kp
  apply sq_det 4 hE k rfl (by rfl) (by rfl) rfl
  case h =>
    exact x_assign rfl e19
  intro a19 hE e4 kp
  refine wpList_nil ?_
  replace k := k.env hE
  clear hE e0 e1 e8
  refine then_n ?_
  refine wp_ret ?_
  refine ret_F1 rfl k e4 ?_
  exact ⟨rfl, O⟩
set_option maxRecDepth 100000 in
set_option maxHeartbeats 4000000 in
theorem cread_range0 {p mb n cap bm db p2 sz : Nat} {B : Option Addr} {S : List Sec} {L : Int → Option Sec} {M : Mn} (i : Nat) (x y : Int) (W0 : World) (h : DiscR p mb B n cap bm S L W0) (hm : (tMn mb M).holds W0) (hd : Blk W0 db 149 #[.pointer (some ⟨p, 0, none⟩), .pointer (some ⟨p2, 0, none⟩), .int .i64 ↑sz]) (hs : 0 < sz) (hz : sz ≤ 1000000) (hi : i < slN n sz) (hf : fitsB sz x y = false) : Calls Try.prog 54 #[.pointer (some ⟨db, 0, none⟩), .agg #[.int .i64 0, .int .i64 i], .int .i64 x, .int .i64 y] W0 fun e w' => e = .returned (.tuple #[.string (sB ([])), .int .i64 9]) ∧ Ext W0 w' := by
  have O := OwnT.start W0
  have hle := slN_le hi hs
  have hn := h.ok.le
  refine calls_F Try.func54 rfl 42 rfl (by rfl) ?_
  intro a1 k hargs
  have e0 : a1.eval (.tmp 0) = .pointer (some ⟨db, 0, none⟩) := hargs 0 _ rfl
  have e1 : a1.eval (.tmp 1) = .agg #[.int .i64 0, .int .i64 ↑i] := hargs 1 _ rfl
  have e2 : a1.eval (.tmp 2) = .int .i64 x := hargs 2 _ rfl
  have e3 : a1.eval (.tmp 3) = .int .i64 y := hargs 3 _ rfl
  clear hargs
  refine wp_seq ?_
  refine wp_region_lit ?_
  have hE := Env.refl a1 [5, 8, 9]
  refine sq_new O (cs := #[.int .i64 0, .int .i64 ↑i]) (t := 90) 5 hE k rfl (by rfl) (by rfl) rfl (by simp [go_sem, ↓IntWalk.iteOmega, ev (hE.eval 1 (by rfl) e1)]) ?_
  clear O
  intro sb a2 w3 O hE e5 kp
  apply sq_det 8 hE k rfl (by rfl) (by rfl) rfl
  case h =>
    exact x_assign rfl rfl
  intro a4 hE e8 kp
  replace e5 := (kp 5 rfl).trans e5
  apply sq_det 9 hE k rfl (by rfl) (by rfl) rfl
  case h =>
    exact x_assign rfl rfl
  intro a5 hE e9 kp
  replace e5 := (kp 5 rfl).trans e5
  refine wpList_nil ?_
  replace e0 := hE.eval 0 (by rfl) e0
  replace e2 := hE.eval 2 (by rfl) e2
  replace e3 := hE.eval 3 (by rfl) e3
  replace k := k.env hE
  clear hE e1 e9
  refine then_n ?_
  refine wp_seq ?_
  refine wp_region_lit ?_
  have hE := Env.refl a5 [13, 14, 15, 12, 16, 17, 10, 11]
  apply sq_det 13 hE k rfl (by rfl) (by rfl) rfl
  case h =>
    exact x_move rfl (hE.eval 0 (by rfl) e0)
  intro a6 hE e13 kp
  apply sq_det 14 hE k rfl (by rfl) (by rfl) rfl
  case h =>
    have q0 : w3.cell? ⟨sb, 0, none⟩ = some (.int .i64 0) := (OwnT.blk O 0 rfl).cell 0
    have q1 : w3.cell? ⟨sb, 1, none⟩ = some (.int .i64 ↑i) := (OwnT.blk O 0 rfl).cell 1
    simp [go_sem, ↓IntWalk.iteOmega, ev (hE.eval 5 (by rfl) e5), q0, q1]
    with_reducible rfl
  intro a7 hE e14 kp
  replace e13 := (kp 13 rfl).trans e13
  apply sq_call 15 hE k rfl (by rfl) (by rfl) rfl
  case h =>
    simp [go_sem, ↓IntWalk.iteOmega, ev e13, ev e14]
    with_reducible exact ⟨rfl, rfl⟩
  case hc => exact cspot_in0 i _ (h.ext O.below) (hd.ext O.below) hs hi
  rintro e w9 ⟨rfl, R⟩
  replace O := OwnT.ext O R
  refine ⟨_, rfl, ?_⟩
  intro a8 hE e15 kp
  apply sq_det 12 hE k rfl (by rfl) (by rfl) rfl
  case h =>
    exact x_move rfl e15
  intro a10 hE e12 kp
  apply sq_det 16 hE k rfl (by rfl) (by rfl) rfl
  case h =>
    simp [go_sem, ↓IntWalk.iteOmega, ev e12]
    with_reducible rfl
  intro a11 hE e16 kp
  replace e12 := (kp 12 rfl).trans e12
  apply sq_det 17 hE k rfl (by rfl) (by rfl) rfl
  case h =>
    simp [go_sem, ↓IntWalk.iteOmega, ev e12]
    with_reducible rfl
  intro a12 hE e17 kp
  replace e16 := (kp 16 rfl).trans e16
  apply sq_det 10 hE k rfl (by rfl) (by rfl) rfl
  case h =>
    exact x_assign rfl e16
  intro a13 hE e10 kp
  replace e17 := (kp 17 rfl).trans e17
  apply sq_det 11 hE k rfl (by rfl) (by rfl) rfl
  case h =>
    exact x_assign rfl e17
  intro a14 hE e11 kp
  replace e10 := (kp 10 rfl).trans e10
  refine wpList_nil ?_
  replace e0 := hE.eval 0 (by rfl) e0
  replace e2 := hE.eval 2 (by rfl) e2
  replace e3 := hE.eval 3 (by rfl) e3
  replace e5 := hE.eval 5 (by rfl) e5
  replace k := k.env hE
  clear hE
  refine then_n ?_
  refine wp_seq ?_
  refine wp_block ?_
  refine wp_seq ?_
  refine wp_region_lit ?_
  have hE := Env.refl a14 [19, 20, 18]
  apply sq_det 19 hE k rfl (by rfl) (by rfl) rfl
  case h =>
    exact x_move rfl (hE.eval 11 (by rfl) e11)
  intro a15 hE e19 kp
  apply sq_det 20 hE k rfl (by rfl) (by rfl) rfl
  case h =>
    exact x_dec (x_neq rfl e19 rfl) (decide_eq_false (by omega))
  intro a16 hE e20 kp
  apply sq_det 18 hE k rfl (by rfl) (by rfl) rfl
  case h =>
    exact x_assign rfl e20
  intro a17 hE e18 kp
  refine wpList_nil ?_
  replace e0 := hE.eval 0 (by rfl) e0
  replace e2 := hE.eval 2 (by rfl) e2
  replace e3 := hE.eval 3 (by rfl) e3
  replace e5 := hE.eval 5 (by rfl) e5
  replace e10 := hE.eval 10 (by rfl) e10
  replace e11 := hE.eval 11 (by rfl) e11
  replace k := k.env hE
  clear hE
  refine then_n ?_
  refine cond_f e18 rfl ?_
  refine wp_seq ?_
  refine wp_region_lit ?_
  have hE := Env.refl a17 [23, 24, 25, 26, 27, 22]
  apply sq_det 23 hE k rfl (by rfl) (by rfl) rfl
  case h =>
    exact x_move rfl (hE.eval 0 (by rfl) e0)
  intro a18 hE e23 kp
  apply sq_det 24 hE k rfl (by rfl) (by rfl) rfl
  case h =>
    exact x_move rfl (hE.eval 2 (by rfl) e2)
  intro a19 hE e24 kp
  replace e23 := (kp 23 rfl).trans e23
  apply sq_det 25 hE k rfl (by rfl) (by rfl) rfl
  case h =>
    exact x_move rfl (hE.eval 3 (by rfl) e3)
  intro a20 hE e25 kp
  replace e23 := (kp 23 rfl).trans e23
  replace e24 := (kp 24 rfl).trans e24
  apply sq_call 26 hE k rfl (by rfl) (by rfl) rfl
  case h =>
    simp [go_sem, ↓IntWalk.iteOmega, ev e23, ev e24, ev e25]
    with_reducible exact ⟨rfl, rfl⟩
  case hc => exact cwithin_any _ _ _ (hd.ext O.below) hz
  rintro e _ ⟨rfl, rfl⟩
  refine ⟨_, congrArg (fun b => Ending.returned (.bool b)) hf, ?_⟩
  intro a21 hE e26 kp
  apply sq_det 27 hE k rfl (by rfl) (by rfl) rfl
  case h =>
    exact x_not rfl e26
  intro a22 hE e27 kp
  apply sq_det 22 hE k rfl (by rfl) (by rfl) rfl
  case h =>
    exact x_assign rfl e27
  intro a23 hE e22 kp
  refine wpList_nil ?_
  replace e0 := hE.eval 0 (by rfl) e0
  replace e2 := hE.eval 2 (by rfl) e2
  replace e3 := hE.eval 3 (by rfl) e3
  replace e5 := hE.eval 5 (by rfl) e5
  replace e10 := hE.eval 10 (by rfl) e10
  replace k := k.env hE
  clear hE e11 e18
  refine then_n ?_
  refine cond_t e22 rfl ?_
  refine wp_seq ?_
  refine wp_region_lit ?_
  have hE := Env.refl a23 [8, 9]
  apply sq_det 8 hE k rfl (by rfl) (by rfl) rfl
  case h =>
    exact x_assign rfl rfl
  intro a24 hE e8 kp
  apply sq_det 9 hE k rfl (by rfl) (by rfl) rfl
  case h =>
    exact x_assign rfl rfl
  intro a25 hE e9 kp
  replace e8 := (kp 8 rfl).trans e8
  refine wpList_nil ?_
  replace k := k.env hE
  clear hE e0 e2 e3 e5 e10 e22
  refine then_n ?_
  refine wp_ret ?_
  refine block_r ?_
  refine then_r ?_
  refine ret_F2 rfl k e8 e9 ?_
  exact ⟨rfl, O.below⟩
set_option maxRecDepth 100000 in
set_option maxHeartbeats 4000000 in
theorem cread_down0 {p mb n cap bm db p2 sz : Nat} {B : Option Addr} {S : List Sec} {L : Int → Option Sec} {M : Mn} (i : Nat) (x y : Nat) (W0 : World) (h : DiscR p mb B n cap bm S L W0) (hm : (tMn mb M).holds W0) (hd : Blk W0 db 149 #[.pointer (some ⟨p, 0, none⟩), .pointer (some ⟨p2, 0, none⟩), .int .i64 ↑sz]) (hs : 0 < sz) (hz : sz ≤ 1000000) (hi : i < slN n sz) (hf : x + y ≤ sz) (ha : M.away = true) : Calls Try.prog 54 #[.pointer (some ⟨db, 0, none⟩), .agg #[.int .i64 0, .int .i64 i], .int .i64 x, .int .i64 y] W0 fun e w' => e = .returned (.tuple #[.string (sB ([])), .int .i64 4]) ∧ Ext W0 w' := by
  have O := OwnT.start W0
  have hle := slN_le hi hs
  have hn := h.ok.le
  have hfb : fitsB sz x y = true := decide_eq_true (by omega)
  refine calls_F Try.func54 rfl 42 rfl (by rfl) ?_
  intro a1 k hargs
  have e0 : a1.eval (.tmp 0) = .pointer (some ⟨db, 0, none⟩) := hargs 0 _ rfl
  have e1 : a1.eval (.tmp 1) = .agg #[.int .i64 0, .int .i64 ↑i] := hargs 1 _ rfl
  have e2 : a1.eval (.tmp 2) = .int .i64 ↑x := hargs 2 _ rfl
  have e3 : a1.eval (.tmp 3) = .int .i64 ↑y := hargs 3 _ rfl
  clear hargs
  refine wp_seq ?_
  refine wp_region_lit ?_
  have hE := Env.refl a1 [5, 8, 9]
  refine sq_new O (cs := #[.int .i64 0, .int .i64 ↑i]) (t := 90) 5 hE k rfl (by rfl) (by rfl) rfl (by simp [go_sem, ↓IntWalk.iteOmega, ev (hE.eval 1 (by rfl) e1)]) ?_
  clear O
  intro sb a2 w3 O hE e5 kp
  apply sq_det 8 hE k rfl (by rfl) (by rfl) rfl
  case h =>
    exact x_assign rfl rfl
  intro a4 hE e8 kp
  replace e5 := (kp 5 rfl).trans e5
  apply sq_det 9 hE k rfl (by rfl) (by rfl) rfl
  case h =>
    exact x_assign rfl rfl
  intro a5 hE e9 kp
  replace e5 := (kp 5 rfl).trans e5
  refine wpList_nil ?_
  replace e0 := hE.eval 0 (by rfl) e0
  replace e2 := hE.eval 2 (by rfl) e2
  replace e3 := hE.eval 3 (by rfl) e3
  replace k := k.env hE
  clear hE e1 e9
  refine then_n ?_
  refine wp_seq ?_
  refine wp_region_lit ?_
  have hE := Env.refl a5 [13, 14, 15, 12, 16, 17, 10, 11]
  apply sq_det 13 hE k rfl (by rfl) (by rfl) rfl
  case h =>
    exact x_move rfl (hE.eval 0 (by rfl) e0)
  intro a6 hE e13 kp
  apply sq_det 14 hE k rfl (by rfl) (by rfl) rfl
  case h =>
    have q0 : w3.cell? ⟨sb, 0, none⟩ = some (.int .i64 0) := (OwnT.blk O 0 rfl).cell 0
    have q1 : w3.cell? ⟨sb, 1, none⟩ = some (.int .i64 ↑i) := (OwnT.blk O 0 rfl).cell 1
    simp [go_sem, ↓IntWalk.iteOmega, ev (hE.eval 5 (by rfl) e5), q0, q1]
    with_reducible rfl
  intro a7 hE e14 kp
  replace e13 := (kp 13 rfl).trans e13
  apply sq_call 15 hE k rfl (by rfl) (by rfl) rfl
  case h =>
    simp [go_sem, ↓IntWalk.iteOmega, ev e13, ev e14]
    with_reducible exact ⟨rfl, rfl⟩
  case hc => exact cspot_in0 i _ (h.ext O.below) (hd.ext O.below) hs hi
  rintro e w9 ⟨rfl, R⟩
  replace O := OwnT.ext O R
  refine ⟨_, rfl, ?_⟩
  intro a8 hE e15 kp
  apply sq_det 12 hE k rfl (by rfl) (by rfl) rfl
  case h =>
    exact x_move rfl e15
  intro a10 hE e12 kp
  apply sq_det 16 hE k rfl (by rfl) (by rfl) rfl
  case h =>
    simp [go_sem, ↓IntWalk.iteOmega, ev e12]
    with_reducible rfl
  intro a11 hE e16 kp
  replace e12 := (kp 12 rfl).trans e12
  apply sq_det 17 hE k rfl (by rfl) (by rfl) rfl
  case h =>
    simp [go_sem, ↓IntWalk.iteOmega, ev e12]
    with_reducible rfl
  intro a12 hE e17 kp
  replace e16 := (kp 16 rfl).trans e16
  apply sq_det 10 hE k rfl (by rfl) (by rfl) rfl
  case h =>
    exact x_assign rfl e16
  intro a13 hE e10 kp
  replace e17 := (kp 17 rfl).trans e17
  apply sq_det 11 hE k rfl (by rfl) (by rfl) rfl
  case h =>
    exact x_assign rfl e17
  intro a14 hE e11 kp
  replace e10 := (kp 10 rfl).trans e10
  refine wpList_nil ?_
  replace e0 := hE.eval 0 (by rfl) e0
  replace e2 := hE.eval 2 (by rfl) e2
  replace e3 := hE.eval 3 (by rfl) e3
  replace e5 := hE.eval 5 (by rfl) e5
  replace k := k.env hE
  clear hE
  refine then_n ?_
  refine wp_seq ?_
  refine wp_block ?_
  refine wp_seq ?_
  refine wp_region_lit ?_
  have hE := Env.refl a14 [19, 20, 18]
  apply sq_det 19 hE k rfl (by rfl) (by rfl) rfl
  case h =>
    exact x_move rfl (hE.eval 11 (by rfl) e11)
  intro a15 hE e19 kp
  apply sq_det 20 hE k rfl (by rfl) (by rfl) rfl
  case h =>
    exact x_dec (x_neq rfl e19 rfl) (decide_eq_false (by omega))
  intro a16 hE e20 kp
  apply sq_det 18 hE k rfl (by rfl) (by rfl) rfl
  case h =>
    exact x_assign rfl e20
  intro a17 hE e18 kp
  refine wpList_nil ?_
  replace e0 := hE.eval 0 (by rfl) e0
  replace e2 := hE.eval 2 (by rfl) e2
  replace e3 := hE.eval 3 (by rfl) e3
  replace e5 := hE.eval 5 (by rfl) e5
  replace e10 := hE.eval 10 (by rfl) e10
  replace e11 := hE.eval 11 (by rfl) e11
  replace k := k.env hE
  clear hE
  refine then_n ?_
  refine cond_f e18 rfl ?_
  refine wp_seq ?_
  refine wp_region_lit ?_
  have hE := Env.refl a17 [23, 24, 25, 26, 27, 22]
  apply sq_det 23 hE k rfl (by rfl) (by rfl) rfl
  case h =>
    exact x_move rfl (hE.eval 0 (by rfl) e0)
  intro a18 hE e23 kp
  apply sq_det 24 hE k rfl (by rfl) (by rfl) rfl
  case h =>
    exact x_move rfl (hE.eval 2 (by rfl) e2)
  intro a19 hE e24 kp
  replace e23 := (kp 23 rfl).trans e23
  apply sq_det 25 hE k rfl (by rfl) (by rfl) rfl
  case h =>
    exact x_move rfl (hE.eval 3 (by rfl) e3)
  intro a20 hE e25 kp
  replace e23 := (kp 23 rfl).trans e23
  replace e24 := (kp 24 rfl).trans e24
  apply sq_call 26 hE k rfl (by rfl) (by rfl) rfl
  case h =>
    simp [go_sem, ↓IntWalk.iteOmega, ev e23, ev e24, ev e25]
    with_reducible exact ⟨rfl, rfl⟩
  case hc => exact cwithin_any _ _ _ (hd.ext O.below) hz
  rintro e _ ⟨rfl, rfl⟩
  refine ⟨_, congrArg (fun b => Ending.returned (.bool b)) hfb, ?_⟩
  intro a21 hE e26 kp
  apply sq_det 27 hE k rfl (by rfl) (by rfl) rfl
  case h =>
    exact x_not rfl e26
  intro a22 hE e27 kp
  apply sq_det 22 hE k rfl (by rfl) (by rfl) rfl
  case h =>
    exact x_assign rfl e27
  intro a23 hE e22 kp
  refine wpList_nil ?_
  replace e0 := hE.eval 0 (by rfl) e0
  replace e2 := hE.eval 2 (by rfl) e2
  replace e3 := hE.eval 3 (by rfl) e3
  replace e5 := hE.eval 5 (by rfl) e5
  replace e10 := hE.eval 10 (by rfl) e10
  replace k := k.env hE
  clear hE e11 e18
  refine then_n ?_
  refine cond_f e22 rfl ?_
  refine wp_skip ?_
  refine block_n ?_
  refine then_n ?_
  refine wp_seq ?_
  refine wp_typed (R := Ext) (w0 := w9) [[], [], [1], [0], [0, 3], [0, 1, 2, 3, 4], [0, 1, 2, 3, 4, 5], [], [], [7, 8], [], [0, 1, 2, 3, 4, 5, 6, 7, 8, 9, 10], [0, 1, 2, 3, 4, 5, 6, 7, 8, 9, 10, 11], [0, 1, 2, 3, 4, 5, 6, 7, 8, 9, 10, 11], [0, 1, 2, 3, 4, 5, 6, 7, 8, 9, 10, 11, 12, 13], [0, 1, 2, 3, 4, 5, 6, 7, 8, 9, 10, 11, 12, 13, 14]] [28, 29, 30, 31, 32, 33, 34, 35, 36, 37, 38, 39, 40, 41, 8, 9] Ext.refl (fun _ _ _ => Ext.trans) (Ext.drew _) (by kernel_rfl) ?_
  apply Build.det 28 Ext.refl (by rfl) (by rw [k.size]; rfl) rfl
  case h =>
    intro ax wx hE hR hF
    exact x_move rfl (hE.eval 0 (by rfl) e0)
  apply Build.det 29 Ext.refl (by rfl) (by rw [k.size]; rfl) rfl
  case h =>
    intro ax wx hE hR hF
    simp [go_sem, ↓IntWalk.iteOmega, ev (hE.eval 5 (by rfl) e5)]
    with_reducible rfl
  apply Build.det 30 Ext.refl (by rfl) (by rw [k.size]; rfl) rfl
  case h =>
    intro ax wx hE hR hF
    have e29 : ax.eval (.tmp 29) = _ := hF 1 (det 29 _) (by decide) (.head _)
    have q0 : wx.cell? ⟨sb, 0, none⟩ = some (.int .i64 0) := (OwnT.blk (OwnT.ext O hR) 0 rfl).cell 0
    simp [go_sem, ↓IntWalk.iteOmega, ev e29, q0]
    with_reducible rfl
  apply Build.det 31 Ext.refl (by rfl) (by rw [k.size]; rfl) rfl
  case h =>
    intro ax wx hE hR hF
    have e28 : ax.eval (.tmp 28) = _ := hF 0 (det 28 _) (by decide) (.tail _ (.tail _ (.head _)))
    exact x_nil rfl e28
  apply Build.det 32 Ext.refl (by rfl) (by rw [k.size]; rfl) rfl
  case h =>
    intro ax wx hE hR hF
    have e31 : ax.eval (.tmp 31) = _ := hF 3 (det 31 _) (by decide) (.head _)
    simp [go_sem, ↓IntWalk.iteOmega, ev e31]
    with_reducible rfl
  apply Build.det 33 Ext.refl (by rfl) (by rw [k.size]; rfl) rfl
  case h =>
    intro ax wx hE hR hF
    have e30 : ax.eval (.tmp 30) = _ := hF 2 (det 30 _) (by decide) (.tail _ (.tail _ (.head _)))
    have e32 : ax.eval (.tmp 32) = _ := hF 4 (det 32 _) (by decide) (.head _)
    simp [go_sem, ↓IntWalk.iteOmega, ev e30, ev e32]
    with_reducible rfl
  apply Build.det 34 Ext.refl (by rfl) (by rw [k.size]; rfl) rfl
  case h =>
    intro ax wx hE hR hF
    have e33 : ax.eval (.tmp 33) = _ := hF 5 (det 33 _) (by decide) (.head _)
    have dt : wx.cell? ⟨db, 0, none⟩ = some (.pointer (some ⟨p, 0, none⟩)) := (hd.ext (OwnT.ext O hR).below).cell 0
    simp [go_sem, ↓IntWalk.iteOmega, ev e33, dt]
    with_reducible rfl
  apply Build.det 35 Ext.refl (by rfl) (by rw [k.size]; rfl) rfl
  case h =>
    intro ax wx hE hR hF
    exact x_move rfl (hE.eval 10 (by rfl) e10)
  apply Build.det 36 Ext.refl (by rfl) (by rw [k.size]; rfl) rfl
  case h =>
    intro ax wx hE hR hF
    exact x_move rfl (hE.eval 2 (by rfl) e2)
  apply Build.det 37 Ext.refl (by rfl) (by rw [k.size]; rfl) rfl
  case h =>
    intro ax wx hE hR hF
    have e35 : ax.eval (.tmp 35) = _ := hF 7 (det 35 _) (by decide) (.tail _ (.head _))
    have e36 : ax.eval (.tmp 36) = _ := hF 8 (det 36 _) (by decide) (.head _)
    exact x_val (v := .int .i64 ((i * sz + x : Nat) : Int)) (x_add rfl e35 e36 (by omega)) (int_eq (by omega))
  apply Build.det 38 Ext.refl (by rfl) (by rw [k.size]; rfl) rfl
  case h =>
    intro ax wx hE hR hF
    exact x_move rfl (hE.eval 3 (by rfl) e3)
  apply Build.call 39 Ext.refl (by rfl) (by rw [k.size]; rfl) rfl
  case h =>
    intro ax wx hE hR hF
    have e34 : ax.eval (.tmp 34) = _ := hF 6 (det 34 _) (by decide) (.tail _ (.tail _ (.tail _ (.tail _ (.head _)))))
    have e37 : ax.eval (.tmp 37) = _ := hF 9 (det 37 _) (by decide) (.tail _ (.head _))
    have e38 : ax.eval (.tmp 38) = _ := hF 10 (det 38 _) (by decide) (.head _)
    simp [go_sem, ↓IntWalk.iteOmega, ev e34, ev e37, ev e38]
    with_reducible exact ⟨rfl, rfl⟩
  case hc => intro wx hR; exact dread_down ↑(i * sz + x) ↑y wx (h.ext (OwnT.ext O hR).below) (hm.ext (OwnT.ext O hR).below) (decide_eq_true (by omega)) ha
  apply Build.det 40 Ext.refl (by rfl) (by rw [k.size]; rfl) rfl
  case h =>
    intro ax wx hE hR hF
    have e39 : ax.eval (.tmp 39) = _ := hF 11 (det 39 _) (by decide) (.head _)
    simp [go_sem, ↓IntWalk.iteOmega, ev e39]
    with_reducible rfl
  apply Build.det 41 Ext.refl (by rfl) (by rw [k.size]; rfl) rfl
  case h =>
    intro ax wx hE hR hF
    have e39 : ax.eval (.tmp 39) = _ := hF 11 (det 39 _) (by decide) (.tail _ (.head _))
    simp [go_sem, ↓IntWalk.iteOmega, ev e39]
    with_reducible rfl
  apply Build.det 8 Ext.refl (by rfl) (by rw [k.size]; rfl) rfl
  case h =>
    intro ax wx hE hR hF
    have e40 : ax.eval (.tmp 40) = _ := hF 12 (det 40 _) (by decide) (.tail _ (.head _))
    exact x_assign rfl e40
  apply Build.det 9 Ext.refl (by rfl) (by rw [k.size]; rfl) rfl
  case h =>
    intro ax wx hE hR hF
    have e41 : ax.eval (.tmp 41) = _ := hF 13 (det 41 _) (by decide) (.tail _ (.head _))
    exact x_assign rfl e41
  apply Build.stop
  refine ⟨by kernel_rfl, .inl ⟨rfl, ?_⟩⟩
  intro a24 w25 hE R hF
  have e8 : a24.eval (.tmp 8) = _ := hF 14 (det 8 _) (.tail _ (.head _))
  have e9 : a24.eval (.tmp 9) = _ := hF 15 (det 9 _) (.head _)
  clear hF
  replace O := OwnT.ext O R
  clear R
  replace k := k.env hE
  clear hE e0 e2 e3 e5 e10 e22
  refine then_n ?_
  refine wp_ret ?_
  refine ret_F2 rfl k e8 e9 ?_
  exact ⟨rfl, O.below⟩
set_option maxRecDepth 100000 in
set_option maxHeartbeats 4000000 in
theorem cread_ok0 {p mb n cap bm db p2 sz : Nat} {B : Option Addr} {S : List Sec} {L : Int → Option Sec} {M : Mn} (i : Nat) (x y : Nat) (W0 : World) (h : DiscR p mb B n cap bm S L W0) (hm : (tMn mb M).holds W0) (hd : Blk W0 db 149 #[.pointer (some ⟨p, 0, none⟩), .pointer (some ⟨p2, 0, none⟩), .int .i64 ↑sz]) (hs : 0 < sz) (hz : sz ≤ 1000000) (hi : i < slN n sz) (hf : x + y ≤ sz) (ha : M.away = false) : Calls Try.prog 54 #[.pointer (some ⟨db, 0, none⟩), .agg #[.int .i64 0, .int .i64 i], .int .i64 x, .int .i64 y] W0 fun e w' => e = .returned (.tuple #[.string (sB (readL S L (i * sz + x) y)), .int .i64 0]) ∧ Ext W0 w' := by
  have O := OwnT.start W0
  have hle := slN_le hi hs
  have hn := h.ok.le
  have hfb : fitsB sz x y = true := decide_eq_true (by omega)
  refine calls_F Try.func54 rfl 42 rfl (by rfl) ?_
  intro a1 k hargs
  have e0 : a1.eval (.tmp 0) = .pointer (some ⟨db, 0, none⟩) := hargs 0 _ rfl
  have e1 : a1.eval (.tmp 1) = .agg #[.int .i64 0, .int .i64 ↑i] := hargs 1 _ rfl
  have e2 : a1.eval (.tmp 2) = .int .i64 ↑x := hargs 2 _ rfl
  have e3 : a1.eval (.tmp 3) = .int .i64 ↑y := hargs 3 _ rfl
  clear hargs
  refine wp_seq ?_
  refine wp_region_lit ?_
  have hE := Env.refl a1 [5, 8, 9]
  refine sq_new O (cs := #[.int .i64 0, .int .i64 ↑i]) (t := 90) 5 hE k rfl (by rfl) (by rfl) rfl (by simp [go_sem, ↓IntWalk.iteOmega, ev (hE.eval 1 (by rfl) e1)]) ?_
  clear O
  intro sb a2 w3 O hE e5 kp
  apply sq_det 8 hE k rfl (by rfl) (by rfl) rfl
  case h =>
    exact x_assign rfl rfl
  intro a4 hE e8 kp
  replace e5 := (kp 5 rfl).trans e5
  apply sq_det 9 hE k rfl (by rfl) (by rfl) rfl
  case h =>
    exact x_assign rfl rfl
  intro a5 hE e9 kp
  replace e5 := (kp 5 rfl).trans e5
  refine wpList_nil ?_
  replace e0 := hE.eval 0 (by rfl) e0
  replace e2 := hE.eval 2 (by rfl) e2
  replace e3 := hE.eval 3 (by rfl) e3
  replace k := k.env hE
  clear hE e1 e9
  refine then_n ?_
  refine wp_seq ?_
  refine wp_region_lit ?_
  have hE := Env.refl a5 [13, 14, 15, 12, 16, 17, 10, 11]
  apply sq_det 13 hE k rfl (by rfl) (by rfl) rfl
  case h =>
    exact x_move rfl (hE.eval 0 (by rfl) e0)
  intro a6 hE e13 kp
  apply sq_det 14 hE k rfl (by rfl) (by rfl) rfl
  case h =>
    have q0 : w3.cell? ⟨sb, 0, none⟩ = some (.int .i64 0) := (OwnT.blk O 0 rfl).cell 0
    have q1 : w3.cell? ⟨sb, 1, none⟩ = some (.int .i64 ↑i) := (OwnT.blk O 0 rfl).cell 1
    simp [go_sem, ↓IntWalk.iteOmega, ev (hE.eval 5 (by rfl) e5), q0, q1]
    with_reducible rfl
  intro a7 hE e14 kp
  replace e13 := (kp 13 rfl).trans e13
  apply sq_call 15 hE k rfl (by rfl) (by rfl) rfl
  case h =>
    simp [go_sem, ↓IntWalk.iteOmega, ev e13, ev e14]
    with_reducible exact ⟨rfl, rfl⟩
  case hc => exact cspot_in0 i _ (h.ext O.below) (hd.ext O.below) hs hi
  rintro e w9 ⟨rfl, R⟩
  replace O := OwnT.ext O R
  refine ⟨_, rfl, ?_⟩
  intro a8 hE e15 kp
  apply sq_det 12 hE k rfl (by rfl) (by rfl) rfl
  case h =>
    exact x_move rfl e15
  intro a10 hE e12 kp
  apply sq_det 16 hE k rfl (by rfl) (by rfl) rfl
  case h =>
    simp [go_sem, ↓IntWalk.iteOmega, ev e12]
    with_reducible rfl
  intro a11 hE e16 kp
  replace e12 := (kp 12 rfl).trans e12
  apply sq_det 17 hE k rfl (by rfl) (by rfl) rfl
  case h =>
    simp [go_sem, ↓IntWalk.iteOmega, ev e12]
    with_reducible rfl
  intro a12 hE e17 kp
  replace e16 := (kp 16 rfl).trans e16
  apply sq_det 10 hE k rfl (by rfl) (by rfl) rfl
  case h =>
    exact x_assign rfl e16
  intro a13 hE e10 kp
  replace e17 := (kp 17 rfl).trans e17
  apply sq_det 11 hE k rfl (by rfl) (by rfl) rfl
  case h =>
    exact x_assign rfl e17
  intro a14 hE e11 kp
  replace e10 := (kp 10 rfl).trans e10
  refine wpList_nil ?_
  replace e0 := hE.eval 0 (by rfl) e0
  replace e2 := hE.eval 2 (by rfl) e2
  replace e3 := hE.eval 3 (by rfl) e3
  replace e5 := hE.eval 5 (by rfl) e5
  replace k := k.env hE
  clear hE
  refine then_n ?_
  refine wp_seq ?_
  refine wp_block ?_
  refine wp_seq ?_
  refine wp_region_lit ?_
  have hE := Env.refl a14 [19, 20, 18]
  apply sq_det 19 hE k rfl (by rfl) (by rfl) rfl
  case h =>
    exact x_move rfl (hE.eval 11 (by rfl) e11)
  intro a15 hE e19 kp
  apply sq_det 20 hE k rfl (by rfl) (by rfl) rfl
  case h =>
    exact x_dec (x_neq rfl e19 rfl) (decide_eq_false (by omega))
  intro a16 hE e20 kp
  apply sq_det 18 hE k rfl (by rfl) (by rfl) rfl
  case h =>
    exact x_assign rfl e20
  intro a17 hE e18 kp
  refine wpList_nil ?_
  replace e0 := hE.eval 0 (by rfl) e0
  replace e2 := hE.eval 2 (by rfl) e2
  replace e3 := hE.eval 3 (by rfl) e3
  replace e5 := hE.eval 5 (by rfl) e5
  replace e10 := hE.eval 10 (by rfl) e10
  replace e11 := hE.eval 11 (by rfl) e11
  replace k := k.env hE
  clear hE
  refine then_n ?_
  refine cond_f e18 rfl ?_
  refine wp_seq ?_
  refine wp_region_lit ?_
  have hE := Env.refl a17 [23, 24, 25, 26, 27, 22]
  apply sq_det 23 hE k rfl (by rfl) (by rfl) rfl
  case h =>
    exact x_move rfl (hE.eval 0 (by rfl) e0)
  intro a18 hE e23 kp
  apply sq_det 24 hE k rfl (by rfl) (by rfl) rfl
  case h =>
    exact x_move rfl (hE.eval 2 (by rfl) e2)
  intro a19 hE e24 kp
  replace e23 := (kp 23 rfl).trans e23
  apply sq_det 25 hE k rfl (by rfl) (by rfl) rfl
  case h =>
    exact x_move rfl (hE.eval 3 (by rfl) e3)
  intro a20 hE e25 kp
  replace e23 := (kp 23 rfl).trans e23
  replace e24 := (kp 24 rfl).trans e24
  apply sq_call 26 hE k rfl (by rfl) (by rfl) rfl
  case h =>
    simp [go_sem, ↓IntWalk.iteOmega, ev e23, ev e24, ev e25]
    with_reducible exact ⟨rfl, rfl⟩
  case hc => exact cwithin_any _ _ _ (hd.ext O.below) hz
  rintro e _ ⟨rfl, rfl⟩
  refine ⟨_, congrArg (fun b => Ending.returned (.bool b)) hfb, ?_⟩
  intro a21 hE e26 kp
  apply sq_det 27 hE k rfl (by rfl) (by rfl) rfl
  case h =>
    exact x_not rfl e26
  intro a22 hE e27 kp
  apply sq_det 22 hE k rfl (by rfl) (by rfl) rfl
  case h =>
    exact x_assign rfl e27
  intro a23 hE e22 kp
  refine wpList_nil ?_
  replace e0 := hE.eval 0 (by rfl) e0
  replace e2 := hE.eval 2 (by rfl) e2
  replace e3 := hE.eval 3 (by rfl) e3
  replace e5 := hE.eval 5 (by rfl) e5
  replace e10 := hE.eval 10 (by rfl) e10
  replace k := k.env hE
  clear hE e11 e18
  refine then_n ?_
  refine cond_f e22 rfl ?_
  refine wp_skip ?_
  refine block_n ?_
  refine then_n ?_
  refine wp_seq ?_
  refine wp_typed (R := Ext) (w0 := w9) [[], [], [1], [0], [0, 3], [0, 1, 2, 3, 4], [0, 1, 2, 3, 4, 5], [], [], [7, 8], [], [0, 1, 2, 3, 4, 5, 6, 7, 8, 9, 10], [0, 1, 2, 3, 4, 5, 6, 7, 8, 9, 10, 11], [0, 1, 2, 3, 4, 5, 6, 7, 8, 9, 10, 11], [0, 1, 2, 3, 4, 5, 6, 7, 8, 9, 10, 11, 12, 13], [0, 1, 2, 3, 4, 5, 6, 7, 8, 9, 10, 11, 12, 13, 14]] [28, 29, 30, 31, 32, 33, 34, 35, 36, 37, 38, 39, 40, 41, 8, 9] Ext.refl (fun _ _ _ => Ext.trans) (Ext.drew _) (by kernel_rfl) ?_
  apply Build.det 28 Ext.refl (by rfl) (by rw [k.size]; rfl) rfl
  case h =>
    intro ax wx hE hR hF
    exact x_move rfl (hE.eval 0 (by rfl) e0)
  apply Build.det 29 Ext.refl (by rfl) (by rw [k.size]; rfl) rfl
  case h =>
    intro ax wx hE hR hF
    simp [go_sem, ↓IntWalk.iteOmega, ev (hE.eval 5 (by rfl) e5)]
    with_reducible rfl
  apply Build.det 30 Ext.refl (by rfl) (by rw [k.size]; rfl) rfl
  case h =>
    intro ax wx hE hR hF
    have e29 : ax.eval (.tmp 29) = _ := hF 1 (det 29 _) (by decide) (.head _)
    have q0 : wx.cell? ⟨sb, 0, none⟩ = some (.int .i64 0) := (OwnT.blk (OwnT.ext O hR) 0 rfl).cell 0
    simp [go_sem, ↓IntWalk.iteOmega, ev e29, q0]
    with_reducible rfl
  apply Build.det 31 Ext.refl (by rfl) (by rw [k.size]; rfl) rfl
  case h =>
    intro ax wx hE hR hF
    have e28 : ax.eval (.tmp 28) = _ := hF 0 (det 28 _) (by decide) (.tail _ (.tail _ (.head _)))
    exact x_nil rfl e28
  apply Build.det 32 Ext.refl (by rfl) (by rw [k.size]; rfl) rfl
  case h =>
    intro ax wx hE hR hF
    have e31 : ax.eval (.tmp 31) = _ := hF 3 (det 31 _) (by decide) (.head _)
    simp [go_sem, ↓IntWalk.iteOmega, ev e31]
    with_reducible rfl
  apply Build.det 33 Ext.refl (by rfl) (by rw [k.size]; rfl) rfl
  case h =>
    intro ax wx hE hR hF
    have e30 : ax.eval (.tmp 30) = _ := hF 2 (det 30 _) (by decide) (.tail _ (.tail _ (.head _)))
    have e32 : ax.eval (.tmp 32) = _ := hF 4 (det 32 _) (by decide) (.head _)
    simp [go_sem, ↓IntWalk.iteOmega, ev e30, ev e32]
    with_reducible rfl
  apply Build.det 34 Ext.refl (by rfl) (by rw [k.size]; rfl) rfl
  case h =>
    intro ax wx hE hR hF
    have e33 : ax.eval (.tmp 33) = _ := hF 5 (det 33 _) (by decide) (.head _)
    have dt : wx.cell? ⟨db, 0, none⟩ = some (.pointer (some ⟨p, 0, none⟩)) := (hd.ext (OwnT.ext O hR).below).cell 0
    simp [go_sem, ↓IntWalk.iteOmega, ev e33, dt]
    with_reducible rfl
  apply Build.det 35 Ext.refl (by rfl) (by rw [k.size]; rfl) rfl
  case h =>
    intro ax wx hE hR hF
    exact x_move rfl (hE.eval 10 (by rfl) e10)
  apply Build.det 36 Ext.refl (by rfl) (by rw [k.size]; rfl) rfl
  case h =>
    intro ax wx hE hR hF
    exact x_move rfl (hE.eval 2 (by rfl) e2)
  apply Build.det 37 Ext.refl (by rfl) (by rw [k.size]; rfl) rfl
  case h =>
    intro ax wx hE hR hF
    have e35 : ax.eval (.tmp 35) = _ := hF 7 (det 35 _) (by decide) (.tail _ (.head _))
    have e36 : ax.eval (.tmp 36) = _ := hF 8 (det 36 _) (by decide) (.head _)
    exact x_val (v := .int .i64 ((i * sz + x : Nat) : Int)) (x_add rfl e35 e36 (by omega)) (int_eq (by omega))
  apply Build.det 38 Ext.refl (by rfl) (by rw [k.size]; rfl) rfl
  case h =>
    intro ax wx hE hR hF
    exact x_move rfl (hE.eval 3 (by rfl) e3)
  apply Build.call 39 Ext.refl (by rfl) (by rw [k.size]; rfl) rfl
  case h =>
    intro ax wx hE hR hF
    have e34 : ax.eval (.tmp 34) = _ := hF 6 (det 34 _) (by decide) (.tail _ (.tail _ (.tail _ (.tail _ (.head _)))))
    have e37 : ax.eval (.tmp 37) = _ := hF 9 (det 37 _) (by decide) (.tail _ (.head _))
    have e38 : ax.eval (.tmp 38) = _ := hF 10 (det 38 _) (by decide) (.head _)
    simp [go_sem, ↓IntWalk.iteOmega, ev e34, ev e37, ev e38]
    with_reducible exact ⟨rfl, rfl⟩
  case hc => intro wx hR; exact dread_ok (i * sz + x) y wx (h.ext (OwnT.ext O hR).below) (hm.ext (OwnT.ext O hR).below) (by omega) ha
  apply Build.det 40 Ext.refl (by rfl) (by rw [k.size]; rfl) rfl
  case h =>
    intro ax wx hE hR hF
    have e39 : ax.eval (.tmp 39) = _ := hF 11 (det 39 _) (by decide) (.head _)
    simp [go_sem, ↓IntWalk.iteOmega, ev e39]
    with_reducible rfl
  apply Build.det 41 Ext.refl (by rfl) (by rw [k.size]; rfl) rfl
  case h =>
    intro ax wx hE hR hF
    have e39 : ax.eval (.tmp 39) = _ := hF 11 (det 39 _) (by decide) (.tail _ (.head _))
    simp [go_sem, ↓IntWalk.iteOmega, ev e39]
    with_reducible rfl
  apply Build.det 8 Ext.refl (by rfl) (by rw [k.size]; rfl) rfl
  case h =>
    intro ax wx hE hR hF
    have e40 : ax.eval (.tmp 40) = _ := hF 12 (det 40 _) (by decide) (.tail _ (.head _))
    exact x_assign rfl e40
  apply Build.det 9 Ext.refl (by rfl) (by rw [k.size]; rfl) rfl
  case h =>
    intro ax wx hE hR hF
    have e41 : ax.eval (.tmp 41) = _ := hF 13 (det 41 _) (by decide) (.tail _ (.head _))
    exact x_assign rfl e41
  apply Build.stop
  refine ⟨by kernel_rfl, .inl ⟨rfl, ?_⟩⟩
  intro a24 w25 hE R hF
  have e8 : a24.eval (.tmp 8) = _ := hF 14 (det 8 _) (.tail _ (.head _))
  have e9 : a24.eval (.tmp 9) = _ := hF 15 (det 9 _) (.head _)
  clear hF
  replace O := OwnT.ext O R
  clear R
  replace k := k.env hE
  clear hE e0 e2 e3 e5 e10 e22
  refine then_n ?_
  refine wp_ret ?_
  refine ret_F2 rfl k e8 e9 ?_
  exact ⟨rfl, O.below⟩
set_option maxRecDepth 100000 in
set_option maxHeartbeats 4000000 in
theorem cwrite_arg0 {H : Nat} {A0 : World} {R : List Thing} {Y : Thing} {p mb n cap bm db p2 sz : Nat} {B : Option Addr} {S : List Sec} {L : Int → Option Sec} {M : Mn} (i : Nat) (x : Int) (l : List UInt8) (w : World) (O : OwnT H A0 ((tDisc p mb B n cap bm S L) :: (tMn mb M) :: (Y) :: (tBlk db 149 #[.pointer (some ⟨p, 0, none⟩), .pointer (some ⟨p2, 0, none⟩), .int .i64 ↑sz]) :: R) w) (hs : 0 < sz) (hz : sz ≤ 1000000) (hi : i < slN n sz) (hl : l.length ≤ 1000000000) (hm : ¬ l.length % 16 = 0) : Calls Try.prog 51 #[.pointer (some ⟨db, 0, none⟩), .agg #[.int .i64 0, .int .i64 i], .int .i64 x, .string (sB l)] w fun e w' => e = .returned (.int .i64 1) ∧ OwnT H A0 ((tDisc p mb B n cap bm S L) :: (tMn mb M) :: (Y) :: (tBlk db 149 #[.pointer (some ⟨p, 0, none⟩), .pointer (some ⟨p2, 0, none⟩), .int .i64 ↑sz]) :: R) w' := by
  refine calls_F Try.func51 rfl 46 rfl (by rfl) ?_
  intro a1 k hargs
  have e0 : a1.eval (.tmp 0) = .pointer (some ⟨db, 0, none⟩) := hargs 0 _ rfl
  have e1 : a1.eval (.tmp 1) = .agg #[.int .i64 0, .int .i64 ↑i] := hargs 1 _ rfl
  have e2 : a1.eval (.tmp 2) = .int .i64 x := hargs 2 _ rfl
  have e3 : a1.eval (.tmp 3) = .string (sB l) := hargs 3 _ rfl
  clear hargs
  refine wp_seq ?_
  refine wp_region_lit ?_
  have hE := Env.refl a1 [5, 8]
  refine sq_new O (cs := #[.int .i64 0, .int .i64 ↑i]) (t := 90) 5 hE k rfl (by rfl) (by rfl) rfl (by simp [go_sem, ↓IntWalk.iteOmega, ev (hE.eval 1 (by rfl) e1)]) ?_
  clear O
  intro sb a2 w3 O hE e5 kp
  apply sq_det 8 hE k rfl (by rfl) (by rfl) rfl
  case h =>
    exact x_assign rfl rfl
  intro a4 hE e8 kp
  replace e5 := (kp 5 rfl).trans e5
  refine wpList_nil ?_
  replace e0 := hE.eval 0 (by rfl) e0
  replace e2 := hE.eval 2 (by rfl) e2
  replace e3 := hE.eval 3 (by rfl) e3
  replace k := k.env hE
  clear hE e1 e8
  refine then_n ?_
  replace O := OwnT.turn3 O
  replace O : OwnT _ _ ((tDisc p mb B n cap bm S L) :: (tMn mb M) :: (tBlk sb 90 #[.int .i64 0, .int .i64 ↑i]) :: (Y) :: (tBlk db 149 #[.pointer (some ⟨p, 0, none⟩), .pointer (some ⟨p2, 0, none⟩), .int .i64 ↑sz]) :: R) w3 := O
  refine wp_seq ?_
  refine wp_region_lit ?_
  have hE := Env.refl a4 [12, 13, 14, 11, 15, 16, 9, 10]
  apply sq_det 12 hE k rfl (by rfl) (by rfl) rfl
  case h =>
    exact x_move rfl (hE.eval 0 (by rfl) e0)
  intro a5 hE e12 kp
  apply sq_det 13 hE k rfl (by rfl) (by rfl) rfl
  case h =>
    have q0 : w3.cell? ⟨sb, 0, none⟩ = some (.int .i64 0) := (OwnT.blk O 2 rfl).cell 0
    have q1 : w3.cell? ⟨sb, 1, none⟩ = some (.int .i64 ↑i) := (OwnT.blk O 2 rfl).cell 1
    simp [go_sem, ↓IntWalk.iteOmega, ev (hE.eval 5 (by rfl) e5), q0, q1]
    with_reducible rfl
  intro a6 hE e13 kp
  replace e12 := (kp 12 rfl).trans e12
  apply sq_call 14 hE k rfl (by rfl) (by rfl) rfl
  case h =>
    simp [go_sem, ↓IntWalk.iteOmega, ev e12, ev e13]
    with_reducible exact ⟨rfl, rfl⟩
  case hc => exact cspot_in0 i _ (OwnT.disc O) (OwnT.blk O 4 rfl) hs hi
  rintro e w8 ⟨rfl, R⟩
  replace O := OwnT.ext O R
  refine ⟨_, rfl, ?_⟩
  intro a7 hE e14 kp
  apply sq_det 11 hE k rfl (by rfl) (by rfl) rfl
  case h =>
    exact x_move rfl e14
  intro a9 hE e11 kp
  apply sq_det 15 hE k rfl (by rfl) (by rfl) rfl
  case h =>
    simp [go_sem, ↓IntWalk.iteOmega, ev e11]
    with_reducible rfl
  intro a10 hE e15 kp
  replace e11 := (kp 11 rfl).trans e11
  apply sq_det 16 hE k rfl (by rfl) (by rfl) rfl
  case h =>
    simp [go_sem, ↓IntWalk.iteOmega, ev e11]
    with_reducible rfl
  intro a11 hE e16 kp
  replace e15 := (kp 15 rfl).trans e15
  apply sq_det 9 hE k rfl (by rfl) (by rfl) rfl
  case h =>
    exact x_assign rfl e15
  intro a12 hE e9 kp
  replace e16 := (kp 16 rfl).trans e16
  apply sq_det 10 hE k rfl (by rfl) (by rfl) rfl
  case h =>
    exact x_assign rfl e16
  intro a13 hE e10 kp
  replace e9 := (kp 9 rfl).trans e9
  refine wpList_nil ?_
  replace e0 := hE.eval 0 (by rfl) e0
  replace e2 := hE.eval 2 (by rfl) e2
  replace e3 := hE.eval 3 (by rfl) e3
  replace e5 := hE.eval 5 (by rfl) e5
  replace k := k.env hE
  clear hE
  refine then_n ?_
  refine wp_seq ?_
  refine wp_block ?_
  refine wp_seq ?_
  refine wp_region_lit ?_
  have hE := Env.refl a13 [18, 19, 17]
  apply sq_det 18 hE k rfl (by rfl) (by rfl) rfl
  case h =>
    exact x_move rfl (hE.eval 10 (by rfl) e10)
  intro a14 hE e18 kp
  apply sq_det 19 hE k rfl (by rfl) (by rfl) rfl
  case h =>
    exact x_dec (x_neq rfl e18 rfl) (decide_eq_false (by omega))
  intro a15 hE e19 kp
  apply sq_det 17 hE k rfl (by rfl) (by rfl) rfl
  case h =>
    exact x_assign rfl e19
  intro a16 hE e17 kp
  refine wpList_nil ?_
  replace e0 := hE.eval 0 (by rfl) e0
  replace e2 := hE.eval 2 (by rfl) e2
  replace e3 := hE.eval 3 (by rfl) e3
  replace e5 := hE.eval 5 (by rfl) e5
  replace e9 := hE.eval 9 (by rfl) e9
  replace e10 := hE.eval 10 (by rfl) e10
  replace k := k.env hE
  clear hE
  refine then_n ?_
  refine cond_f e17 rfl ?_
  refine wp_seq ?_
  refine wp_region_lit ?_
  have hE := Env.refl a16 [22, 23, 24, 25, 21]
  apply sq_det 22 hE k rfl (by rfl) (by rfl) rfl
  case h =>
    exact x_move rfl (hE.eval 3 (by rfl) e3)
  intro a17 hE e22 kp
  apply sq_det 23 hE k rfl (by rfl) (by rfl) rfl
  case h =>
    exact x_len_l Try.underlying9 rfl e22
  intro a18 hE e23 kp
  apply sq_det 24 hE k rfl (by rfl) (by rfl) rfl
  case h =>
    exact x_remN (m := l.length) (j := 16) rfl e23 rfl rfl (by decide)
  intro a19 hE e24 kp
  apply sq_det 25 hE k rfl (by rfl) (by rfl) rfl
  case h =>
    exact x_dec (x_neq rfl e24 rfl) (decide_eq_true (by omega))
  intro a20 hE e25 kp
  apply sq_det 21 hE k rfl (by rfl) (by rfl) rfl
  case h =>
    exact x_assign rfl e25
  intro a21 hE e21 kp
  refine wpList_nil ?_
  replace e0 := hE.eval 0 (by rfl) e0
  replace e2 := hE.eval 2 (by rfl) e2
  replace e3 := hE.eval 3 (by rfl) e3
  replace e5 := hE.eval 5 (by rfl) e5
  replace e9 := hE.eval 9 (by rfl) e9
  replace k := k.env hE
  clear hE e10 e17
  refine then_n ?_
  refine cond_t e21 rfl ?_
  refine wp_seq ?_
  refine wp_region_lit ?_
  have hE := Env.refl a21 [8]
  apply sq_det 8 hE k rfl (by rfl) (by rfl) rfl
  case h =>
    exact x_assign rfl rfl
  intro a22 hE e8 kp
  refine wpList_nil ?_
  replace k := k.env hE
  clear hE e0 e2 e3 e5 e9 e21
  refine then_n ?_
  refine wp_ret ?_
  refine block_r ?_
  refine then_r ?_
  replace O := OwnT.drop3 O
  refine ret_F1 rfl k e8 ?_
  exact ⟨rfl, O⟩
set_option maxRecDepth 100000 in
set_option maxHeartbeats 4000000 in
theorem cwrite_range0 {H : Nat} {A0 : World} {R : List Thing} {Y : Thing} {p mb n cap bm db p2 sz : Nat} {B : Option Addr} {S : List Sec} {L : Int → Option Sec} {M : Mn} (i : Nat) (x : Int) (l : List UInt8) (w : World) (O : OwnT H A0 ((tDisc p mb B n cap bm S L) :: (tMn mb M) :: (Y) :: (tBlk db 149 #[.pointer (some ⟨p, 0, none⟩), .pointer (some ⟨p2, 0, none⟩), .int .i64 ↑sz]) :: R) w) (hs : 0 < sz) (hz : sz ≤ 1000000) (hi : i < slN n sz) (hl : l.length ≤ 1000000000) (hm : l.length % 16 = 0) (hf : fitsB sz x ((l.length / 16 : Nat) : Int) = false) : Calls Try.prog 51 #[.pointer (some ⟨db, 0, none⟩), .agg #[.int .i64 0, .int .i64 i], .int .i64 x, .string (sB l)] w fun e w' => e = .returned (.int .i64 9) ∧ OwnT H A0 ((tDisc p mb B n cap bm S L) :: (tMn mb M) :: (Y) :: (tBlk db 149 #[.pointer (some ⟨p, 0, none⟩), .pointer (some ⟨p2, 0, none⟩), .int .i64 ↑sz]) :: R) w' := by
  refine calls_F Try.func51 rfl 46 rfl (by rfl) ?_
  intro a1 k hargs
  have e0 : a1.eval (.tmp 0) = .pointer (some ⟨db, 0, none⟩) := hargs 0 _ rfl
  have e1 : a1.eval (.tmp 1) = .agg #[.int .i64 0, .int .i64 ↑i] := hargs 1 _ rfl
  have e2 : a1.eval (.tmp 2) = .int .i64 x := hargs 2 _ rfl
  have e3 : a1.eval (.tmp 3) = .string (sB l) := hargs 3 _ rfl
  clear hargs
  refine wp_seq ?_
  refine wp_region_lit ?_
  have hE := Env.refl a1 [5, 8]
  refine sq_new O (cs := #[.int .i64 0, .int .i64 ↑i]) (t := 90) 5 hE k rfl (by rfl) (by rfl) rfl (by simp [go_sem, ↓IntWalk.iteOmega, ev (hE.eval 1 (by rfl) e1)]) ?_
  clear O
  intro sb a2 w3 O hE e5 kp
  apply sq_det 8 hE k rfl (by rfl) (by rfl) rfl
  case h =>
    exact x_assign rfl rfl
  intro a4 hE e8 kp
  replace e5 := (kp 5 rfl).trans e5
  refine wpList_nil ?_
  replace e0 := hE.eval 0 (by rfl) e0
  replace e2 := hE.eval 2 (by rfl) e2
  replace e3 := hE.eval 3 (by rfl) e3
  replace k := k.env hE
  clear hE e1 e8
  refine then_n ?_
  replace O := OwnT.turn3 O
  replace O : OwnT _ _ ((tDisc p mb B n cap bm S L) :: (tMn mb M) :: (tBlk sb 90 #[.int .i64 0, .int .i64 ↑i]) :: (Y) :: (tBlk db 149 #[.pointer (some ⟨p, 0, none⟩), .pointer (some ⟨p2, 0, none⟩), .int .i64 ↑sz]) :: R) w3 := O
  refine wp_seq ?_
  refine wp_region_lit ?_
  have hE := Env.refl a4 [12, 13, 14, 11, 15, 16, 9, 10]
  apply sq_det 12 hE k rfl (by rfl) (by rfl) rfl
  case h =>
    exact x_move rfl (hE.eval 0 (by rfl) e0)
  intro a5 hE e12 kp
  apply sq_det 13 hE k rfl (by rfl) (by rfl) rfl
  case h =>
    have q0 : w3.cell? ⟨sb, 0, none⟩ = some (.int .i64 0) := (OwnT.blk O 2 rfl).cell 0
    have q1 : w3.cell? ⟨sb, 1, none⟩ = some (.int .i64 ↑i) := (OwnT.blk O 2 rfl).cell 1
    simp [go_sem, ↓IntWalk.iteOmega, ev (hE.eval 5 (by rfl) e5), q0, q1]
    with_reducible rfl
  intro a6 hE e13 kp
  replace e12 := (kp 12 rfl).trans e12
  apply sq_call 14 hE k rfl (by rfl) (by rfl) rfl
  case h =>
    simp [go_sem, ↓IntWalk.iteOmega, ev e12, ev e13]
    with_reducible exact ⟨rfl, rfl⟩
  case hc => exact cspot_in0 i _ (OwnT.disc O) (OwnT.blk O 4 rfl) hs hi
  rintro e w8 ⟨rfl, R⟩
  replace O := OwnT.ext O R
  refine ⟨_, rfl, ?_⟩
  intro a7 hE e14 kp
  apply sq_det 11 hE k rfl (by rfl) (by rfl) rfl
  case h =>
    exact x_move rfl e14
  intro a9 hE e11 kp
  apply sq_det 15 hE k rfl (by rfl) (by rfl) rfl
  case h =>
    simp [go_sem, ↓IntWalk.iteOmega, ev e11]
    with_reducible rfl
  intro a10 hE e15 kp
  replace e11 := (kp 11 rfl).trans e11
  apply sq_det 16 hE k rfl (by rfl) (by rfl) rfl
  case h =>
    simp [go_sem, ↓IntWalk.iteOmega, ev e11]
    with_reducible rfl
  intro a11 hE e16 kp
  replace e15 := (kp 15 rfl).trans e15
  apply sq_det 9 hE k rfl (by rfl) (by rfl) rfl
  case h =>
    exact x_assign rfl e15
  intro a12 hE e9 kp
  replace e16 := (kp 16 rfl).trans e16
  apply sq_det 10 hE k rfl (by rfl) (by rfl) rfl
  case h =>
    exact x_assign rfl e16
  intro a13 hE e10 kp
  replace e9 := (kp 9 rfl).trans e9
  refine wpList_nil ?_
  replace e0 := hE.eval 0 (by rfl) e0
  replace e2 := hE.eval 2 (by rfl) e2
  replace e3 := hE.eval 3 (by rfl) e3
  replace e5 := hE.eval 5 (by rfl) e5
  replace k := k.env hE
  clear hE
  refine then_n ?_
  refine wp_seq ?_
  refine wp_block ?_
  refine wp_seq ?_
  refine wp_region_lit ?_
  have hE := Env.refl a13 [18, 19, 17]
  apply sq_det 18 hE k rfl (by rfl) (by rfl) rfl
  case h =>
    exact x_move rfl (hE.eval 10 (by rfl) e10)
  intro a14 hE e18 kp
  apply sq_det 19 hE k rfl (by rfl) (by rfl) rfl
  case h =>
    exact x_dec (x_neq rfl e18 rfl) (decide_eq_false (by omega))
  intro a15 hE e19 kp
  apply sq_det 17 hE k rfl (by rfl) (by rfl) rfl
  case h =>
    exact x_assign rfl e19
  intro a16 hE e17 kp
  refine wpList_nil ?_
  replace e0 := hE.eval 0 (by rfl) e0
  replace e2 := hE.eval 2 (by rfl) e2
  replace e3 := hE.eval 3 (by rfl) e3
  replace e5 := hE.eval 5 (by rfl) e5
  replace e9 := hE.eval 9 (by rfl) e9
  replace e10 := hE.eval 10 (by rfl) e10
  replace k := k.env hE
  clear hE
  refine then_n ?_
  refine cond_f e17 rfl ?_
  refine wp_seq ?_
  refine wp_region_lit ?_
  have hE := Env.refl a16 [22, 23, 24, 25, 21]
  apply sq_det 22 hE k rfl (by rfl) (by rfl) rfl
  case h =>
    exact x_move rfl (hE.eval 3 (by rfl) e3)
  intro a17 hE e22 kp
  apply sq_det 23 hE k rfl (by rfl) (by rfl) rfl
  case h =>
    exact x_len_l Try.underlying9 rfl e22
  intro a18 hE e23 kp
  apply sq_det 24 hE k rfl (by rfl) (by rfl) rfl
  case h =>
    exact x_remN (m := l.length) (j := 16) rfl e23 rfl rfl (by decide)
  intro a19 hE e24 kp
  apply sq_det 25 hE k rfl (by rfl) (by rfl) rfl
  case h =>
    exact x_dec (x_neq rfl e24 rfl) (decide_eq_false (by omega))
  intro a20 hE e25 kp
  apply sq_det 21 hE k rfl (by rfl) (by rfl) rfl
  case h =>
    exact x_assign rfl e25
  intro a21 hE e21 kp
  refine wpList_nil ?_
  replace e0 := hE.eval 0 (by rfl) e0
  replace e2 := hE.eval 2 (by rfl) e2
  replace e3 := hE.eval 3 (by rfl) e3
  replace e5 := hE.eval 5 (by rfl) e5
  replace e9 := hE.eval 9 (by rfl) e9
  replace k := k.env hE
  clear hE e10 e17
  refine then_n ?_
  refine cond_f e21 rfl ?_
  refine wp_seq ?_
  refine wp_region_lit ?_
  have hE := Env.refl a21 [27, 28, 29, 30, 31, 32, 33, 26]
  apply sq_det 27 hE k rfl (by rfl) (by rfl) rfl
  case h =>
    exact x_move rfl (hE.eval 0 (by rfl) e0)
  intro a22 hE e27 kp
  apply sq_det 28 hE k rfl (by rfl) (by rfl) rfl
  case h =>
    exact x_move rfl (hE.eval 2 (by rfl) e2)
  intro a23 hE e28 kp
  replace e27 := (kp 27 rfl).trans e27
  apply sq_det 29 hE k rfl (by rfl) (by rfl) rfl
  case h =>
    exact x_move rfl (hE.eval 3 (by rfl) e3)
  intro a24 hE e29 kp
  replace e27 := (kp 27 rfl).trans e27
  replace e28 := (kp 28 rfl).trans e28
  apply sq_det 30 hE k rfl (by rfl) (by rfl) rfl
  case h =>
    exact x_len_l Try.underlying9 rfl e29
  intro a25 hE e30 kp
  replace e27 := (kp 27 rfl).trans e27
  replace e28 := (kp 28 rfl).trans e28
  apply sq_det 31 hE k rfl (by rfl) (by rfl) rfl
  case h =>
    exact x_quoN (m := l.length) (j := 16) rfl e30 rfl rfl (by decide) (by omega)
  intro a26 hE e31 kp
  replace e27 := (kp 27 rfl).trans e27
  replace e28 := (kp 28 rfl).trans e28
  apply sq_call 32 hE k rfl (by rfl) (by rfl) rfl
  case h =>
    simp [go_sem, ↓IntWalk.iteOmega, ev e27, ev e28, ev e31]
    with_reducible exact ⟨rfl, rfl⟩
  case hc => exact cwithin_any _ _ _ (OwnT.blk O 4 rfl) hz
  rintro e _ ⟨rfl, rfl⟩
  refine ⟨_, congrArg (fun b => Ending.returned (.bool b)) hf, ?_⟩
  intro a27 hE e32 kp
  apply sq_det 33 hE k rfl (by rfl) (by rfl) rfl
  case h =>
    exact x_not rfl e32
  intro a28 hE e33 kp
  apply sq_det 26 hE k rfl (by rfl) (by rfl) rfl
  case h =>
    exact x_assign rfl e33
  intro a29 hE e26 kp
  refine wpList_nil ?_
  replace e0 := hE.eval 0 (by rfl) e0
  replace e2 := hE.eval 2 (by rfl) e2
  replace e3 := hE.eval 3 (by rfl) e3
  replace e5 := hE.eval 5 (by rfl) e5
  replace e9 := hE.eval 9 (by rfl) e9
  replace k := k.env hE
  clear hE e21
  refine then_n ?_
  refine cond_t e26 rfl ?_
  refine wp_seq ?_
  refine wp_region_lit ?_
  have hE := Env.refl a29 [8]
  apply sq_det 8 hE k rfl (by rfl) (by rfl) rfl
  case h =>
    exact x_assign rfl rfl
  intro a30 hE e8 kp
  refine wpList_nil ?_
  replace k := k.env hE
  clear hE e0 e2 e3 e5 e9 e26
  refine then_n ?_
  refine wp_ret ?_
  refine block_r ?_
  refine then_r ?_
  replace O := OwnT.drop3 O
  refine ret_F1 rfl k e8 ?_
  exact ⟨rfl, O⟩
set_option maxRecDepth 100000 in
set_option maxHeartbeats 4000000 in
theorem cwrite_k0 {H : Nat} {A0 : World} {R : List Thing} {Y : Thing} {p mb n cap bm db p2 sz : Nat} {B : Option Addr} {S : List Sec} {L : Int → Option Sec} {M : Mn} {c : Int} (i x m : Nat) (l : List UInt8) (w : World) (O : OwnT H A0 ((tDisc p mb B n cap bm S L) :: (tMn mb M) :: (Y) :: (tBlk db 149 #[.pointer (some ⟨p, 0, none⟩), .pointer (some ⟨p2, 0, none⟩), .int .i64 ↑sz]) :: R) w) (hs : 0 < sz) (hz : sz ≤ 1000) (hi : i < slN n sz) (hl : l.length = 16 * m) (hf : x + m ≤ sz) (hM : M.Ok c) (hc : c ≤ 100000000) : Calls Try.prog 51 #[.pointer (some ⟨db, 0, none⟩), .agg #[.int .i64 0, .int .i64 i], .int .i64 x, .string (sB l)] w fun e w' => ∃ (j : Nat) (M' : Mn), e = .returned (.int .i64 (if j = m then 0 else 4)) ∧ j ≤ m ∧ (j < m → M'.away = true) ∧ (M.Free → j = m ∧ M'.Free) ∧ (M.away = true → j = 0) ∧ M'.Ok (c + (m + 1 : Nat)) ∧ OwnT H A0 ((tDisc p mb B n cap bm S (wrS l ((i * sz + x : Nat) : Int) L j)) :: (tMn mb M') :: (Y) :: (tBlk db 149 #[.pointer (some ⟨p, 0, none⟩), .pointer (some ⟨p2, 0, none⟩), .int .i64 ↑sz]) :: R) w' := by
  have hle := slN_le hi hs
  have hn := O.dok.le
  have h16 : l.length / 16 = m := by omega
  have hfb : fitsB sz (x : Int) ((l.length / 16 : Nat) : Int) = true := by rw [h16]; exact decide_eq_true (by omega)
  have hmm : m ≤ 1000 := by omega
  refine calls_F Try.func51 rfl 46 rfl (by rfl) ?_
  intro a1 k hargs
  have e0 : a1.eval (.tmp 0) = .pointer (some ⟨db, 0, none⟩) := hargs 0 _ rfl
  have e1 : a1.eval (.tmp 1) = .agg #[.int .i64 0, .int .i64 ↑i] := hargs 1 _ rfl
  have e2 : a1.eval (.tmp 2) = .int .i64 ↑x := hargs 2 _ rfl
  have e3 : a1.eval (.tmp 3) = .string (sB l) := hargs 3 _ rfl
  clear hargs
  refine wp_seq ?_
  refine wp_region_lit ?_
  have hE := Env.refl a1 [5, 8]
  refine sq_new O (cs := #[.int .i64 0, .int .i64 ↑i]) (t := 90) 5 hE k rfl (by rfl) (by rfl) rfl (by simp [go_sem, ↓IntWalk.iteOmega, ev (hE.eval 1 (by rfl) e1)]) ?_
  clear O
  intro sb a2 w3 O hE e5 kp
  apply sq_det 8 hE k rfl (by rfl) (by rfl) rfl
  case h =>
    exact x_assign rfl rfl
  intro a4 hE e8 kp
  replace e5 := (kp 5 rfl).trans e5
  refine wpList_nil ?_
  replace e0 := hE.eval 0 (by rfl) e0
  replace e2 := hE.eval 2 (by rfl) e2
  replace e3 := hE.eval 3 (by rfl) e3
  replace k := k.env hE
  clear hE e1 e8
  refine then_n ?_
  replace O := OwnT.turn3 O
  replace O : OwnT _ _ ((tDisc p mb B n cap bm S L) :: (tMn mb M) :: (tBlk sb 90 #[.int .i64 0, .int .i64 ↑i]) :: (Y) :: (tBlk db 149 #[.pointer (some ⟨p, 0, none⟩), .pointer (some ⟨p2, 0, none⟩), .int .i64 ↑sz]) :: R) w3 := O
  refine wp_seq ?_
  refine wp_region_lit ?_
  have hE := Env.refl a4 [12, 13, 14, 11, 15, 16, 9, 10]
  apply sq_det 12 hE k rfl (by rfl) (by rfl) rfl
  case h =>
    exact x_move rfl (hE.eval 0 (by rfl) e0)
  intro a5 hE e12 kp
  apply sq_det 13 hE k rfl (by rfl) (by rfl) rfl
  case h =>
    have q0 : w3.cell? ⟨sb, 0, none⟩ = some (.int .i64 0) := (OwnT.blk O 2 rfl).cell 0
    have q1 : w3.cell? ⟨sb, 1, none⟩ = some (.int .i64 ↑i) := (OwnT.blk O 2 rfl).cell 1
    simp [go_sem, ↓IntWalk.iteOmega, ev (hE.eval 5 (by rfl) e5), q0, q1]
    with_reducible rfl
  intro a6 hE e13 kp
  replace e12 := (kp 12 rfl).trans e12
  apply sq_call 14 hE k rfl (by rfl) (by rfl) rfl
  case h =>
    simp [go_sem, ↓IntWalk.iteOmega, ev e12, ev e13]
    with_reducible exact ⟨rfl, rfl⟩
  case hc => exact cspot_in0 i _ (OwnT.disc O) (OwnT.blk O 4 rfl) hs hi
  rintro e w8 ⟨rfl, R⟩
  replace O := OwnT.ext O R
  refine ⟨_, rfl, ?_⟩
  intro a7 hE e14 kp
  apply sq_det 11 hE k rfl (by rfl) (by rfl) rfl
  case h =>
    exact x_move rfl e14
  intro a9 hE e11 kp
  apply sq_det 15 hE k rfl (by rfl) (by rfl) rfl
  case h =>
    simp [go_sem, ↓IntWalk.iteOmega, ev e11]
    with_reducible rfl
  intro a10 hE e15 kp
  replace e11 := (kp 11 rfl).trans e11
  apply sq_det 16 hE k rfl (by rfl) (by rfl) rfl
  case h =>
    simp [go_sem, ↓IntWalk.iteOmega, ev e11]
    with_reducible rfl
  intro a11 hE e16 kp
  replace e15 := (kp 15 rfl).trans e15
  apply sq_det 9 hE k rfl (by rfl) (by rfl) rfl
  case h =>
    exact x_assign rfl e15
  intro a12 hE e9 kp
  replace e16 := (kp 16 rfl).trans e16
  apply sq_det 10 hE k rfl (by rfl) (by rfl) rfl
  case h =>
    exact x_assign rfl e16
  intro a13 hE e10 kp
  replace e9 := (kp 9 rfl).trans e9
  refine wpList_nil ?_
  replace e0 := hE.eval 0 (by rfl) e0
  replace e2 := hE.eval 2 (by rfl) e2
  replace e3 := hE.eval 3 (by rfl) e3
  replace e5 := hE.eval 5 (by rfl) e5
  replace k := k.env hE
  clear hE
  refine then_n ?_
  refine wp_seq ?_
  refine wp_block ?_
  refine wp_seq ?_
  refine wp_region_lit ?_
  have hE := Env.refl a13 [18, 19, 17]
  apply sq_det 18 hE k rfl (by rfl) (by rfl) rfl
  case h =>
    exact x_move rfl (hE.eval 10 (by rfl) e10)
  intro a14 hE e18 kp
  apply sq_det 19 hE k rfl (by rfl) (by rfl) rfl
  case h =>
    exact x_dec (x_neq rfl e18 rfl) (decide_eq_false (by omega))
  intro a15 hE e19 kp
  apply sq_det 17 hE k rfl (by rfl) (by rfl) rfl
  case h =>
    exact x_assign rfl e19
  intro a16 hE e17 kp
  refine wpList_nil ?_
  replace e0 := hE.eval 0 (by rfl) e0
  replace e2 := hE.eval 2 (by rfl) e2
  replace e3 := hE.eval 3 (by rfl) e3
  replace e5 := hE.eval 5 (by rfl) e5
  replace e9 := hE.eval 9 (by rfl) e9
  replace e10 := hE.eval 10 (by rfl) e10
  replace k := k.env hE
  clear hE
  refine then_n ?_
  refine cond_f e17 rfl ?_
  refine wp_seq ?_
  refine wp_region_lit ?_
  have hE := Env.refl a16 [22, 23, 24, 25, 21]
  apply sq_det 22 hE k rfl (by rfl) (by rfl) rfl
  case h =>
    exact x_move rfl (hE.eval 3 (by rfl) e3)
  intro a17 hE e22 kp
  apply sq_det 23 hE k rfl (by rfl) (by rfl) rfl
  case h =>
    exact x_len_l Try.underlying9 rfl e22
  intro a18 hE e23 kp
  apply sq_det 24 hE k rfl (by rfl) (by rfl) rfl
  case h =>
    exact x_remN (m := l.length) (j := 16) rfl e23 rfl rfl (by decide)
  intro a19 hE e24 kp
  apply sq_det 25 hE k rfl (by rfl) (by rfl) rfl
  case h =>
    exact x_dec (x_neq rfl e24 rfl) (decide_eq_false (by omega))
  intro a20 hE e25 kp
  apply sq_det 21 hE k rfl (by rfl) (by rfl) rfl
  case h =>
    exact x_assign rfl e25
  intro a21 hE e21 kp
  refine wpList_nil ?_
  replace e0 := hE.eval 0 (by rfl) e0
  replace e2 := hE.eval 2 (by rfl) e2
  replace e3 := hE.eval 3 (by rfl) e3
  replace e5 := hE.eval 5 (by rfl) e5
  replace e9 := hE.eval 9 (by rfl) e9
  replace k := k.env hE
  clear hE e10 e17
  refine then_n ?_
  refine cond_f e21 rfl ?_
  refine wp_seq ?_
  refine wp_region_lit ?_
  have hE := Env.refl a21 [27, 28, 29, 30, 31, 32, 33, 26]
  apply sq_det 27 hE k rfl (by rfl) (by rfl) rfl
  case h =>
    exact x_move rfl (hE.eval 0 (by rfl) e0)
  intro a22 hE e27 kp
  apply sq_det 28 hE k rfl (by rfl) (by rfl) rfl
  case h =>
    exact x_move rfl (hE.eval 2 (by rfl) e2)
  intro a23 hE e28 kp
  replace e27 := (kp 27 rfl).trans e27
  apply sq_det 29 hE k rfl (by rfl) (by rfl) rfl
  case h =>
    exact x_move rfl (hE.eval 3 (by rfl) e3)
  intro a24 hE e29 kp
  replace e27 := (kp 27 rfl).trans e27
  replace e28 := (kp 28 rfl).trans e28
  apply sq_det 30 hE k rfl (by rfl) (by rfl) rfl
  case h =>
    exact x_len_l Try.underlying9 rfl e29
  intro a25 hE e30 kp
  replace e27 := (kp 27 rfl).trans e27
  replace e28 := (kp 28 rfl).trans e28
  apply sq_det 31 hE k rfl (by rfl) (by rfl) rfl
  case h =>
    exact x_quoN (m := l.length) (j := 16) rfl e30 rfl rfl (by decide) (by omega)
  intro a26 hE e31 kp
  replace e27 := (kp 27 rfl).trans e27
  replace e28 := (kp 28 rfl).trans e28
  apply sq_call 32 hE k rfl (by rfl) (by rfl) rfl
  case h =>
    simp [go_sem, ↓IntWalk.iteOmega, ev e27, ev e28, ev e31]
    with_reducible exact ⟨rfl, rfl⟩
  case hc => exact cwithin_any _ _ _ (OwnT.blk O 4 rfl) (by omega)
  rintro e _ ⟨rfl, rfl⟩
  refine ⟨_, congrArg (fun b => Ending.returned (.bool b)) hfb, ?_⟩
  intro a27 hE e32 kp
  apply sq_det 33 hE k rfl (by rfl) (by rfl) rfl
  case h =>
    exact x_not rfl e32
  intro a28 hE e33 kp
  apply sq_det 26 hE k rfl (by rfl) (by rfl) rfl
  case h =>
    exact x_assign rfl e33
  intro a29 hE e26 kp
  refine wpList_nil ?_
  replace e0 := hE.eval 0 (by rfl) e0
  replace e2 := hE.eval 2 (by rfl) e2
  replace e3 := hE.eval 3 (by rfl) e3
  replace e5 := hE.eval 5 (by rfl) e5
  replace e9 := hE.eval 9 (by rfl) e9
  replace k := k.env hE
  clear hE e21
  refine then_n ?_
  refine cond_f e26 rfl ?_
  refine wp_skip ?_
  refine block_n ?_
  refine then_n ?_
  refine wp_seq ?_
  refine wp_tail (w0 := w8) [[], [], [1], [0], [0, 3], [0, 1, 2, 3, 4], [0, 1, 2, 3, 4, 5], [], [], [7, 8], [], [0, 1, 2, 3, 4, 5, 6, 7, 8, 9, 10], [0, 1, 2, 3, 4, 5, 6, 7, 8, 9, 10, 11]] [34, 35, 36, 37, 38, 39, 40, 41, 42, 43, 44] (by kernel_rfl) ?_
  apply BuildL.det 34 (fun _ w_ => Ext.refl w_) (fun _ _ h => h) (by rfl) (by rw [k.size]; rfl) rfl
  case h =>
    intro lx ax wx hE hR hF
    exact x_move rfl (hE.eval 0 (by rfl) e0)
  apply BuildL.det 35 (fun _ w_ => Ext.refl w_) (fun _ _ h => h) (by rfl) (by rw [k.size]; rfl) rfl
  case h =>
    intro lx ax wx hE hR hF
    simp [go_sem, ↓IntWalk.iteOmega, ev (hE.eval 5 (by rfl) e5)]
    with_reducible rfl
  apply BuildL.det 36 (fun _ w_ => Ext.refl w_) (fun _ _ h => h) (by rfl) (by rw [k.size]; rfl) rfl
  case h =>
    intro lx ax wx hE hR hF
    have e35 : ax.eval (.tmp 35) = _ := hF 1 (detL 1 35 _) (by decide) (.head _)
    have q0 : wx.cell? ⟨sb, 0, none⟩ = some (.int .i64 0) := (OwnT.blk (OwnT.ext O hR) 2 rfl).cell 0
    simp [go_sem, ↓IntWalk.iteOmega, ev e35, q0]
    with_reducible rfl
  apply BuildL.det 37 (fun _ w_ => Ext.refl w_) (fun _ _ h => h) (by rfl) (by rw [k.size]; rfl) rfl
  case h =>
    intro lx ax wx hE hR hF
    have e34 : ax.eval (.tmp 34) = _ := hF 0 (detL 0 34 _) (by decide) (.tail _ (.tail _ (.head _)))
    exact x_nil rfl e34
  apply BuildL.det 38 (fun _ w_ => Ext.refl w_) (fun _ _ h => h) (by rfl) (by rw [k.size]; rfl) rfl
  case h =>
    intro lx ax wx hE hR hF
    have e37 : ax.eval (.tmp 37) = _ := hF 3 (detL 3 37 _) (by decide) (.head _)
    simp [go_sem, ↓IntWalk.iteOmega, ev e37]
    with_reducible rfl
  apply BuildL.det 39 (fun _ w_ => Ext.refl w_) (fun _ _ h => h) (by rfl) (by rw [k.size]; rfl) rfl
  case h =>
    intro lx ax wx hE hR hF
    have e36 : ax.eval (.tmp 36) = _ := hF 2 (detL 2 36 _) (by decide) (.tail _ (.tail _ (.head _)))
    have e38 : ax.eval (.tmp 38) = _ := hF 4 (detL 4 38 _) (by decide) (.head _)
    simp [go_sem, ↓IntWalk.iteOmega, ev e36, ev e38]
    with_reducible rfl
  apply BuildL.det 40 (fun _ w_ => Ext.refl w_) (fun _ _ h => h) (by rfl) (by rw [k.size]; rfl) rfl
  case h =>
    intro lx ax wx hE hR hF
    have e39 : ax.eval (.tmp 39) = _ := hF 5 (detL 5 39 _) (by decide) (.head _)
    have q0 : wx.cell? ⟨db, 0, none⟩ = some (.pointer (some ⟨p, 0, none⟩)) := (OwnT.blk (OwnT.ext O hR) 4 rfl).cell 0
    simp [go_sem, ↓IntWalk.iteOmega, ev e39, q0]
    with_reducible rfl
  apply BuildL.det 41 (fun _ w_ => Ext.refl w_) (fun _ _ h => h) (by rfl) (by rw [k.size]; rfl) rfl
  case h =>
    intro lx ax wx hE hR hF
    exact x_move rfl (hE.eval 9 (by rfl) e9)
  apply BuildL.det 42 (fun _ w_ => Ext.refl w_) (fun _ _ h => h) (by rfl) (by rw [k.size]; rfl) rfl
  case h =>
    intro lx ax wx hE hR hF
    exact x_move rfl (hE.eval 2 (by rfl) e2)
  apply BuildL.det 43 (fun _ w_ => Ext.refl w_) (fun _ _ h => h) (by rfl) (by rw [k.size]; rfl) rfl
  case h =>
    intro lx ax wx hE hR hF
    have e41 : ax.eval (.tmp 41) = _ := hF 7 (detL 7 41 _) (by decide) (.tail _ (.head _))
    have e42 : ax.eval (.tmp 42) = _ := hF 8 (detL 8 42 _) (by decide) (.head _)
    exact x_val (v := .int .i64 ((i * sz + x : Nat) : Int)) (x_add rfl e41 e42 (by omega)) (int_eq (by omega))
  apply BuildL.det 44 (fun _ w_ => Ext.refl w_) (fun _ _ h => h) (by rfl) (by rw [k.size]; rfl) rfl
  case h =>
    intro lx ax wx hE hR hF
    exact x_move rfl (hE.eval 3 (by rfl) e3)
  apply BuildL.stop
  refine ⟨by kernel_rfl, ?_⟩
  intro lx a30 w31 hE R hL hF
  have e40 : a30.eval (.tmp 40) = _ := hF 6 (detL 6 40 _) (.tail _ (.tail _ (.tail _ (.tail _ (.head _)))))
  have e43 : a30.eval (.tmp 43) = _ := hF 9 (detL 9 43 _) (.tail _ (.head _))
  have e44 : a30.eval (.tmp 44) = _ := hF 10 (detL 10 44 _) (.head _)
  clear hF hL
  replace O := OwnT.ext O R
  clear R
  simp only [List.length_cons, List.length_nil, Nat.zero_add, Nat.reduceAdd, List.drop_succ_cons, List.drop_zero, List.drop_nil, tailOps]
  apply tail_call 45 [34, 35, 36, 37, 38, 39, 40, 41, 42, 43, 44, 45] hE k rfl (by rfl) (by rfl) (by rfl)
  case h =>
    simp [go_sem, ↓IntWalk.iteOmega, ev e40, ev e43, ev e44]
    with_reducible exact ⟨rfl, rfl⟩
  case hc => exact dwrite_kf m ((i * sz + x : Nat) : Int) l _ O hl (by omega) (decide_eq_true (by omega)) hM hc
  clear O
  rintro e w32 ⟨j, M', rfl, hj, ha, hfree, haw, hM', O⟩
  refine ⟨_, rfl, ?_⟩
  intro a33 hE e45 kp
  apply tail_val (w' := w32) 8 [34, 35, 36, 37, 38, 39, 40, 41, 42, 43, 44, 45, 8] hE k rfl (by rfl) (by rfl) (by rfl)
  case h =>
    exact x_assign rfl e45
  intro a34 hE e8 kp
  replace k := k.env hE
  clear hE e0 e2 e3 e5 e9 e26
  refine then_n ?_
  refine wp_ret ?_
  replace O := OwnT.drop3 O
  refine ret_F1 rfl k e8 ?_
  exact ⟨j, M', rfl, hj, ha, hfree, haw, hM', O⟩
set_option maxRecDepth 100000 in
set_option maxHeartbeats 4000000 in
theorem cflush_ok1 {H : Nat} {A0 : World} {R : List Thing} {Y : Thing} {p mb n cap bm db p2 sz : Nat} {B : Option Addr} {S : List Sec} {L : Int → Option Sec} {M : Mn} {c : Int} (w : World) (O : OwnT H A0 ((tDisc p mb B n cap bm S L) :: (tMn mb M) :: (Y) :: (tBlk db 149 #[.pointer (some ⟨p2, 0, none⟩), .pointer (some ⟨p, 0, none⟩), .int .i64 ↑sz]) :: R) w) (hM : M.Ok c) (hc : c ≤ 1000000000000) (hu : M.up = true) : Calls Try.prog 56 #[.pointer (some ⟨db, 0, none⟩), .int .i64 1] w fun e w' => e = .returned (.int .i64 0) ∧ OwnT H A0 ((tDisc p mb B n cap bm (nowL S L) (fun _ => none)) :: (tMn mb M.use) :: (Y) :: (tBlk db 149 #[.pointer (some ⟨p2, 0, none⟩), .pointer (some ⟨p, 0, none⟩), .int .i64 ↑sz]) :: R) w' := by
  refine calls_F Try.func56 rfl 20 rfl (by rfl) ?_
  intro a1 k hargs
  have e0 : a1.eval (.tmp 0) = .pointer (some ⟨db, 0, none⟩) := hargs 0 _ rfl
  have e1 : a1.eval (.tmp 1) = .int .i64 1 := hargs 1 _ rfl
  clear hargs
  refine wp_seq ?_
  refine wp_region_lit ?_
  have hE := Env.refl a1 [4]
  apply sq_det 4 hE k rfl (by rfl) (by rfl) rfl
  case h =>
    exact x_assign rfl rfl
  intro a2 hE e4 kp
  refine wpList_nil ?_
  replace e0 := hE.eval 0 (by rfl) e0
  replace e1 := hE.eval 1 (by rfl) e1
  replace k := k.env hE
  clear hE e4
  refine then_n ?_
  refine wp_seq ?_
  refine wp_block ?_
  refine wp_seq ?_
  refine wp_region_lit ?_
  have hE := Env.refl a2 [6, 7, 5]
  apply sq_det 6 hE k rfl (by rfl) (by rfl) rfl
  case h =>
    exact x_move rfl (hE.eval 0 (by rfl) e0)
  intro a3 hE e6 kp
  apply sq_det 7 hE k rfl (by rfl) (by rfl) rfl
  case h =>
    simp [go_sem, ↓IntWalk.iteOmega, ev e6]
    with_reducible rfl
  intro a4 hE e7 kp
  apply sq_det 5 hE k rfl (by rfl) (by rfl) rfl
  case h =>
    exact x_assign rfl e7
  intro a5 hE e5 kp
  refine wpList_nil ?_
  replace e0 := hE.eval 0 (by rfl) e0
  replace e1 := hE.eval 1 (by rfl) e1
  replace k := k.env hE
  clear hE
  refine then_n ?_
  refine cond_f e5 rfl ?_
  refine wp_seq ?_
  refine wp_region_lit ?_
  have hE := Env.refl a5 [9, 10, 11, 12, 8]
  apply sq_det 9 hE k rfl (by rfl) (by rfl) rfl
  case h =>
    exact x_move rfl (hE.eval 0 (by rfl) e0)
  intro a6 hE e9 kp
  apply sq_det 10 hE k rfl (by rfl) (by rfl) rfl
  case h =>
    exact x_move rfl (hE.eval 1 (by rfl) e1)
  intro a7 hE e10 kp
  replace e9 := (kp 9 rfl).trans e9
  apply sq_call 11 hE k rfl (by rfl) (by rfl) rfl
  case h =>
    simp [go_sem, ↓IntWalk.iteOmega, ev e9, ev e10]
    with_reducible exact ⟨rfl, rfl⟩
  case hc => exact chas_1 db _
  rintro e _ ⟨rfl, rfl⟩
  refine ⟨_, rfl, ?_⟩
  intro a8 hE e11 kp
  apply sq_det 12 hE k rfl (by rfl) (by rfl) rfl
  case h =>
    exact x_not rfl e11
  intro a9 hE e12 kp
  apply sq_det 8 hE k rfl (by rfl) (by rfl) rfl
  case h =>
    exact x_assign rfl e12
  intro a10 hE e8 kp
  refine wpList_nil ?_
  replace e0 := hE.eval 0 (by rfl) e0
  replace e1 := hE.eval 1 (by rfl) e1
  replace k := k.env hE
  clear hE e5
  refine then_n ?_
  refine cond_f e8 rfl ?_
  refine wp_skip ?_
  refine block_n ?_
  refine then_n ?_
  refine wp_seq ?_
  refine wp_region_lit ?_
  have hE := Env.refl a10 [13, 14, 15, 16, 17, 18, 19, 4]
  apply sq_det 13 hE k rfl (by rfl) (by rfl) rfl
  case h =>
    exact x_move rfl (hE.eval 0 (by rfl) e0)
  intro a11 hE e13 kp
  apply sq_det 14 hE k rfl (by rfl) (by rfl) rfl
  case h =>
    exact x_move rfl (hE.eval 1 (by rfl) e1)
  intro a12 hE e14 kp
  replace e13 := (kp 13 rfl).trans e13
  apply sq_det 15 hE k rfl (by rfl) (by rfl) rfl
  case h =>
    exact x_nil rfl e13
  intro a13 hE e15 kp
  replace e14 := (kp 14 rfl).trans e14
  apply sq_det 16 hE k rfl (by rfl) (by rfl) rfl
  case h =>
    simp [go_sem, ↓IntWalk.iteOmega, ev e15]
    with_reducible rfl
  intro a14 hE e16 kp
  replace e14 := (kp 14 rfl).trans e14
  apply sq_det 17 hE k rfl (by rfl) (by rfl) rfl
  case h =>
    simp [go_sem, ↓IntWalk.iteOmega, ev e14, ev e16]
    with_reducible rfl
  intro a15 hE e17 kp
  apply sq_det 18 hE k rfl (by rfl) (by rfl) rfl
  case h =>
    have q0 : w.cell? ⟨db, 1, none⟩ = some (.pointer (some ⟨p, 0, none⟩)) := (OwnT.blk O 3 rfl).cell 1
    simp [go_sem, ↓IntWalk.iteOmega, ev e17, q0]
    with_reducible rfl
  intro a16 hE e18 kp
  apply sq_call 19 hE k rfl (by rfl) (by rfl) rfl
  case h =>
    simp [go_sem, ↓IntWalk.iteOmega, ev e18]
    with_reducible exact ⟨rfl, rfl⟩
  case hc => exact dflush_ok _ O hM hc hu
  clear O
  rintro e w18 ⟨rfl, O⟩
  refine ⟨_, rfl, ?_⟩
  intro a17 hE e19 kp
  apply sq_det 4 hE k rfl (by rfl) (by rfl) rfl
  case h =>
    exact x_assign rfl e19
  intro a19 hE e4 kp
  refine wpList_nil ?_
  replace k := k.env hE
  clear hE e0 e1 e8
  refine then_n ?_
  refine wp_ret ?_
  refine ret_F1 rfl k e4 ?_
  exact ⟨rfl, O⟩
set_option maxRecDepth 100000 in
set_option maxHeartbeats 4000000 in
theorem cflush_down1 {H : Nat} {A0 : World} {R : List Thing} {Y : Thing} {p mb n cap bm db p2 sz : Nat} {B : Option Addr} {S : List Sec} {L : Int → Option Sec} {M : Mn} {c : Int} (w : World) (O : OwnT H A0 ((tDisc p mb B n cap bm S L) :: (tMn mb M) :: (Y) :: (tBlk db 149 #[.pointer (some ⟨p2, 0, none⟩), .pointer (some ⟨p, 0, none⟩), .int .i64 ↑sz]) :: R) w) (hM : M.Ok c) (hc : c ≤ 1000000000000) (hu : M.up = false) : Calls Try.prog 56 #[.pointer (some ⟨db, 0, none⟩), .int .i64 1] w fun e w' => e = .returned (.int .i64 4) ∧ OwnT H A0 ((tDisc p mb B n cap bm S L) :: (tMn mb M.use) :: (Y) :: (tBlk db 149 #[.pointer (some ⟨p2, 0, none⟩), .pointer (some ⟨p, 0, none⟩), .int .i64 ↑sz]) :: R) w' := by
  refine calls_F Try.func56 rfl 20 rfl (by rfl) ?_
  intro a1 k hargs
  have e0 : a1.eval (.tmp 0) = .pointer (some ⟨db, 0, none⟩) := hargs 0 _ rfl
  have e1 : a1.eval (.tmp 1) = .int .i64 1 := hargs 1 _ rfl
  clear hargs
  refine wp_seq ?_
  refine wp_region_lit ?_
  have hE := Env.refl a1 [4]
  apply sq_det 4 hE k rfl (by rfl) (by rfl) rfl
  case h =>
    exact x_assign rfl rfl
  intro a2 hE e4 kp
  refine wpList_nil ?_
  replace e0 := hE.eval 0 (by rfl) e0
  replace e1 := hE.eval 1 (by rfl) e1
  replace k := k.env hE
  clear hE e4
  refine then_n ?_
  refine wp_seq ?_
  refine wp_block ?_
  refine wp_seq ?_
  refine wp_region_lit ?_
  have hE := Env.refl a2 [6, 7, 5]
  apply sq_det 6 hE k rfl (by rfl) (by rfl) rfl
  case h =>
    exact x_move rfl (hE.eval 0 (by rfl) e0)
  intro a3 hE e6 kp
  apply sq_det 7 hE k rfl (by rfl) (by rfl) rfl
  case h =>
    simp [go_sem, ↓IntWalk.iteOmega, ev e6]
    with_reducible rfl
  intro a4 hE e7 kp
  apply sq_det 5 hE k rfl (by rfl) (by rfl) rfl
  case h =>
    exact x_assign rfl e7
  intro a5 hE e5 kp
  refine wpList_nil ?_
  replace e0 := hE.eval 0 (by rfl) e0
  replace e1 := hE.eval 1 (by rfl) e1
  replace k := k.env hE
  clear hE
  refine then_n ?_
  refine cond_f e5 rfl ?_
  refine wp_seq ?_
  refine wp_region_lit ?_
  have hE := Env.refl a5 [9, 10, 11, 12, 8]
  apply sq_det 9 hE k rfl (by rfl) (by rfl) rfl
  case h =>
    exact x_move rfl (hE.eval 0 (by rfl) e0)
  intro a6 hE e9 kp
  apply sq_det 10 hE k rfl (by rfl) (by rfl) rfl
  case h =>
    exact x_move rfl (hE.eval 1 (by rfl) e1)
  intro a7 hE e10 kp
  replace e9 := (kp 9 rfl).trans e9
  apply sq_call 11 hE k rfl (by rfl) (by rfl) rfl
  case h =>
    simp [go_sem, ↓IntWalk.iteOmega, ev e9, ev e10]
    with_reducible exact ⟨rfl, rfl⟩
  case hc => exact chas_1 db _
  rintro e _ ⟨rfl, rfl⟩
  refine ⟨_, rfl, ?_⟩
  intro a8 hE e11 kp
  apply sq_det 12 hE k rfl (by rfl) (by rfl) rfl
  case h =>
    exact x_not rfl e11
  intro a9 hE e12 kp
  apply sq_det 8 hE k rfl (by rfl) (by rfl) rfl
  case h =>
    exact x_assign rfl e12
  intro a10 hE e8 kp
  refine wpList_nil ?_
  replace e0 := hE.eval 0 (by rfl) e0
  replace e1 := hE.eval 1 (by rfl) e1
  replace k := k.env hE
  clear hE e5
  refine then_n ?_
  refine cond_f e8 rfl ?_
  refine wp_skip ?_
  refine block_n ?_
  refine then_n ?_
  refine wp_seq ?_
  refine wp_region_lit ?_
  have hE := Env.refl a10 [13, 14, 15, 16, 17, 18, 19, 4]
  apply sq_det 13 hE k rfl (by rfl) (by rfl) rfl
  case h =>
    exact x_move rfl (hE.eval 0 (by rfl) e0)
  intro a11 hE e13 kp
  apply sq_det 14 hE k rfl (by rfl) (by rfl) rfl
  case h =>
    exact x_move rfl (hE.eval 1 (by rfl) e1)
  intro a12 hE e14 kp
  replace e13 := (kp 13 rfl).trans e13
  apply sq_det 15 hE k rfl (by rfl) (by rfl) rfl
  case h =>
    exact x_nil rfl e13
  intro a13 hE e15 kp
  replace e14 := (kp 14 rfl).trans e14
  apply sq_det 16 hE k rfl (by rfl) (by rfl) rfl
  case h =>
    simp [go_sem, ↓IntWalk.iteOmega, ev e15]
    with_reducible rfl
  intro a14 hE e16 kp
  replace e14 := (kp 14 rfl).trans e14
  apply sq_det 17 hE k rfl (by rfl) (by rfl) rfl
  case h =>
    simp [go_sem, ↓IntWalk.iteOmega, ev e14, ev e16]
    with_reducible rfl
  intro a15 hE e17 kp
  apply sq_det 18 hE k rfl (by rfl) (by rfl) rfl
  case h =>
    have q0 : w.cell? ⟨db, 1, none⟩ = some (.pointer (some ⟨p, 0, none⟩)) := (OwnT.blk O 3 rfl).cell 1
    simp [go_sem, ↓IntWalk.iteOmega, ev e17, q0]
    with_reducible rfl
  intro a16 hE e18 kp
  apply sq_call 19 hE k rfl (by rfl) (by rfl) rfl
  case h =>
    simp [go_sem, ↓IntWalk.iteOmega, ev e18]
    with_reducible exact ⟨rfl, rfl⟩
  case hc => exact dflush_down _ O hM hc hu
  clear O
  rintro e w18 ⟨rfl, O⟩
  refine ⟨_, rfl, ?_⟩
  intro a17 hE e19 kp
  apply sq_det 4 hE k rfl (by rfl) (by rfl) rfl
  case h =>
    exact x_assign rfl e19
  intro a19 hE e4 kp
  refine wpList_nil ?_
  replace k := k.env hE
  clear hE e0 e1 e8
  refine then_n ?_
  refine wp_ret ?_
  refine ret_F1 rfl k e4 ?_
  exact ⟨rfl, O⟩
set_option maxRecDepth 100000 in
set_option maxHeartbeats 4000000 in
theorem cread_range1 {p mb n cap bm db p2 sz : Nat} {B : Option Addr} {S : List Sec} {L : Int → Option Sec} {M : Mn} (i : Nat) (x y : Int) (W0 : World) (h : DiscR p mb B n cap bm S L W0) (hm : (tMn mb M).holds W0) (hd : Blk W0 db 149 #[.pointer (some ⟨p2, 0, none⟩), .pointer (some ⟨p, 0, none⟩), .int .i64 ↑sz]) (hs : 0 < sz) (hz : sz ≤ 1000000) (hi : i < slN n sz) (hf : fitsB sz x y = false) : Calls Try.prog 54 #[.pointer (some ⟨db, 0, none⟩), .agg #[.int .i64 1, .int .i64 i], .int .i64 x, .int .i64 y] W0 fun e w' => e = .returned (.tuple #[.string (sB ([])), .int .i64 9]) ∧ Ext W0 w' := by
  have O := OwnT.start W0
  have hle := slN_le hi hs
  have hn := h.ok.le
  refine calls_F Try.func54 rfl 42 rfl (by rfl) ?_
  intro a1 k hargs
  have e0 : a1.eval (.tmp 0) = .pointer (some ⟨db, 0, none⟩) := hargs 0 _ rfl
  have e1 : a1.eval (.tmp 1) = .agg #[.int .i64 1, .int .i64 ↑i] := hargs 1 _ rfl
  have e2 : a1.eval (.tmp 2) = .int .i64 x := hargs 2 _ rfl
  have e3 : a1.eval (.tmp 3) = .int .i64 y := hargs 3 _ rfl
  clear hargs
  refine wp_seq ?_
  refine wp_region_lit ?_
  have hE := Env.refl a1 [5, 8, 9]
  refine sq_new O (cs := #[.int .i64 1, .int .i64 ↑i]) (t := 90) 5 hE k rfl (by rfl) (by rfl) rfl (by simp [go_sem, ↓IntWalk.iteOmega, ev (hE.eval 1 (by rfl) e1)]) ?_
  clear O
  intro sb a2 w3 O hE e5 kp
  apply sq_det 8 hE k rfl (by rfl) (by rfl) rfl
  case h =>
    exact x_assign rfl rfl
  intro a4 hE e8 kp
  replace e5 := (kp 5 rfl).trans e5
  apply sq_det 9 hE k rfl (by rfl) (by rfl) rfl
  case h =>
    exact x_assign rfl rfl
  intro a5 hE e9 kp
  replace e5 := (kp 5 rfl).trans e5
  refine wpList_nil ?_
  replace e0 := hE.eval 0 (by rfl) e0
  replace e2 := hE.eval 2 (by rfl) e2
  replace e3 := hE.eval 3 (by rfl) e3
  replace k := k.env hE
  clear hE e1 e9
  refine then_n ?_
  refine wp_seq ?_
  refine wp_region_lit ?_
  have hE := Env.refl a5 [13, 14, 15, 12, 16, 17, 10, 11]
  apply sq_det 13 hE k rfl (by rfl) (by rfl) rfl
  case h =>
    exact x_move rfl (hE.eval 0 (by rfl) e0)
  intro a6 hE e13 kp
  apply sq_det 14 hE k rfl (by rfl) (by rfl) rfl
  case h =>
    have q0 : w3.cell? ⟨sb, 0, none⟩ = some (.int .i64 1) := (OwnT.blk O 0 rfl).cell 0
    have q1 : w3.cell? ⟨sb, 1, none⟩ = some (.int .i64 ↑i) := (OwnT.blk O 0 rfl).cell 1
    simp [go_sem, ↓IntWalk.iteOmega, ev (hE.eval 5 (by rfl) e5), q0, q1]
    with_reducible rfl
  intro a7 hE e14 kp
  replace e13 := (kp 13 rfl).trans e13
  apply sq_call 15 hE k rfl (by rfl) (by rfl) rfl
  case h =>
    simp [go_sem, ↓IntWalk.iteOmega, ev e13, ev e14]
    with_reducible exact ⟨rfl, rfl⟩
  case hc => exact cspot_in1 i _ (h.ext O.below) (hd.ext O.below) hs hi
  rintro e w9 ⟨rfl, R⟩
  replace O := OwnT.ext O R
  refine ⟨_, rfl, ?_⟩
  intro a8 hE e15 kp
  apply sq_det 12 hE k rfl (by rfl) (by rfl) rfl
  case h =>
    exact x_move rfl e15
  intro a10 hE e12 kp
  apply sq_det 16 hE k rfl (by rfl) (by rfl) rfl
  case h =>
    simp [go_sem, ↓IntWalk.iteOmega, ev e12]
    with_reducible rfl
  intro a11 hE e16 kp
  replace e12 := (kp 12 rfl).trans e12
  apply sq_det 17 hE k rfl (by rfl) (by rfl) rfl
  case h =>
    simp [go_sem, ↓IntWalk.iteOmega, ev e12]
    with_reducible rfl
  intro a12 hE e17 kp
  replace e16 := (kp 16 rfl).trans e16
  apply sq_det 10 hE k rfl (by rfl) (by rfl) rfl
  case h =>
    exact x_assign rfl e16
  intro a13 hE e10 kp
  replace e17 := (kp 17 rfl).trans e17
  apply sq_det 11 hE k rfl (by rfl) (by rfl) rfl
  case h =>
    exact x_assign rfl e17
  intro a14 hE e11 kp
  replace e10 := (kp 10 rfl).trans e10
  refine wpList_nil ?_
  replace e0 := hE.eval 0 (by rfl) e0
  replace e2 := hE.eval 2 (by rfl) e2
  replace e3 := hE.eval 3 (by rfl) e3
  replace e5 := hE.eval 5 (by rfl) e5
  replace k := k.env hE
  clear hE
  refine then_n ?_
  refine wp_seq ?_
  refine wp_block ?_
  refine wp_seq ?_
  refine wp_region_lit ?_
  have hE := Env.refl a14 [19, 20, 18]
  apply sq_det 19 hE k rfl (by rfl) (by rfl) rfl
  case h =>
    exact x_move rfl (hE.eval 11 (by rfl) e11)
  intro a15 hE e19 kp
  apply sq_det 20 hE k rfl (by rfl) (by rfl) rfl
  case h =>
    exact x_dec (x_neq rfl e19 rfl) (decide_eq_false (by omega))
  intro a16 hE e20 kp
  apply sq_det 18 hE k rfl (by rfl) (by rfl) rfl
  case h =>
    exact x_assign rfl e20
  intro a17 hE e18 kp
  refine wpList_nil ?_
  replace e0 := hE.eval 0 (by rfl) e0
  replace e2 := hE.eval 2 (by rfl) e2
  replace e3 := hE.eval 3 (by rfl) e3
  replace e5 := hE.eval 5 (by rfl) e5
  replace e10 := hE.eval 10 (by rfl) e10
  replace e11 := hE.eval 11 (by rfl) e11
  replace k := k.env hE
  clear hE
  refine then_n ?_
  refine cond_f e18 rfl ?_
  refine wp_seq ?_
  refine wp_region_lit ?_
  have hE := Env.refl a17 [23, 24, 25, 26, 27, 22]
  apply sq_det 23 hE k rfl (by rfl) (by rfl) rfl
  case h =>
    exact x_move rfl (hE.eval 0 (by rfl) e0)
  intro a18 hE e23 kp
  apply sq_det 24 hE k rfl (by rfl) (by rfl) rfl
  case h =>
    exact x_move rfl (hE.eval 2 (by rfl) e2)
  intro a19 hE e24 kp
  replace e23 := (kp 23 rfl).trans e23
  apply sq_det 25 hE k rfl (by rfl) (by rfl) rfl
  case h =>
    exact x_move rfl (hE.eval 3 (by rfl) e3)
  intro a20 hE e25 kp
  replace e23 := (kp 23 rfl).trans e23
  replace e24 := (kp 24 rfl).trans e24
  apply sq_call 26 hE k rfl (by rfl) (by rfl) rfl
  case h =>
    simp [go_sem, ↓IntWalk.iteOmega, ev e23, ev e24, ev e25]
    with_reducible exact ⟨rfl, rfl⟩
  case hc => exact cwithin_any _ _ _ (hd.ext O.below) hz
  rintro e _ ⟨rfl, rfl⟩
  refine ⟨_, congrArg (fun b => Ending.returned (.bool b)) hf, ?_⟩
  intro a21 hE e26 kp
  apply sq_det 27 hE k rfl (by rfl) (by rfl) rfl
  case h =>
    exact x_not rfl e26
  intro a22 hE e27 kp
  apply sq_det 22 hE k rfl (by rfl) (by rfl) rfl
  case h =>
    exact x_assign rfl e27
  intro a23 hE e22 kp
  refine wpList_nil ?_
  replace e0 := hE.eval 0 (by rfl) e0
  replace e2 := hE.eval 2 (by rfl) e2
  replace e3 := hE.eval 3 (by rfl) e3
  replace e5 := hE.eval 5 (by rfl) e5
  replace e10 := hE.eval 10 (by rfl) e10
  replace k := k.env hE
  clear hE e11 e18
  refine then_n ?_
  refine cond_t e22 rfl ?_
  refine wp_seq ?_
  refine wp_region_lit ?_
  have hE := Env.refl a23 [8, 9]
  apply sq_det 8 hE k rfl (by rfl) (by rfl) rfl
  case h =>
    exact x_assign rfl rfl
  intro a24 hE e8 kp
  apply sq_det 9 hE k rfl (by rfl) (by rfl) rfl
  case h =>
    exact x_assign rfl rfl
  intro a25 hE e9 kp
  replace e8 := (kp 8 rfl).trans e8
  refine wpList_nil ?_
  replace k := k.env hE
  clear hE e0 e2 e3 e5 e10 e22
  refine then_n ?_
  refine wp_ret ?_
  refine block_r ?_
  refine then_r ?_
  refine ret_F2 rfl k e8 e9 ?_
  exact ⟨rfl, O.below⟩
set_option maxRecDepth 100000 in
set_option maxHeartbeats 4000000 in
theorem cread_down1 {p mb n cap bm db p2 sz : Nat} {B : Option Addr} {S : List Sec} {L : Int → Option Sec} {M : Mn} (i : Nat) (x y : Nat) (W0 : World) (h : DiscR p mb B n cap bm S L W0) (hm : (tMn mb M).holds W0) (hd : Blk W0 db 149 #[.pointer (some ⟨p2, 0, none⟩), .pointer (some ⟨p, 0, none⟩), .int .i64 ↑sz]) (hs : 0 < sz) (hz : sz ≤ 1000000) (hi : i < slN n sz) (hf : x + y ≤ sz) (ha : M.away = true) : Calls Try.prog 54 #[.pointer (some ⟨db, 0, none⟩), .agg #[.int .i64 1, .int .i64 i], .int .i64 x, .int .i64 y] W0 fun e w' => e = .returned (.tuple #[.string (sB ([])), .int .i64 4]) ∧ Ext W0 w' := by
  have O := OwnT.start W0
  have hle := slN_le hi hs
  have hn := h.ok.le
  have hfb : fitsB sz x y = true := decide_eq_true (by omega)
  refine calls_F Try.func54 rfl 42 rfl (by rfl) ?_
  intro a1 k hargs
  have e0 : a1.eval (.tmp 0) = .pointer (some ⟨db, 0, none⟩) := hargs 0 _ rfl
  have e1 : a1.eval (.tmp 1) = .agg #[.int .i64 1, .int .i64 ↑i] := hargs 1 _ rfl
  have e2 : a1.eval (.tmp 2) = .int .i64 ↑x := hargs 2 _ rfl
  have e3 : a1.eval (.tmp 3) = .int .i64 ↑y := hargs 3 _ rfl
  clear hargs
  refine wp_seq ?_
  refine wp_region_lit ?_
  have hE := Env.refl a1 [5, 8, 9]
  refine sq_new O (cs := #[.int .i64 1, .int .i64 ↑i]) (t := 90) 5 hE k rfl (by rfl) (by rfl) rfl (by simp [go_sem, ↓IntWalk.iteOmega, ev (hE.eval 1 (by rfl) e1)]) ?_
  clear O
  intro sb a2 w3 O hE e5 kp
  apply sq_det 8 hE k rfl (by rfl) (by rfl) rfl
  case h =>
    exact x_assign rfl rfl
  intro a4 hE e8 kp
  replace e5 := (kp 5 rfl).trans e5
  apply sq_det 9 hE k rfl (by rfl) (by rfl) rfl
  case h =>
    exact x_assign rfl rfl
  intro a5 hE e9 kp
  replace e5 := (kp 5 rfl).trans e5
  refine wpList_nil ?_
  replace e0 := hE.eval 0 (by rfl) e0
  replace e2 := hE.eval 2 (by rfl) e2
  replace e3 := hE.eval 3 (by rfl) e3
  replace k := k.env hE
  clear hE e1 e9
  refine then_n ?_
  refine wp_seq ?_
  refine wp_region_lit ?_
  have hE := Env.refl a5 [13, 14, 15, 12, 16, 17, 10, 11]
  apply sq_det 13 hE k rfl (by rfl) (by rfl) rfl
  case h =>
    exact x_move rfl (hE.eval 0 (by rfl) e0)
  intro a6 hE e13 kp
  apply sq_det 14 hE k rfl (by rfl) (by rfl) rfl
  case h =>
    have q0 : w3.cell? ⟨sb, 0, none⟩ = some (.int .i64 1) := (OwnT.blk O 0 rfl).cell 0
    have q1 : w3.cell? ⟨sb, 1, none⟩ = some (.int .i64 ↑i) := (OwnT.blk O 0 rfl).cell 1
    simp [go_sem, ↓IntWalk.iteOmega, ev (hE.eval 5 (by rfl) e5), q0, q1]
    with_reducible rfl
  intro a7 hE e14 kp
  replace e13 := (kp 13 rfl).trans e13
  apply sq_call 15 hE k rfl (by rfl) (by rfl) rfl
  case h =>
    simp [go_sem, ↓IntWalk.iteOmega, ev e13, ev e14]
    with_reducible exact ⟨rfl, rfl⟩
  case hc => exact cspot_in1 i _ (h.ext O.below) (hd.ext O.below) hs hi
  rintro e w9 ⟨rfl, R⟩
  replace O := OwnT.ext O R
  refine ⟨_, rfl, ?_⟩
  intro a8 hE e15 kp
  apply sq_det 12 hE k rfl (by rfl) (by rfl) rfl
  case h =>
    exact x_move rfl e15
  intro a10 hE e12 kp
  apply sq_det 16 hE k rfl (by rfl) (by rfl) rfl
  case h =>
    simp [go_sem, ↓IntWalk.iteOmega, ev e12]
    with_reducible rfl
  intro a11 hE e16 kp
  replace e12 := (kp 12 rfl).trans e12
  apply sq_det 17 hE k rfl (by rfl) (by rfl) rfl
  case h =>
    simp [go_sem, ↓IntWalk.iteOmega, ev e12]
    with_reducible rfl
  intro a12 hE e17 kp
  replace e16 := (kp 16 rfl).trans e16
  apply sq_det 10 hE k rfl (by rfl) (by rfl) rfl
  case h =>
    exact x_assign rfl e16
  intro a13 hE e10 kp
  replace e17 := (kp 17 rfl).trans e17
  apply sq_det 11 hE k rfl (by rfl) (by rfl) rfl
  case h =>
    exact x_assign rfl e17
  intro a14 hE e11 kp
  replace e10 := (kp 10 rfl).trans e10
  refine wpList_nil ?_
  replace e0 := hE.eval 0 (by rfl) e0
  replace e2 := hE.eval 2 (by rfl) e2
  replace e3 := hE.eval 3 (by rfl) e3
  replace e5 := hE.eval 5 (by rfl) e5
  replace k := k.env hE
  clear hE
  refine then_n ?_
  refine wp_seq ?_
  refine wp_block ?_
  refine wp_seq ?_
  refine wp_region_lit ?_
  have hE := Env.refl a14 [19, 20, 18]
  apply sq_det 19 hE k rfl (by rfl) (by rfl) rfl
  case h =>
    exact x_move rfl (hE.eval 11 (by rfl) e11)
  intro a15 hE e19 kp
  apply sq_det 20 hE k rfl (by rfl) (by rfl) rfl
  case h =>
    exact x_dec (x_neq rfl e19 rfl) (decide_eq_false (by omega))
  intro a16 hE e20 kp
  apply sq_det 18 hE k rfl (by rfl) (by rfl) rfl
  case h =>
    exact x_assign rfl e20
  intro a17 hE e18 kp
  refine wpList_nil ?_
  replace e0 := hE.eval 0 (by rfl) e0
  replace e2 := hE.eval 2 (by rfl) e2
  replace e3 := hE.eval 3 (by rfl) e3
  replace e5 := hE.eval 5 (by rfl) e5
  replace e10 := hE.eval 10 (by rfl) e10
  replace e11 := hE.eval 11 (by rfl) e11
  replace k := k.env hE
  clear hE
  refine then_n ?_
  refine cond_f e18 rfl ?_
  refine wp_seq ?_
  refine wp_region_lit ?_
  have hE := Env.refl a17 [23, 24, 25, 26, 27, 22]
  apply sq_det 23 hE k rfl (by rfl) (by rfl) rfl
  case h =>
    exact x_move rfl (hE.eval 0 (by rfl) e0)
  intro a18 hE e23 kp
  apply sq_det 24 hE k rfl (by rfl) (by rfl) rfl
  case h =>
    exact x_move rfl (hE.eval 2 (by rfl) e2)
  intro a19 hE e24 kp
  replace e23 := (kp 23 rfl).trans e23
  apply sq_det 25 hE k rfl (by rfl) (by rfl) rfl
  case h =>
    exact x_move rfl (hE.eval 3 (by rfl) e3)
  intro a20 hE e25 kp
  replace e23 := (kp 23 rfl).trans e23
  replace e24 := (kp 24 rfl).trans e24
  apply sq_call 26 hE k rfl (by rfl) (by rfl) rfl
  case h =>
    simp [go_sem, ↓IntWalk.iteOmega, ev e23, ev e24, ev e25]
    with_reducible exact ⟨rfl, rfl⟩
  case hc => exact cwithin_any _ _ _ (hd.ext O.below) hz
  rintro e _ ⟨rfl, rfl⟩
  refine ⟨_, congrArg (fun b => Ending.returned (.bool b)) hfb, ?_⟩
  intro a21 hE e26 kp
  apply sq_det 27 hE k rfl (by rfl) (by rfl) rfl
  case h =>
    exact x_not rfl e26
  intro a22 hE e27 kp
  apply sq_det 22 hE k rfl (by rfl) (by rfl) rfl
  case h =>
    exact x_assign rfl e27
  intro a23 hE e22 kp
  refine wpList_nil ?_
  replace e0 := hE.eval 0 (by rfl) e0
  replace e2 := hE.eval 2 (by rfl) e2
  replace e3 := hE.eval 3 (by rfl) e3
  replace e5 := hE.eval 5 (by rfl) e5
  replace e10 := hE.eval 10 (by rfl) e10
  replace k := k.env hE
  clear hE e11 e18
  refine then_n ?_
  refine cond_f e22 rfl ?_
  refine wp_skip ?_
  refine block_n ?_
  refine then_n ?_
  refine wp_seq ?_
  refine wp_typed (R := Ext) (w0 := w9) [[], [], [1], [0], [0, 3], [0, 1, 2, 3, 4], [0, 1, 2, 3, 4, 5], [], [], [7, 8], [], [0, 1, 2, 3, 4, 5, 6, 7, 8, 9, 10], [0, 1, 2, 3, 4, 5, 6, 7, 8, 9, 10, 11], [0, 1, 2, 3, 4, 5, 6, 7, 8, 9, 10, 11], [0, 1, 2, 3, 4, 5, 6, 7, 8, 9, 10, 11, 12, 13], [0, 1, 2, 3, 4, 5, 6, 7, 8, 9, 10, 11, 12, 13, 14]] [28, 29, 30, 31, 32, 33, 34, 35, 36, 37, 38, 39, 40, 41, 8, 9] Ext.refl (fun _ _ _ => Ext.trans) (Ext.drew _) (by kernel_rfl) ?_
  apply Build.det 28 Ext.refl (by rfl) (by rw [k.size]; rfl) rfl
  case h =>
    intro ax wx hE hR hF
    exact x_move rfl (hE.eval 0 (by rfl) e0)
  apply Build.det 29 Ext.refl (by rfl) (by rw [k.size]; rfl) rfl
  case h =>
    intro ax wx hE hR hF
    simp [go_sem, ↓IntWalk.iteOmega, ev (hE.eval 5 (by rfl) e5)]
    with_reducible rfl
  apply Build.det 30 Ext.refl (by rfl) (by rw [k.size]; rfl) rfl
  case h =>
    intro ax wx hE hR hF
    have e29 : ax.eval (.tmp 29) = _ := hF 1 (det 29 _) (by decide) (.head _)
    have q0 : wx.cell? ⟨sb, 0, none⟩ = some (.int .i64 1) := (OwnT.blk (OwnT.ext O hR) 0 rfl).cell 0
    simp [go_sem, ↓IntWalk.iteOmega, ev e29, q0]
    with_reducible rfl
  apply Build.det 31 Ext.refl (by rfl) (by rw [k.size]; rfl) rfl
  case h =>
    intro ax wx hE hR hF
    have e28 : ax.eval (.tmp 28) = _ := hF 0 (det 28 _) (by decide) (.tail _ (.tail _ (.head _)))
    exact x_nil rfl e28
  apply Build.det 32 Ext.refl (by rfl) (by rw [k.size]; rfl) rfl
  case h =>
    intro ax wx hE hR hF
    have e31 : ax.eval (.tmp 31) = _ := hF 3 (det 31 _) (by decide) (.head _)
    simp [go_sem, ↓IntWalk.iteOmega, ev e31]
    with_reducible rfl
  apply Build.det 33 Ext.refl (by rfl) (by rw [k.size]; rfl) rfl
  case h =>
    intro ax wx hE hR hF
    have e30 : ax.eval (.tmp 30) = _ := hF 2 (det 30 _) (by decide) (.tail _ (.tail _ (.head _)))
    have e32 : ax.eval (.tmp 32) = _ := hF 4 (det 32 _) (by decide) (.head _)
    simp [go_sem, ↓IntWalk.iteOmega, ev e30, ev e32]
    with_reducible rfl
  apply Build.det 34 Ext.refl (by rfl) (by rw [k.size]; rfl) rfl
  case h =>
    intro ax wx hE hR hF
    have e33 : ax.eval (.tmp 33) = _ := hF 5 (det 33 _) (by decide) (.head _)
    have dt : wx.cell? ⟨db, 1, none⟩ = some (.pointer (some ⟨p, 0, none⟩)) := (hd.ext (OwnT.ext O hR).below).cell 1
    simp [go_sem, ↓IntWalk.iteOmega, ev e33, dt]
    with_reducible rfl
  apply Build.det 35 Ext.refl (by rfl) (by rw [k.size]; rfl) rfl
  case h =>
    intro ax wx hE hR hF
    exact x_move rfl (hE.eval 10 (by rfl) e10)
  apply Build.det 36 Ext.refl (by rfl) (by rw [k.size]; rfl) rfl
  case h =>
    intro ax wx hE hR hF
    exact x_move rfl (hE.eval 2 (by rfl) e2)
  apply Build.det 37 Ext.refl (by rfl) (by rw [k.size]; rfl) rfl
  case h =>
    intro ax wx hE hR hF
    have e35 : ax.eval (.tmp 35) = _ := hF 7 (det 35 _) (by decide) (.tail _ (.head _))
    have e36 : ax.eval (.tmp 36) = _ := hF 8 (det 36 _) (by decide) (.head _)
    exact x_val (v := .int .i64 ((i * sz + x : Nat) : Int)) (x_add rfl e35 e36 (by omega)) (int_eq (by omega))
  apply Build.det 38 Ext.refl (by rfl) (by rw [k.size]; rfl) rfl
  case h =>
    intro ax wx hE hR hF
    exact x_move rfl (hE.eval 3 (by rfl) e3)
  apply Build.call 39 Ext.refl (by rfl) (by rw [k.size]; rfl) rfl
  case h =>
    intro ax wx hE hR hF
    have e34 : ax.eval (.tmp 34) = _ := hF 6 (det 34 _) (by decide) (.tail _ (.tail _ (.tail _ (.tail _ (.head _)))))
    have e37 : ax.eval (.tmp 37) = _ := hF 9 (det 37 _) (by decide) (.tail _ (.head _))
    have e38 : ax.eval (.tmp 38) = _ := hF 10 (det 38 _) (by decide) (.head _)
    simp [go_sem, ↓IntWalk.iteOmega, ev e34, ev e37, ev e38]
    with_reducible exact ⟨rfl, rfl⟩
  case hc => intro wx hR; exact dread_down ↑(i * sz + x) ↑y wx (h.ext (OwnT.ext O hR).below) (hm.ext (OwnT.ext O hR).below) (decide_eq_true (by omega)) ha
  apply Build.det 40 Ext.refl (by rfl) (by rw [k.size]; rfl) rfl
  case h =>
    intro ax wx hE hR hF
    have e39 : ax.eval (.tmp 39) = _ := hF 11 (det 39 _) (by decide) (.head _)
    simp [go_sem, ↓IntWalk.iteOmega, ev e39]
    with_reducible rfl
  apply Build.det 41 Ext.refl (by rfl) (by rw [k.size]; rfl) rfl
  case h =>
    intro ax wx hE hR hF
    have e39 : ax.eval (.tmp 39) = _ := hF 11 (det 39 _) (by decide) (.tail _ (.head _))
    simp [go_sem, ↓IntWalk.iteOmega, ev e39]
    with_reducible rfl
  apply Build.det 8 Ext.refl (by rfl) (by rw [k.size]; rfl) rfl
  case h =>
    intro ax wx hE hR hF
    have e40 : ax.eval (.tmp 40) = _ := hF 12 (det 40 _) (by decide) (.tail _ (.head _))
    exact x_assign rfl e40
  apply Build.det 9 Ext.refl (by rfl) (by rw [k.size]; rfl) rfl
  case h =>
    intro ax wx hE hR hF
    have e41 : ax.eval (.tmp 41) = _ := hF 13 (det 41 _) (by decide) (.tail _ (.head _))
    exact x_assign rfl e41
  apply Build.stop
  refine ⟨by kernel_rfl, .inl ⟨rfl, ?_⟩⟩
  intro a24 w25 hE R hF
  have e8 : a24.eval (.tmp 8) = _ := hF 14 (det 8 _) (.tail _ (.head _))
  have e9 : a24.eval (.tmp 9) = _ := hF 15 (det 9 _) (.head _)
  clear hF
  replace O := OwnT.ext O R
  clear R
  replace k := k.env hE
  clear hE e0 e2 e3 e5 e10 e22
  refine then_n ?_
  refine wp_ret ?_
  refine ret_F2 rfl k e8 e9 ?_
  exact ⟨rfl, O.below⟩
set_option maxRecDepth 100000 in
set_option maxHeartbeats 4000000 in
theorem cread_ok1 {p mb n cap bm db p2 sz : Nat} {B : Option Addr} {S : List Sec} {L : Int → Option Sec} {M : Mn} (i : Nat) (x y : Nat) (W0 : World) (h : DiscR p mb B n cap bm S L W0) (hm : (tMn mb M).holds W0) (hd : Blk W0 db 149 #[.pointer (some ⟨p2, 0, none⟩), .pointer (some ⟨p, 0, none⟩), .int .i64 ↑sz]) (hs : 0 < sz) (hz : sz ≤ 1000000) (hi : i < slN n sz) (hf : x + y ≤ sz) (ha : M.away = false) : Calls Try.prog 54 #[.pointer (some ⟨db, 0, none⟩), .agg #[.int .i64 1, .int .i64 i], .int .i64 x, .int .i64 y] W0 fun e w' => e = .returned (.tuple #[.string (sB (readL S L (i * sz + x) y)), .int .i64 0]) ∧ Ext W0 w' := by
  have O := OwnT.start W0
  have hle := slN_le hi hs
  have hn := h.ok.le
  have hfb : fitsB sz x y = true := decide_eq_true (by omega)
  refine calls_F Try.func54 rfl 42 rfl (by rfl) ?_
  intro a1 k hargs
  have e0 : a1.eval (.tmp 0) = .pointer (some ⟨db, 0, none⟩) := hargs 0 _ rfl
  have e1 : a1.eval (.tmp 1) = .agg #[.int .i64 1, .int .i64 ↑i] := hargs 1 _ rfl
  have e2 : a1.eval (.tmp 2) = .int .i64 ↑x := hargs 2 _ rfl
  have e3 : a1.eval (.tmp 3) = .int .i64 ↑y := hargs 3 _ rfl
  clear hargs
  refine wp_seq ?_
  refine wp_region_lit ?_
  have hE := Env.refl a1 [5, 8, 9]
  refine sq_new O (cs := #[.int .i64 1, .int .i64 ↑i]) (t := 90) 5 hE k rfl (by rfl) (by rfl) rfl (by simp [go_sem, ↓IntWalk.iteOmega, ev (hE.eval 1 (by rfl) e1)]) ?_
  clear O
  intro sb a2 w3 O hE e5 kp
  apply sq_det 8 hE k rfl (by rfl) (by rfl) rfl
  case h =>
    exact x_assign rfl rfl
  intro a4 hE e8 kp
  replace e5 := (kp 5 rfl).trans e5
  apply sq_det 9 hE k rfl (by rfl) (by rfl) rfl
  case h =>
    exact x_assign rfl rfl
  intro a5 hE e9 kp
  replace e5 := (kp 5 rfl).trans e5
  refine wpList_nil ?_
  replace e0 := hE.eval 0 (by rfl) e0
  replace e2 := hE.eval 2 (by rfl) e2
  replace e3 := hE.eval 3 (by rfl) e3
  replace k := k.env hE
  clear hE e1 e9
  refine then_n ?_
  refine wp_seq ?_
  refine wp_region_lit ?_
  have hE := Env.refl a5 [13, 14, 15, 12, 16, 17, 10, 11]
  apply sq_det 13 hE k rfl (by rfl) (by rfl) rfl
  case h =>
    exact x_move rfl (hE.eval 0 (by rfl) e0)
  intro a6 hE e13 kp
  apply sq_det 14 hE k rfl (by rfl) (by rfl) rfl
  case h =>
    have q0 : w3.cell? ⟨sb, 0, none⟩ = some (.int .i64 1) := (OwnT.blk O 0 rfl).cell 0
    have q1 : w3.cell? ⟨sb, 1, none⟩ = some (.int .i64 ↑i) := (OwnT.blk O 0 rfl).cell 1
    simp [go_sem, ↓IntWalk.iteOmega, ev (hE.eval 5 (by rfl) e5), q0, q1]
    with_reducible rfl
  intro a7 hE e14 kp
  replace e13 := (kp 13 rfl).trans e13
  apply sq_call 15 hE k rfl (by rfl) (by rfl) rfl
  case h =>
    simp [go_sem, ↓IntWalk.iteOmega, ev e13, ev e14]
    with_reducible exact ⟨rfl, rfl⟩
  case hc => exact cspot_in1 i _ (h.ext O.below) (hd.ext O.below) hs hi
  rintro e w9 ⟨rfl, R⟩
  replace O := OwnT.ext O R
  refine ⟨_, rfl, ?_⟩
  intro a8 hE e15 kp
  apply sq_det 12 hE k rfl (by rfl) (by rfl) rfl
  case h =>
    exact x_move rfl e15
  intro a10 hE e12 kp
  apply sq_det 16 hE k rfl (by rfl) (by rfl) rfl
  case h =>
    simp [go_sem, ↓IntWalk.iteOmega, ev e12]
    with_reducible rfl
  intro a11 hE e16 kp
  replace e12 := (kp 12 rfl).trans e12
  apply sq_det 17 hE k rfl (by rfl) (by rfl) rfl
  case h =>
    simp [go_sem, ↓IntWalk.iteOmega, ev e12]
    with_reducible rfl
  intro a12 hE e17 kp
  replace e16 := (kp 16 rfl).trans e16
  apply sq_det 10 hE k rfl (by rfl) (by rfl) rfl
  case h =>
    exact x_assign rfl e16
  intro a13 hE e10 kp
  replace e17 := (kp 17 rfl).trans e17
  apply sq_det 11 hE k rfl (by rfl) (by rfl) rfl
  case h =>
    exact x_assign rfl e17
  intro a14 hE e11 kp
  replace e10 := (kp 10 rfl).trans e10
  refine wpList_nil ?_
  replace e0 := hE.eval 0 (by rfl) e0
  replace e2 := hE.eval 2 (by rfl) e2
  replace e3 := hE.eval 3 (by rfl) e3
  replace e5 := hE.eval 5 (by rfl) e5
  replace k := k.env hE
  clear hE
  refine then_n ?_
  refine wp_seq ?_
  refine wp_block ?_
  refine wp_seq ?_
  refine wp_region_lit ?_
  have hE := Env.refl a14 [19, 20, 18]
  apply sq_det 19 hE k rfl (by rfl) (by rfl) rfl
  case h =>
    exact x_move rfl (hE.eval 11 (by rfl) e11)
  intro a15 hE e19 kp
  apply sq_det 20 hE k rfl (by rfl) (by rfl) rfl
  case h =>
    exact x_dec (x_neq rfl e19 rfl) (decide_eq_false (by omega))
  intro a16 hE e20 kp
  apply sq_det 18 hE k rfl (by rfl) (by rfl) rfl
  case h =>
    exact x_assign rfl e20
  intro a17 hE e18 kp
  refine wpList_nil ?_
  replace e0 := hE.eval 0 (by rfl) e0
  replace e2 := hE.eval 2 (by rfl) e2
  replace e3 := hE.eval 3 (by rfl) e3
  replace e5 := hE.eval 5 (by rfl) e5
  replace e10 := hE.eval 10 (by rfl) e10
  replace e11 := hE.eval 11 (by rfl) e11
  replace k := k.env hE
  clear hE
  refine then_n ?_
  refine cond_f e18 rfl ?_
  refine wp_seq ?_
  refine wp_region_lit ?_
  have hE := Env.refl a17 [23, 24, 25, 26, 27, 22]
  apply sq_det 23 hE k rfl (by rfl) (by rfl) rfl
  case h =>
    exact x_move rfl (hE.eval 0 (by rfl) e0)
  intro a18 hE e23 kp
  apply sq_det 24 hE k rfl (by rfl) (by rfl) rfl
  case h =>
    exact x_move rfl (hE.eval 2 (by rfl) e2)
  intro a19 hE e24 kp
  replace e23 := (kp 23 rfl).trans e23
  apply sq_det 25 hE k rfl (by rfl) (by rfl) rfl
  case h =>
    exact x_move rfl (hE.eval 3 (by rfl) e3)
  intro a20 hE e25 kp
  replace e23 := (kp 23 rfl).trans e23
  replace e24 := (kp 24 rfl).trans e24
  apply sq_call 26 hE k rfl (by rfl) (by rfl) rfl
  case h =>
    simp [go_sem, ↓IntWalk.iteOmega, ev e23, ev e24, ev e25]
    with_reducible exact ⟨rfl, rfl⟩
  case hc => exact cwithin_any _ _ _ (hd.ext O.below) hz
  rintro e _ ⟨rfl, rfl⟩
  refine ⟨_, congrArg (fun b => Ending.returned (.bool b)) hfb, ?_⟩
  intro a21 hE e26 kp
  apply sq_det 27 hE k rfl (by rfl) (by rfl) rfl
  case h =>
    exact x_not rfl e26
  intro a22 hE e27 kp
  apply sq_det 22 hE k rfl (by rfl) (by rfl) rfl
  case h =>
    exact x_assign rfl e27
  intro a23 hE e22 kp
  refine wpList_nil ?_
  replace e0 := hE.eval 0 (by rfl) e0
  replace e2 := hE.eval 2 (by rfl) e2
  replace e3 := hE.eval 3 (by rfl) e3
  replace e5 := hE.eval 5 (by rfl) e5
  replace e10 := hE.eval 10 (by rfl) e10
  replace k := k.env hE
  clear hE e11 e18
  refine then_n ?_
  refine cond_f e22 rfl ?_
  refine wp_skip ?_
  refine block_n ?_
  refine then_n ?_
  refine wp_seq ?_
  refine wp_typed (R := Ext) (w0 := w9) [[], [], [1], [0], [0, 3], [0, 1, 2, 3, 4], [0, 1, 2, 3, 4, 5], [], [], [7, 8], [], [0, 1, 2, 3, 4, 5, 6, 7, 8, 9, 10], [0, 1, 2, 3, 4, 5, 6, 7, 8, 9, 10, 11], [0, 1, 2, 3, 4, 5, 6, 7, 8, 9, 10, 11], [0, 1, 2, 3, 4, 5, 6, 7, 8, 9, 10, 11, 12, 13], [0, 1, 2, 3, 4, 5, 6, 7, 8, 9, 10, 11, 12, 13, 14]] [28, 29, 30, 31, 32, 33, 34, 35, 36, 37, 38, 39, 40, 41, 8, 9] Ext.refl (fun _ _ _ => Ext.trans) (Ext.drew _) (by kernel_rfl) ?_
  apply Build.det 28 Ext.refl (by rfl) (by rw [k.size]; rfl) rfl
  case h =>
    intro ax wx hE hR hF
    exact x_move rfl (hE.eval 0 (by rfl) e0)
  apply Build.det 29 Ext.refl (by rfl) (by rw [k.size]; rfl) rfl
  case h =>
    intro ax wx hE hR hF
    simp [go_sem, ↓IntWalk.iteOmega, ev (hE.eval 5 (by rfl) e5)]
    with_reducible rfl
  apply Build.det 30 Ext.refl (by rfl) (by rw [k.size]; rfl) rfl
  case h =>
    intro ax wx hE hR hF
    have e29 : ax.eval (.tmp 29) = _ := hF 1 (det 29 _) (by decide) (.head _)
    have q0 : wx.cell? ⟨sb, 0, none⟩ = some (.int .i64 1) := (OwnT.blk (OwnT.ext O hR) 0 rfl).cell 0
    simp [go_sem, ↓IntWalk.iteOmega, ev e29, q0]
    with_reducible rfl
  apply Build.det 31 Ext.refl (by rfl) (by rw [k.size]; rfl) rfl
  case h =>
    intro ax wx hE hR hF
    have e28 : ax.eval (.tmp 28) = _ := hF 0 (det 28 _) (by decide) (.tail _ (.tail _ (.head _)))
    exact x_nil rfl e28
  apply Build.det 32 Ext.refl (by rfl) (by rw [k.size]; rfl) rfl
  case h =>
    intro ax wx hE hR hF
    have e31 : ax.eval (.tmp 31) = _ := hF 3 (det 31 _) (by decide) (.head _)
    simp [go_sem, ↓IntWalk.iteOmega, ev e31]
    with_reducible rfl
  apply Build.det 33 Ext.refl (by rfl) (by rw [k.size]; rfl) rfl
  case h =>
    intro ax wx hE hR hF
    have e30 : ax.eval (.tmp 30) = _ := hF 2 (det 30 _) (by decide) (.tail _ (.tail _ (.head _)))
    have e32 : ax.eval (.tmp 32) = _ := hF 4 (det 32 _) (by decide) (.head _)
    simp [go_sem, ↓IntWalk.iteOmega, ev e30, ev e32]
    with_reducible rfl
  apply Build.det 34 Ext.refl (by rfl) (by rw [k.size]; rfl) rfl
  case h =>
    intro ax wx hE hR hF
    have e33 : ax.eval (.tmp 33) = _ := hF 5 (det 33 _) (by decide) (.head _)
    have dt : wx.cell? ⟨db, 1, none⟩ = some (.pointer (some ⟨p, 0, none⟩)) := (hd.ext (OwnT.ext O hR).below).cell 1
    simp [go_sem, ↓IntWalk.iteOmega, ev e33, dt]
    with_reducible rfl
  apply Build.det 35 Ext.refl (by rfl) (by rw [k.size]; rfl) rfl
  case h =>
    intro ax wx hE hR hF
    exact x_move rfl (hE.eval 10 (by rfl) e10)
  apply Build.det 36 Ext.refl (by rfl) (by rw [k.size]; rfl) rfl
  case h =>
    intro ax wx hE hR hF
    exact x_move rfl (hE.eval 2 (by rfl) e2)
  apply Build.det 37 Ext.refl (by rfl) (by rw [k.size]; rfl) rfl
  case h =>
    intro ax wx hE hR hF
    have e35 : ax.eval (.tmp 35) = _ := hF 7 (det 35 _) (by decide) (.tail _ (.head _))
    have e36 : ax.eval (.tmp 36) = _ := hF 8 (det 36 _) (by decide) (.head _)
    exact x_val (v := .int .i64 ((i * sz + x : Nat) : Int)) (x_add rfl e35 e36 (by omega)) (int_eq (by omega))
  apply Build.det 38 Ext.refl (by rfl) (by rw [k.size]; rfl) rfl
  case h =>
    intro ax wx hE hR hF
    exact x_move rfl (hE.eval 3 (by rfl) e3)
  apply Build.call 39 Ext.refl (by rfl) (by rw [k.size]; rfl) rfl
  case h =>
    intro ax wx hE hR hF
    have e34 : ax.eval (.tmp 34) = _ := hF 6 (det 34 _) (by decide) (.tail _ (.tail _ (.tail _ (.tail _ (.head _)))))
    have e37 : ax.eval (.tmp 37) = _ := hF 9 (det 37 _) (by decide) (.tail _ (.head _))
    have e38 : ax.eval (.tmp 38) = _ := hF 10 (det 38 _) (by decide) (.head _)
    simp [go_sem, ↓IntWalk.iteOmega, ev e34, ev e37, ev e38]
    with_reducible exact ⟨rfl, rfl⟩
  case hc => intro wx hR; exact dread_ok (i * sz + x) y wx (h.ext (OwnT.ext O hR).below) (hm.ext (OwnT.ext O hR).below) (by omega) ha
  apply Build.det 40 Ext.refl (by rfl) (by rw [k.size]; rfl) rfl
  case h =>
    intro ax wx hE hR hF
    have e39 : ax.eval (.tmp 39) = _ := hF 11 (det 39 _) (by decide) (.head _)
    simp [go_sem, ↓IntWalk.iteOmega, ev e39]
    with_reducible rfl
  apply Build.det 41 Ext.refl (by rfl) (by rw [k.size]; rfl) rfl
  case h =>
    intro ax wx hE hR hF
    have e39 : ax.eval (.tmp 39) = _ := hF 11 (det 39 _) (by decide) (.tail _ (.head _))
    simp [go_sem, ↓IntWalk.iteOmega, ev e39]
    with_reducible rfl
  apply Build.det 8 Ext.refl (by rfl) (by rw [k.size]; rfl) rfl
  case h =>
    intro ax wx hE hR hF
    have e40 : ax.eval (.tmp 40) = _ := hF 12 (det 40 _) (by decide) (.tail _ (.head _))
    exact x_assign rfl e40
  apply Build.det 9 Ext.refl (by rfl) (by rw [k.size]; rfl) rfl
  case h =>
    intro ax wx hE hR hF
    have e41 : ax.eval (.tmp 41) = _ := hF 13 (det 41 _) (by decide) (.tail _ (.head _))
    exact x_assign rfl e41
  apply Build.stop
  refine ⟨by kernel_rfl, .inl ⟨rfl, ?_⟩⟩
  intro a24 w25 hE R hF
  have e8 : a24.eval (.tmp 8) = _ := hF 14 (det 8 _) (.tail _ (.head _))
  have e9 : a24.eval (.tmp 9) = _ := hF 15 (det 9 _) (.head _)
  clear hF
  replace O := OwnT.ext O R
  clear R
  replace k := k.env hE
  clear hE e0 e2 e3 e5 e10 e22
  refine then_n ?_
  refine wp_ret ?_
  refine ret_F2 rfl k e8 e9 ?_
  exact ⟨rfl, O.below⟩
set_option maxRecDepth 100000 in
set_option maxHeartbeats 4000000 in
theorem cwrite_arg1 {H : Nat} {A0 : World} {R : List Thing} {Y : Thing} {p mb n cap bm db p2 sz : Nat} {B : Option Addr} {S : List Sec} {L : Int → Option Sec} {M : Mn} (i : Nat) (x : Int) (l : List UInt8) (w : World) (O : OwnT H A0 ((tDisc p mb B n cap bm S L) :: (tMn mb M) :: (Y) :: (tBlk db 149 #[.pointer (some ⟨p2, 0, none⟩), .pointer (some ⟨p, 0, none⟩), .int .i64 ↑sz]) :: R) w) (hs : 0 < sz) (hz : sz ≤ 1000000) (hi : i < slN n sz) (hl : l.length ≤ 1000000000) (hm : ¬ l.length % 16 = 0) : Calls Try.prog 51 #[.pointer (some ⟨db, 0, none⟩), .agg #[.int .i64 1, .int .i64 i], .int .i64 x, .string (sB l)] w fun e w' => e = .returned (.int .i64 1) ∧ OwnT H A0 ((tDisc p mb B n cap bm S L) :: (tMn mb M) :: (Y) :: (tBlk db 149 #[.pointer (some ⟨p2, 0, none⟩), .pointer (some ⟨p, 0, none⟩), .int .i64 ↑sz]) :: R) w' := by
  refine calls_F Try.func51 rfl 46 rfl (by rfl) ?_
  intro a1 k hargs
  have e0 : a1.eval (.tmp 0) = .pointer (some ⟨db, 0, none⟩) := hargs 0 _ rfl
  have e1 : a1.eval (.tmp 1) = .agg #[.int .i64 1, .int .i64 ↑i] := hargs 1 _ rfl
  have e2 : a1.eval (.tmp 2) = .int .i64 x := hargs 2 _ rfl
  have e3 : a1.eval (.tmp 3) = .string (sB l) := hargs 3 _ rfl
  clear hargs
  refine wp_seq ?_
  refine wp_region_lit ?_
  have hE := Env.refl a1 [5, 8]
  refine sq_new O (cs := #[.int .i64 1, .int .i64 ↑i]) (t := 90) 5 hE k rfl (by rfl) (by rfl) rfl (by simp [go_sem, ↓IntWalk.iteOmega, ev (hE.eval 1 (by rfl) e1)]) ?_
  clear O
  intro sb a2 w3 O hE e5 kp
  apply sq_det 8 hE k rfl (by rfl) (by rfl) rfl
  case h =>
    exact x_assign rfl rfl
  intro a4 hE e8 kp
  replace e5 := (kp 5 rfl).trans e5
  refine wpList_nil ?_
  replace e0 := hE.eval 0 (by rfl) e0
  replace e2 := hE.eval 2 (by rfl) e2
  replace e3 := hE.eval 3 (by rfl) e3
  replace k := k.env hE
  clear hE e1 e8
  refine then_n ?_
  replace O := OwnT.turn3 O
  replace O : OwnT _ _ ((tDisc p mb B n cap bm S L) :: (tMn mb M) :: (tBlk sb 90 #[.int .i64 1, .int .i64 ↑i]) :: (Y) :: (tBlk db 149 #[.pointer (some ⟨p2, 0, none⟩), .pointer (some ⟨p, 0, none⟩), .int .i64 ↑sz]) :: R) w3 := O
  refine wp_seq ?_
  refine wp_region_lit ?_
  have hE := Env.refl a4 [12, 13, 14, 11, 15, 16, 9, 10]
  apply sq_det 12 hE k rfl (by rfl) (by rfl) rfl
  case h =>
    exact x_move rfl (hE.eval 0 (by rfl) e0)
  intro a5 hE e12 kp
  apply sq_det 13 hE k rfl (by rfl) (by rfl) rfl
  case h =>
    have q0 : w3.cell? ⟨sb, 0, none⟩ = some (.int .i64 1) := (OwnT.blk O 2 rfl).cell 0
    have q1 : w3.cell? ⟨sb, 1, none⟩ = some (.int .i64 ↑i) := (OwnT.blk O 2 rfl).cell 1
    simp [go_sem, ↓IntWalk.iteOmega, ev (hE.eval 5 (by rfl) e5), q0, q1]
    with_reducible rfl
  intro a6 hE e13 kp
  replace e12 := (kp 12 rfl).trans e12
  apply sq_call 14 hE k rfl (by rfl) (by rfl) rfl
  case h =>
    simp [go_sem, ↓IntWalk.iteOmega, ev e12, ev e13]
    with_reducible exact ⟨rfl, rfl⟩
  case hc => exact cspot_in1 i _ (OwnT.disc O) (OwnT.blk O 4 rfl) hs hi
  rintro e w8 ⟨rfl, R⟩
  replace O := OwnT.ext O R
  refine ⟨_, rfl, ?_⟩
  intro a7 hE e14 kp
  apply sq_det 11 hE k rfl (by rfl) (by rfl) rfl
  case h =>
    exact x_move rfl e14
  intro a9 hE e11 kp
  apply sq_det 15 hE k rfl (by rfl) (by rfl) rfl
  case h =>
    simp [go_sem, ↓IntWalk.iteOmega, ev e11]
    with_reducible rfl
  intro a10 hE e15 kp
  replace e11 := (kp 11 rfl).trans e11
  apply sq_det 16 hE k rfl (by rfl) (by rfl) rfl
  case h =>
    simp [go_sem, ↓IntWalk.iteOmega, ev e11]
    with_reducible rfl
  intro a11 hE e16 kp
  replace e15 := (kp 15 rfl).trans e15
  apply sq_det 9 hE k rfl (by rfl) (by rfl) rfl
  case h =>
    exact x_assign rfl e15
  intro a12 hE e9 kp
  replace e16 := (kp 16 rfl).trans e16
  apply sq_det 10 hE k rfl (by rfl) (by rfl) rfl
  case h =>
    exact x_assign rfl e16
  intro a13 hE e10 kp
  replace e9 := (kp 9 rfl).trans e9
  refine wpList_nil ?_
  replace e0 := hE.eval 0 (by rfl) e0
  replace e2 := hE.eval 2 (by rfl) e2
  replace e3 := hE.eval 3 (by rfl) e3
  replace e5 := hE.eval 5 (by rfl) e5
  replace k := k.env hE
  clear hE
  refine then_n ?_
  refine wp_seq ?_
  refine wp_block ?_
  refine wp_seq ?_
  refine wp_region_lit ?_
  have hE := Env.refl a13 [18, 19, 17]
  apply sq_det 18 hE k rfl (by rfl) (by rfl) rfl
  case h =>
    exact x_move rfl (hE.eval 10 (by rfl) e10)
  intro a14 hE e18 kp
  apply sq_det 19 hE k rfl (by rfl) (by rfl) rfl
  case h =>
    exact x_dec (x_neq rfl e18 rfl) (decide_eq_false (by omega))
  intro a15 hE e19 kp
  apply sq_det 17 hE k rfl (by rfl) (by rfl) rfl
  case h =>
    exact x_assign rfl e19
  intro a16 hE e17 kp
  refine wpList_nil ?_
  replace e0 := hE.eval 0 (by rfl) e0
  replace e2 := hE.eval 2 (by rfl) e2
  replace e3 := hE.eval 3 (by rfl) e3
  replace e5 := hE.eval 5 (by rfl) e5
  replace e9 := hE.eval 9 (by rfl) e9
  replace e10 := hE.eval 10 (by rfl) e10
  replace k := k.env hE
  clear hE
  refine then_n ?_
  refine cond_f e17 rfl ?_
  refine wp_seq ?_
  refine wp_region_lit ?_
  have hE := Env.refl a16 [22, 23, 24, 25, 21]
  apply sq_det 22 hE k rfl (by rfl) (by rfl) rfl
  case h =>
    exact x_move rfl (hE.eval 3 (by rfl) e3)
  intro a17 hE e22 kp
  apply sq_det 23 hE k rfl (by rfl) (by rfl) rfl
  case h =>
    exact x_len_l Try.underlying9 rfl e22
  intro a18 hE e23 kp
  apply sq_det 24 hE k rfl (by rfl) (by rfl) rfl
  case h =>
    exact x_remN (m := l.length) (j := 16) rfl e23 rfl rfl (by decide)
  intro a19 hE e24 kp
  apply sq_det 25 hE k rfl (by rfl) (by rfl) rfl
  case h =>
    exact x_dec (x_neq rfl e24 rfl) (decide_eq_true (by omega))
  intro a20 hE e25 kp
  apply sq_det 21 hE k rfl (by rfl) (by rfl) rfl
  case h =>
    exact x_assign rfl e25
  intro a21 hE e21 kp
  refine wpList_nil ?_
  replace e0 := hE.eval 0 (by rfl) e0
  replace e2 := hE.eval 2 (by rfl) e2
  replace e3 := hE.eval 3 (by rfl) e3
  replace e5 := hE.eval 5 (by rfl) e5
  replace e9 := hE.eval 9 (by rfl) e9
  replace k := k.env hE
  clear hE e10 e17
  refine then_n ?_
  refine cond_t e21 rfl ?_
  refine wp_seq ?_
  refine wp_region_lit ?_
  have hE := Env.refl a21 [8]
  apply sq_det 8 hE k rfl (by rfl) (by rfl) rfl
  case h =>
    exact x_assign rfl rfl
  intro a22 hE e8 kp
  refine wpList_nil ?_
  replace k := k.env hE
  clear hE e0 e2 e3 e5 e9 e21
  refine then_n ?_
  refine wp_ret ?_
  refine block_r ?_
  refine then_r ?_
  replace O := OwnT.drop3 O
  refine ret_F1 rfl k e8 ?_
  exact ⟨rfl, O⟩
set_option maxRecDepth 100000 in
set_option maxHeartbeats 4000000 in
theorem cwrite_range1 {H : Nat} {A0 : World} {R : List Thing} {Y : Thing} {p mb n cap bm db p2 sz : Nat} {B : Option Addr} {S : List Sec} {L : Int → Option Sec} {M : Mn} (i : Nat) (x : Int) (l : List UInt8) (w : World) (O : OwnT H A0 ((tDisc p mb B n cap bm S L) :: (tMn mb M) :: (Y) :: (tBlk db 149 #[.pointer (some ⟨p2, 0, none⟩), .pointer (some ⟨p, 0, none⟩), .int .i64 ↑sz]) :: R) w) (hs : 0 < sz) (hz : sz ≤ 1000000) (hi : i < slN n sz) (hl : l.length ≤ 1000000000) (hm : l.length % 16 = 0) (hf : fitsB sz x ((l.length / 16 : Nat) : Int) = false) : Calls Try.prog 51 #[.pointer (some ⟨db, 0, none⟩), .agg #[.int .i64 1, .int .i64 i], .int .i64 x, .string (sB l)] w fun e w' => e = .returned (.int .i64 9) ∧ OwnT H A0 ((tDisc p mb B n cap bm S L) :: (tMn mb M) :: (Y) :: (tBlk db 149 #[.pointer (some ⟨p2, 0, none⟩), .pointer (some ⟨p, 0, none⟩), .int .i64 ↑sz]) :: R) w' := by
  refine calls_F Try.func51 rfl 46 rfl (by rfl) ?_
  intro a1 k hargs
  have e0 : a1.eval (.tmp 0) = .pointer (some ⟨db, 0, none⟩) := hargs 0 _ rfl
  have e1 : a1.eval (.tmp 1) = .agg #[.int .i64 1, .int .i64 ↑i] := hargs 1 _ rfl
  have e2 : a1.eval (.tmp 2) = .int .i64 x := hargs 2 _ rfl
  have e3 : a1.eval (.tmp 3) = .string (sB l) := hargs 3 _ rfl
  clear hargs
  refine wp_seq ?_
  refine wp_region_lit ?_
  have hE := Env.refl a1 [5, 8]
  refine sq_new O (cs := #[.int .i64 1, .int .i64 ↑i]) (t := 90) 5 hE k rfl (by rfl) (by rfl) rfl (by simp [go_sem, ↓IntWalk.iteOmega, ev (hE.eval 1 (by rfl) e1)]) ?_
  clear O
  intro sb a2 w3 O hE e5 kp
  apply sq_det 8 hE k rfl (by rfl) (by rfl) rfl
  case h =>
    exact x_assign rfl rfl
  intro a4 hE e8 kp
  replace e5 := (kp 5 rfl).trans e5
  refine wpList_nil ?_
  replace e0 := hE.eval 0 (by rfl) e0
  replace e2 := hE.eval 2 (by rfl) e2
  replace e3 := hE.eval 3 (by rfl) e3
  replace k := k.env hE
  clear hE e1 e8
  refine then_n ?_
  replace O := OwnT.turn3 O
  replace O : OwnT _ _ ((tDisc p mb B n cap bm S L) :: (tMn mb M) :: (tBlk sb 90 #[.int .i64 1, .int .i64 ↑i]) :: (Y) :: (tBlk db 149 #[.pointer (some ⟨p2, 0, none⟩), .pointer (some ⟨p, 0, none⟩), .int .i64 ↑sz]) :: R) w3 := O
  refine wp_seq ?_
  refine wp_region_lit ?_
  have hE := Env.refl a4 [12, 13, 14, 11, 15, 16, 9, 10]
  apply sq_det 12 hE k rfl (by rfl) (by rfl) rfl
  case h =>
    exact x_move rfl (hE.eval 0 (by rfl) e0)
  intro a5 hE e12 kp
  apply sq_det 13 hE k rfl (by rfl) (by rfl) rfl
  case h =>
    have q0 : w3.cell? ⟨sb, 0, none⟩ = some (.int .i64 1) := (OwnT.blk O 2 rfl).cell 0
    have q1 : w3.cell? ⟨sb, 1, none⟩ = some (.int .i64 ↑i) := (OwnT.blk O 2 rfl).cell 1
    simp [go_sem, ↓IntWalk.iteOmega, ev (hE.eval 5 (by rfl) e5), q0, q1]
    with_reducible rfl
  intro a6 hE e13 kp
  replace e12 := (kp 12 rfl).trans e12
  apply sq_call 14 hE k rfl (by rfl) (by rfl) rfl
  case h =>
    simp [go_sem, ↓IntWalk.iteOmega, ev e12, ev e13]
    with_reducible exact ⟨rfl, rfl⟩
  case hc => exact cspot_in1 i _ (OwnT.disc O) (OwnT.blk O 4 rfl) hs hi
  rintro e w8 ⟨rfl, R⟩
  replace O := OwnT.ext O R
  refine ⟨_, rfl, ?_⟩
  intro a7 hE e14 kp
  apply sq_det 11 hE k rfl (by rfl) (by rfl) rfl
  case h =>
    exact x_move rfl e14
  intro a9 hE e11 kp
  apply sq_det 15 hE k rfl (by rfl) (by rfl) rfl
  case h =>
    simp [go_sem, ↓IntWalk.iteOmega, ev e11]
    with_reducible rfl
  intro a10 hE e15 kp
  replace e11 := (kp 11 rfl).trans e11
  apply sq_det 16 hE k rfl (by rfl) (by rfl) rfl
  case h =>
    simp [go_sem, ↓IntWalk.iteOmega, ev e11]
    with_reducible rfl
  intro a11 hE e16 kp
  replace e15 := (kp 15 rfl).trans e15
  apply sq_det 9 hE k rfl (by rfl) (by rfl) rfl
  case h =>
    exact x_assign rfl e15
  intro a12 hE e9 kp
  replace e16 := (kp 16 rfl).trans e16
  apply sq_det 10 hE k rfl (by rfl) (by rfl) rfl
  case h =>
    exact x_assign rfl e16
  intro a13 hE e10 kp
  replace e9 := (kp 9 rfl).trans e9
  refine wpList_nil ?_
  replace e0 := hE.eval 0 (by rfl) e0
  replace e2 := hE.eval 2 (by rfl) e2
  replace e3 := hE.eval 3 (by rfl) e3
  replace e5 := hE.eval 5 (by rfl) e5
  replace k := k.env hE
  clear hE
  refine then_n ?_
  refine wp_seq ?_
  refine wp_block ?_
  refine wp_seq ?_
  refine wp_region_lit ?_
  have hE := Env.refl a13 [18, 19, 17]
  apply sq_det 18 hE k rfl (by rfl) (by rfl) rfl
  case h =>
    exact x_move rfl (hE.eval 10 (by rfl) e10)
  intro a14 hE e18 kp
  apply sq_det 19 hE k rfl (by rfl) (by rfl) rfl
  case h =>
    exact x_dec (x_neq rfl e18 rfl) (decide_eq_false (by omega))
  intro a15 hE e19 kp
  apply sq_det 17 hE k rfl (by rfl) (by rfl) rfl
  case h =>
    exact x_assign rfl e19
  intro a16 hE e17 kp
  refine wpList_nil ?_
  replace e0 := hE.eval 0 (by rfl) e0
  replace e2 := hE.eval 2 (by rfl) e2
  replace e3 := hE.eval 3 (by rfl) e3
  replace e5 := hE.eval 5 (by rfl) e5
  replace e9 := hE.eval 9 (by rfl) e9
  replace e10 := hE.eval 10 (by rfl) e10
  replace k := k.env hE
  clear hE
  refine then_n ?_
  refine cond_f e17 rfl ?_
  refine wp_seq ?_
  refine wp_region_lit ?_
  have hE := Env.refl a16 [22, 23, 24, 25, 21]
  apply sq_det 22 hE k rfl (by rfl) (by rfl) rfl
  case h =>
    exact x_move rfl (hE.eval 3 (by rfl) e3)
  intro a17 hE e22 kp
  apply sq_det 23 hE k rfl (by rfl) (by rfl) rfl
  case h =>
    exact x_len_l Try.underlying9 rfl e22
  intro a18 hE e23 kp
  apply sq_det 24 hE k rfl (by rfl) (by rfl) rfl
  case h =>
    exact x_remN (m := l.length) (j := 16) rfl e23 rfl rfl (by decide)
  intro a19 hE e24 kp
  apply sq_det 25 hE k rfl (by rfl) (by rfl) rfl
  case h =>
    exact x_dec (x_neq rfl e24 rfl) (decide_eq_false (by omega))
  intro a20 hE e25 kp
  apply sq_det 21 hE k rfl (by rfl) (by rfl) rfl
  case h =>
    exact x_assign rfl e25
  intro a21 hE e21 kp
  refine wpList_nil ?_
  replace e0 := hE.eval 0 (by rfl) e0
  replace e2 := hE.eval 2 (by rfl) e2
  replace e3 := hE.eval 3 (by rfl) e3
  replace e5 := hE.eval 5 (by rfl) e5
  replace e9 := hE.eval 9 (by rfl) e9
  replace k := k.env hE
  clear hE e10 e17
  refine then_n ?_
  refine cond_f e21 rfl ?_
  refine wp_seq ?_
  refine wp_region_lit ?_
  have hE := Env.refl a21 [27, 28, 29, 30, 31, 32, 33, 26]
  apply sq_det 27 hE k rfl (by rfl) (by rfl) rfl
  case h =>
    exact x_move rfl (hE.eval 0 (by rfl) e0)
  intro a22 hE e27 kp
  apply sq_det 28 hE k rfl (by rfl) (by rfl) rfl
  case h =>
    exact x_move rfl (hE.eval 2 (by rfl) e2)
  intro a23 hE e28 kp
  replace e27 := (kp 27 rfl).trans e27
  apply sq_det 29 hE k rfl (by rfl) (by rfl) rfl
  case h =>
    exact x_move rfl (hE.eval 3 (by rfl) e3)
  intro a24 hE e29 kp
  replace e27 := (kp 27 rfl).trans e27
  replace e28 := (kp 28 rfl).trans e28
  apply sq_det 30 hE k rfl (by rfl) (by rfl) rfl
  case h =>
    exact x_len_l Try.underlying9 rfl e29
  intro a25 hE e30 kp
  replace e27 := (kp 27 rfl).trans e27
  replace e28 := (kp 28 rfl).trans e28
  apply sq_det 31 hE k rfl (by rfl) (by rfl) rfl
  case h =>
    exact x_quoN (m := l.length) (j := 16) rfl e30 rfl rfl (by decide) (by omega)
  intro a26 hE e31 kp
  replace e27 := (kp 27 rfl).trans e27
  replace e28 := (kp 28 rfl).trans e28
  apply sq_call 32 hE k rfl (by rfl) (by rfl) rfl
  case h =>
    simp [go_sem, ↓IntWalk.iteOmega, ev e27, ev e28, ev e31]
    with_reducible exact ⟨rfl, rfl⟩
  case hc => exact cwithin_any _ _ _ (OwnT.blk O 4 rfl) hz
  rintro e _ ⟨rfl, rfl⟩
  refine ⟨_, congrArg (fun b => Ending.returned (.bool b)) hf, ?_⟩
  intro a27 hE e32 kp
  apply sq_det 33 hE k rfl (by rfl) (by rfl) rfl
  case h =>
    exact x_not rfl e32
  intro a28 hE e33 kp
  apply sq_det 26 hE k rfl (by rfl) (by rfl) rfl
  case h =>
    exact x_assign rfl e33
  intro a29 hE e26 kp
  refine wpList_nil ?_
  replace e0 := hE.eval 0 (by rfl) e0
  replace e2 := hE.eval 2 (by rfl) e2
  replace e3 := hE.eval 3 (by rfl) e3
  replace e5 := hE.eval 5 (by rfl) e5
  replace e9 := hE.eval 9 (by rfl) e9
  replace k := k.env hE
  clear hE e21
  refine then_n ?_
  refine cond_t e26 rfl ?_
  refine wp_seq ?_
  refine wp_region_lit ?_
  have hE := Env.refl a29 [8]
  apply sq_det 8 hE k rfl (by rfl) (by rfl) rfl
  case h =>
    exact x_assign rfl rfl
  intro a30 hE e8 kp
  refine wpList_nil ?_
  replace k := k.env hE
  clear hE e0 e2 e3 e5 e9 e26
  refine then_n ?_
  refine wp_ret ?_
  refine block_r ?_
  refine then_r ?_
  replace O := OwnT.drop3 O
  refine ret_F1 rfl k e8 ?_
  exact ⟨rfl, O⟩
set_option maxRecDepth 100000 in
set_option maxHeartbeats 4000000 in
theorem cwrite_k1 {H : Nat} {A0 : World} {R : List Thing} {Y : Thing} {p mb n cap bm db p2 sz : Nat} {B : Option Addr} {S : List Sec} {L : Int → Option Sec} {M : Mn} {c : Int} (i x m : Nat) (l : List UInt8) (w : World) (O : OwnT H A0 ((tDisc p mb B n cap bm S L) :: (tMn mb M) :: (Y) :: (tBlk db 149 #[.pointer (some ⟨p2, 0, none⟩), .pointer (some ⟨p, 0, none⟩), .int .i64 ↑sz]) :: R) w) (hs : 0 < sz) (hz : sz ≤ 1000) (hi : i < slN n sz) (hl : l.length = 16 * m) (hf : x + m ≤ sz) (hM : M.Ok c) (hc : c ≤ 100000000) : Calls Try.prog 51 #[.pointer (some ⟨db, 0, none⟩), .agg #[.int .i64 1, .int .i64 i], .int .i64 x, .string (sB l)] w fun e w' => ∃ (j : Nat) (M' : Mn), e = .returned (.int .i64 (if j = m then 0 else 4)) ∧ j ≤ m ∧ (j < m → M'.away = true) ∧ (M.Free → j = m ∧ M'.Free) ∧ (M.away = true → j = 0) ∧ M'.Ok (c + (m + 1 : Nat)) ∧ OwnT H A0 ((tDisc p mb B n cap bm S (wrS l ((i * sz + x : Nat) : Int) L j)) :: (tMn mb M') :: (Y) :: (tBlk db 149 #[.pointer (some ⟨p2, 0, none⟩), .pointer (some ⟨p, 0, none⟩), .int .i64 ↑sz]) :: R) w' := by
  have hle := slN_le hi hs
  have hn := O.dok.le
  have h16 : l.length / 16 = m := by omega
  have hfb : fitsB sz (x : Int) ((l.length / 16 : Nat) : Int) = true := by rw [h16]; exact decide_eq_true (by omega)
  have hmm : m ≤ 1000 := by omega
  refine calls_F Try.func51 rfl 46 rfl (by rfl) ?_
  intro a1 k hargs
  have e0 : a1.eval (.tmp 0) = .pointer (some ⟨db, 0, none⟩) := hargs 0 _ rfl
  have e1 : a1.eval (.tmp 1) = .agg #[.int .i64 1, .int .i64 ↑i] := hargs 1 _ rfl
  have e2 : a1.eval (.tmp 2) = .int .i64 ↑x := hargs 2 _ rfl
  have e3 : a1.eval (.tmp 3) = .string (sB l) := hargs 3 _ rfl
  clear hargs
  refine wp_seq ?_
  refine wp_region_lit ?_
  have hE := Env.refl a1 [5, 8]
  refine sq_new O (cs := #[.int .i64 1, .int .i64 ↑i]) (t := 90) 5 hE k rfl (by rfl) (by rfl) rfl (by simp [go_sem, ↓IntWalk.iteOmega, ev (hE.eval 1 (by rfl) e1)]) ?_
  clear O
  intro sb a2 w3 O hE e5 kp
  apply sq_det 8 hE k rfl (by rfl) (by rfl) rfl
  case h =>
    exact x_assign rfl rfl
  intro a4 hE e8 kp
  replace e5 := (kp 5 rfl).trans e5
  refine wpList_nil ?_
  replace e0 := hE.eval 0 (by rfl) e0
  replace e2 := hE.eval 2 (by rfl) e2
  replace e3 := hE.eval 3 (by rfl) e3
  replace k := k.env hE
  clear hE e1 e8
  refine then_n ?_
  replace O := OwnT.turn3 O
  replace O : OwnT _ _ ((tDisc p mb B n cap bm S L) :: (tMn mb M) :: (tBlk sb 90 #[.int .i64 1, .int .i64 ↑i]) :: (Y) :: (tBlk db 149 #[.pointer (some ⟨p2, 0, none⟩), .pointer (some ⟨p, 0, none⟩), .int .i64 ↑sz]) :: R) w3 := O
  refine wp_seq ?_
  refine wp_region_lit ?_
  have hE := Env.refl a4 [12, 13, 14, 11, 15, 16, 9, 10]
  apply sq_det 12 hE k rfl (by rfl) (by rfl) rfl
  case h =>
    exact x_move rfl (hE.eval 0 (by rfl) e0)
  intro a5 hE e12 kp
  apply sq_det 13 hE k rfl (by rfl) (by rfl) rfl
  case h =>
    have q0 : w3.cell? ⟨sb, 0, none⟩ = some (.int .i64 1) := (OwnT.blk O 2 rfl).cell 0
    have q1 : w3.cell? ⟨sb, 1, none⟩ = some (.int .i64 ↑i) := (OwnT.blk O 2 rfl).cell 1
    simp [go_sem, ↓IntWalk.iteOmega, ev (hE.eval 5 (by rfl) e5), q0, q1]
    with_reducible rfl
  intro a6 hE e13 kp
  replace e12 := (kp 12 rfl).trans e12
  apply sq_call 14 hE k rfl (by rfl) (by rfl) rfl
  case h =>
    simp [go_sem, ↓IntWalk.iteOmega, ev e12, ev e13]
    with_reducible exact ⟨rfl, rfl⟩
  case hc => exact cspot_in1 i _ (OwnT.disc O) (OwnT.blk O 4 rfl) hs hi
  rintro e w8 ⟨rfl, R⟩
  replace O := OwnT.ext O R
  refine ⟨_, rfl, ?_⟩
  intro a7 hE e14 kp
  apply sq_det 11 hE k rfl (by rfl) (by rfl) rfl
  case h =>
    exact x_move rfl e14
  intro a9 hE e11 kp
  apply sq_det 15 hE k rfl (by rfl) (by rfl) rfl
  case h =>
    simp [go_sem, ↓IntWalk.iteOmega, ev e11]
    with_reducible rfl
  intro a10 hE e15 kp
  replace e11 := (kp 11 rfl).trans e11
  apply sq_det 16 hE k rfl (by rfl) (by rfl) rfl
  case h =>
    simp [go_sem, ↓IntWalk.iteOmega, ev e11]
    with_reducible rfl
  intro a11 hE e16 kp
  replace e15 := (kp 15 rfl).trans e15
  apply sq_det 9 hE k rfl (by rfl) (by rfl) rfl
  case h =>
    exact x_assign rfl e15
  intro a12 hE e9 kp
  replace e16 := (kp 16 rfl).trans e16
  apply sq_det 10 hE k rfl (by rfl) (by rfl) rfl
  case h =>
    exact x_assign rfl e16
  intro a13 hE e10 kp
  replace e9 := (kp 9 rfl).trans e9
  refine wpList_nil ?_
  replace e0 := hE.eval 0 (by rfl) e0
  replace e2 := hE.eval 2 (by rfl) e2
  replace e3 := hE.eval 3 (by rfl) e3
  replace e5 := hE.eval 5 (by rfl) e5
  replace k := k.env hE
  clear hE
  refine then_n ?_
  refine wp_seq ?_
  refine wp_block ?_
  refine wp_seq ?_
  refine wp_region_lit ?_
  have hE := Env.refl a13 [18, 19, 17]
  apply sq_det 18 hE k rfl (by rfl) (by rfl) rfl
  case h =>
    exact x_move rfl (hE.eval 10 (by rfl) e10)
  intro a14 hE e18 kp
  apply sq_det 19 hE k rfl (by rfl) (by rfl) rfl
  case h =>
    exact x_dec (x_neq rfl e18 rfl) (decide_eq_false (by omega))
  intro a15 hE e19 kp
  apply sq_det 17 hE k rfl (by rfl) (by rfl) rfl
  case h =>
    exact x_assign rfl e19
  intro a16 hE e17 kp
  refine wpList_nil ?_
  replace e0 := hE.eval 0 (by rfl) e0
  replace e2 := hE.eval 2 (by rfl) e2
  replace e3 := hE.eval 3 (by rfl) e3
  replace e5 := hE.eval 5 (by rfl) e5
  replace e9 := hE.eval 9 (by rfl) e9
  replace e10 := hE.eval 10 (by rfl) e10
  replace k := k.env hE
  clear hE
  refine then_n ?_
  refine cond_f e17 rfl ?_
  refine wp_seq ?_
  refine wp_region_lit ?_
  have hE := Env.refl a16 [22, 23, 24, 25, 21]
  apply sq_det 22 hE k rfl (by rfl) (by rfl) rfl
  case h =>
    exact x_move rfl (hE.eval 3 (by rfl) e3)
  intro a17 hE e22 kp
  apply sq_det 23 hE k rfl (by rfl) (by rfl) rfl
  case h =>
    exact x_len_l Try.underlying9 rfl e22
  intro a18 hE e23 kp
  apply sq_det 24 hE k rfl (by rfl) (by rfl) rfl
  case h =>
    exact x_remN (m := l.length) (j := 16) rfl e23 rfl rfl (by decide)
  intro a19 hE e24 kp
  apply sq_det 25 hE k rfl (by rfl) (by rfl) rfl
  case h =>
    exact x_dec (x_neq rfl e24 rfl) (decide_eq_false (by omega))
  intro a20 hE e25 kp
  apply sq_det 21 hE k rfl (by rfl) (by rfl) rfl
  case h =>
    exact x_assign rfl e25
  intro a21 hE e21 kp
  refine wpList_nil ?_
  replace e0 := hE.eval 0 (by rfl) e0
  replace e2 := hE.eval 2 (by rfl) e2
  replace e3 := hE.eval 3 (by rfl) e3
  replace e5 := hE.eval 5 (by rfl) e5
  replace e9 := hE.eval 9 (by rfl) e9
  replace k := k.env hE
  clear hE e10 e17
  refine then_n ?_
  refine cond_f e21 rfl ?_
  refine wp_seq ?_
  refine wp_region_lit ?_
  have hE := Env.refl a21 [27, 28, 29, 30, 31, 32, 33, 26]
  apply sq_det 27 hE k rfl (by rfl) (by rfl) rfl
  case h =>
    exact x_move rfl (hE.eval 0 (by rfl) e0)
  intro a22 hE e27 kp
  apply sq_det 28 hE k rfl (by rfl) (by rfl) rfl
  case h =>
    exact x_move rfl (hE.eval 2 (by rfl) e2)
  intro a23 hE e28 kp
  replace e27 := (kp 27 rfl).trans e27
  apply sq_det 29 hE k rfl (by rfl) (by rfl) rfl
  case h =>
    exact x_move rfl (hE.eval 3 (by rfl) e3)
  intro a24 hE e29 kp
  replace e27 := (kp 27 rfl).trans e27
  replace e28 := (kp 28 rfl).trans e28
  apply sq_det 30 hE k rfl (by rfl) (by rfl) rfl
  case h =>
    exact x_len_l Try.underlying9 rfl e29
  intro a25 hE e30 kp
  replace e27 := (kp 27 rfl).trans e27
  replace e28 := (kp 28 rfl).trans e28
  apply sq_det 31 hE k rfl (by rfl) (by rfl) rfl
  case h =>
    exact x_quoN (m := l.length) (j := 16) rfl e30 rfl rfl (by decide) (by omega)
  intro a26 hE e31 kp
  replace e27 := (kp 27 rfl).trans e27
  replace e28 := (kp 28 rfl).trans e28
  apply sq_call 32 hE k rfl (by rfl) (by rfl) rfl
  case h =>
    simp [go_sem, ↓IntWalk.iteOmega, ev e27, ev e28, ev e31]
    with_reducible exact ⟨rfl, rfl⟩
  case hc => exact cwithin_any _ _ _ (OwnT.blk O 4 rfl) (by omega)
  rintro e _ ⟨rfl, rfl⟩
  refine ⟨_, congrArg (fun b => Ending.returned (.bool b)) hfb, ?_⟩
  intro a27 hE e32 kp
  apply sq_det 33 hE k rfl (by rfl) (by rfl) rfl
  case h =>
    exact x_not rfl e32
  intro a28 hE e33 kp
  apply sq_det 26 hE k rfl (by rfl) (by rfl) rfl
  case h =>
    exact x_assign rfl e33
  intro a29 hE e26 kp
  refine wpList_nil ?_
  replace e0 := hE.eval 0 (by rfl) e0
  replace e2 := hE.eval 2 (by rfl) e2
  replace e3 := hE.eval 3 (by rfl) e3
  replace e5 := hE.eval 5 (by rfl) e5
  replace e9 := hE.eval 9 (by rfl) e9
  replace k := k.env hE
  clear hE e21
  refine then_n ?_
  refine cond_f e26 rfl ?_
  refine wp_skip ?_
  refine block_n ?_
  refine then_n ?_
  refine wp_seq ?_
  refine wp_tail (w0 := w8) [[], [], [1], [0], [0, 3], [0, 1, 2, 3, 4], [0, 1, 2, 3, 4, 5], [], [], [7, 8], [], [0, 1, 2, 3, 4, 5, 6, 7, 8, 9, 10], [0, 1, 2, 3, 4, 5, 6, 7, 8, 9, 10, 11]] [34, 35, 36, 37, 38, 39, 40, 41, 42, 43, 44] (by kernel_rfl) ?_
  apply BuildL.det 34 (fun _ w_ => Ext.refl w_) (fun _ _ h => h) (by rfl) (by rw [k.size]; rfl) rfl
  case h =>
    intro lx ax wx hE hR hF
    exact x_move rfl (hE.eval 0 (by rfl) e0)
  apply BuildL.det 35 (fun _ w_ => Ext.refl w_) (fun _ _ h => h) (by rfl) (by rw [k.size]; rfl) rfl
  case h =>
    intro lx ax wx hE hR hF
    simp [go_sem, ↓IntWalk.iteOmega, ev (hE.eval 5 (by rfl) e5)]
    with_reducible rfl
  apply BuildL.det 36 (fun _ w_ => Ext.refl w_) (fun _ _ h => h) (by rfl) (by rw [k.size]; rfl) rfl
  case h =>
    intro lx ax wx hE hR hF
    have e35 : ax.eval (.tmp 35) = _ := hF 1 (detL 1 35 _) (by decide) (.head _)
    have q0 : wx.cell? ⟨sb, 0, none⟩ = some (.int .i64 1) := (OwnT.blk (OwnT.ext O hR) 2 rfl).cell 0
    simp [go_sem, ↓IntWalk.iteOmega, ev e35, q0]
    with_reducible rfl
  apply BuildL.det 37 (fun _ w_ => Ext.refl w_) (fun _ _ h => h) (by rfl) (by rw [k.size]; rfl) rfl
  case h =>
    intro lx ax wx hE hR hF
    have e34 : ax.eval (.tmp 34) = _ := hF 0 (detL 0 34 _) (by decide) (.tail _ (.tail _ (.head _)))
    exact x_nil rfl e34
  apply BuildL.det 38 (fun _ w_ => Ext.refl w_) (fun _ _ h => h) (by rfl) (by rw [k.size]; rfl) rfl
  case h =>
    intro lx ax wx hE hR hF
    have e37 : ax.eval (.tmp 37) = _ := hF 3 (detL 3 37 _) (by decide) (.head _)
    simp [go_sem, ↓IntWalk.iteOmega, ev e37]
    with_reducible rfl
  apply BuildL.det 39 (fun _ w_ => Ext.refl w_) (fun _ _ h => h) (by rfl) (by rw [k.size]; rfl) rfl
  case h =>
    intro lx ax wx hE hR hF
    have e36 : ax.eval (.tmp 36) = _ := hF 2 (detL 2 36 _) (by decide) (.tail _ (.tail _ (.head _)))
    have e38 : ax.eval (.tmp 38) = _ := hF 4 (detL 4 38 _) (by decide) (.head _)
    simp [go_sem, ↓IntWalk.iteOmega, ev e36, ev e38]
    with_reducible rfl
  apply BuildL.det 40 (fun _ w_ => Ext.refl w_) (fun _ _ h => h) (by rfl) (by rw [k.size]; rfl) rfl
  case h =>
    intro lx ax wx hE hR hF
    have e39 : ax.eval (.tmp 39) = _ := hF 5 (detL 5 39 _) (by decide) (.head _)
    have q0 : wx.cell? ⟨db, 1, none⟩ = some (.pointer (some ⟨p, 0, none⟩)) := (OwnT.blk (OwnT.ext O hR) 4 rfl).cell 1
    simp [go_sem, ↓IntWalk.iteOmega, ev e39, q0]
    with_reducible rfl
  apply BuildL.det 41 (fun _ w_ => Ext.refl w_) (fun _ _ h => h) (by rfl) (by rw [k.size]; rfl) rfl
  case h =>
    intro lx ax wx hE hR hF
    exact x_move rfl (hE.eval 9 (by rfl) e9)
  apply BuildL.det 42 (fun _ w_ => Ext.refl w_) (fun _ _ h => h) (by rfl) (by rw [k.size]; rfl) rfl
  case h =>
    intro lx ax wx hE hR hF
    exact x_move rfl (hE.eval 2 (by rfl) e2)
  apply BuildL.det 43 (fun _ w_ => Ext.refl w_) (fun _ _ h => h) (by rfl) (by rw [k.size]; rfl) rfl
  case h =>
    intro lx ax wx hE hR hF
    have e41 : ax.eval (.tmp 41) = _ := hF 7 (detL 7 41 _) (by decide) (.tail _ (.head _))
    have e42 : ax.eval (.tmp 42) = _ := hF 8 (detL 8 42 _) (by decide) (.head _)
    exact x_val (v := .int .i64 ((i * sz + x : Nat) : Int)) (x_add rfl e41 e42 (by omega)) (int_eq (by omega))
  apply BuildL.det 44 (fun _ w_ => Ext.refl w_) (fun _ _ h => h) (by rfl) (by rw [k.size]; rfl) rfl
  case h =>
    intro lx ax wx hE hR hF
    exact x_move rfl (hE.eval 3 (by rfl) e3)
  apply BuildL.stop
  refine ⟨by kernel_rfl, ?_⟩
  intro lx a30 w31 hE R hL hF
  have e40 : a30.eval (.tmp 40) = _ := hF 6 (detL 6 40 _) (.tail _ (.tail _ (.tail _ (.tail _ (.head _)))))
  have e43 : a30.eval (.tmp 43) = _ := hF 9 (detL 9 43 _) (.tail _ (.head _))
  have e44 : a30.eval (.tmp 44) = _ := hF 10 (detL 10 44 _) (.head _)
  clear hF hL
  replace O := OwnT.ext O R
  clear R
  simp only [List.length_cons, List.length_nil, Nat.zero_add, Nat.reduceAdd, List.drop_succ_cons, List.drop_zero, List.drop_nil, tailOps]
  apply tail_call 45 [34, 35, 36, 37, 38, 39, 40, 41, 42, 43, 44, 45] hE k rfl (by rfl) (by rfl) (by rfl)
  case h =>
    simp [go_sem, ↓IntWalk.iteOmega, ev e40, ev e43, ev e44]
    with_reducible exact ⟨rfl, rfl⟩
  case hc => exact dwrite_kf m ((i * sz + x : Nat) : Int) l _ O hl (by omega) (decide_eq_true (by omega)) hM hc
  clear O
  rintro e w32 ⟨j, M', rfl, hj, ha, hfree, haw, hM', O⟩
  refine ⟨_, rfl, ?_⟩
  intro a33 hE e45 kp
  apply tail_val (w' := w32) 8 [34, 35, 36, 37, 38, 39, 40, 41, 42, 43, 44, 45, 8] hE k rfl (by rfl) (by rfl) (by rfl)
  case h =>
    exact x_assign rfl e45
  intro a34 hE e8 kp
  replace k := k.env hE
  clear hE e0 e2 e3 e5 e9 e26
  refine then_n ?_
  refine wp_ret ?_
  replace O := OwnT.drop3 O
  refine ret_F1 rfl k e8 ?_
  exact ⟨j, M', rfl, hj, ha, hfree, haw, hM', O⟩
theorem cwrite_f0 {H : Nat} {A0 : World} {R : List Thing} {Y : Thing} {p mb n cap bm db p2 sz : Nat} {B : Option Addr} {S : List Sec} {L : Int → Option Sec} {M : Mn} {c : Int} (i x m : Nat) (l : List UInt8) (w : World) (O : OwnT H A0 ((tDisc p mb B n cap bm S L) :: (tMn mb M) :: (Y) :: (tBlk db 149 #[.pointer (some ⟨p, 0, none⟩), .pointer (some ⟨p2, 0, none⟩), .int .i64 ↑sz]) :: R) w) (hs : 0 < sz) (hz : sz ≤ 1000) (hi : i < slN n sz) (hl : l.length = 16 * m) (hf : x + m ≤ sz) (hM : M.Ok c) (hc : c ≤ 100000000) (hF : M.Free) : Calls Try.prog 51 #[.pointer (some ⟨db, 0, none⟩), .agg #[.int .i64 0, .int .i64 i], .int .i64 x, .string (sB l)] w fun e w' => e = .returned (.int .i64 0) ∧ ∃ M' : Mn, M'.Free ∧ M'.Ok (c + (m + 1 : Nat)) ∧ OwnT H A0 ((tDisc p mb B n cap bm S (wrS l ((i * sz + x : Nat) : Int) L m)) :: (tMn mb M') :: (Y) :: (tBlk db 149 #[.pointer (some ⟨p, 0, none⟩), .pointer (some ⟨p2, 0, none⟩), .int .i64 ↑sz]) :: R) w' := by
  refine (cwrite_k0 i x m l w O hs hz hi hl hf hM hc).mono ?_
  rintro e w' ⟨j, M', rfl, -, -, hfree, -, hM', hO⟩
  obtain ⟨rfl, hF'⟩ := hfree hF
  exact ⟨by rw [if_pos rfl], M', hF', hM', hO⟩
theorem cwrite_f1 {H : Nat} {A0 : World} {R : List Thing} {Y : Thing} {p mb n cap bm db p2 sz : Nat} {B : Option Addr} {S : List Sec} {L : Int → Option Sec} {M : Mn} {c : Int} (i x m : Nat) (l : List UInt8) (w : World) (O : OwnT H A0 ((tDisc p mb B n cap bm S L) :: (tMn mb M) :: (Y) :: (tBlk db 149 #[.pointer (some ⟨p2, 0, none⟩), .pointer (some ⟨p, 0, none⟩), .int .i64 ↑sz]) :: R) w) (hs : 0 < sz) (hz : sz ≤ 1000) (hi : i < slN n sz) (hl : l.length = 16 * m) (hf : x + m ≤ sz) (hM : M.Ok c) (hc : c ≤ 100000000) (hF : M.Free) : Calls Try.prog 51 #[.pointer (some ⟨db, 0, none⟩), .agg #[.int .i64 1, .int .i64 i], .int .i64 x, .string (sB l)] w fun e w' => e = .returned (.int .i64 0) ∧ ∃ M' : Mn, M'.Free ∧ M'.Ok (c + (m + 1 : Nat)) ∧ OwnT H A0 ((tDisc p mb B n cap bm S (wrS l ((i * sz + x : Nat) : Int) L m)) :: (tMn mb M') :: (Y) :: (tBlk db 149 #[.pointer (some ⟨p2, 0, none⟩), .pointer (some ⟨p, 0, none⟩), .int .i64 ↑sz]) :: R) w' := by
  refine (cwrite_k1 i x m l w O hs hz hi hl hf hM hc).mono ?_
  rintro e w' ⟨j, M', rfl, -, -, hfree, -, hM', hO⟩
  obtain ⟨rfl, hF'⟩ := hfree hF
  exact ⟨by rw [if_pos rfl], M', hF', hM', hO⟩
theorem cnew_nil (v : Value) (sz : Int) (w : World) : Calls Try.prog 49 #[.pointer none, v, .int .i64 sz] w fun e w' => e = .returned (.tuple #[.pointer none, .int .i64 2]) ∧ w = w' := by
  refine calls_F Try.func49 rfl 40 rfl (by rfl) ?_
  intro a1 k hargs
  have e0 : a1.eval (.tmp 0) = .pointer none := hargs 0 _ rfl
  have e1 : a1.eval (.tmp 1) = v := hargs 1 _ rfl
  have e2 : a1.eval (.tmp 2) = .int .i64 sz := hargs 2 _ rfl
  clear hargs
  refine wp_seq ?_
  refine wp_region_lit ?_
  have hE := Env.refl a1 [6, 7]
  apply sq_det 6 hE k rfl (by rfl) (by rfl) rfl
  case h =>
    exact x_assign rfl rfl
  intro a2 hE e6 kp
  apply sq_det 7 hE k rfl (by rfl) (by rfl) rfl
  case h =>
    exact x_assign rfl rfl
  intro a3 hE e7 kp
  refine wpList_nil ?_
  replace e0 := hE.eval 0 (by rfl) e0
  replace e1 := hE.eval 1 (by rfl) e1
  replace e2 := hE.eval 2 (by rfl) e2
  replace k := k.env hE
  clear hE e7
  refine then_n ?_
  refine wp_seq ?_
  refine wp_block ?_
  refine wp_seq ?_
  refine wp_region_lit ?_
  have hE := Env.refl a3 [9, 10, 11, 12, 13, 14, 8]
  apply sq_det 9 hE k rfl (by rfl) (by rfl) rfl
  case h =>
    exact x_move rfl (hE.eval 0 (by rfl) e0)
  intro a4 hE e9 kp
  apply sq_det 10 hE k rfl (by rfl) (by rfl) rfl
  case h =>
    simp [go_sem, ↓IntWalk.iteOmega, ev e9]
    with_reducible rfl
  intro a5 hE e10 kp
  apply sq_det 11 hE k rfl (by rfl) (by rfl) rfl
  case h =>
    exact x_move rfl e10
  intro a6 hE e11 kp
  refine sq_skipg 12 hE k rfl (by rfl) (by rfl) rfl rfl (.inl e11) ?_
  intro a7 hE e12 kp
  replace e11 := (kp 11 rfl).trans e11
  refine sq_skipg 13 hE k rfl (by rfl) (by rfl) rfl rfl (.inl e11) ?_
  intro a8 hE e13 kp
  replace e11 := (kp 11 rfl).trans e11
  apply sq_det 14 hE k rfl (by rfl) (by rfl) rfl
  case h =>
    exact x_pick_t rfl e11 rfl
  intro a9 hE e14 kp
  apply sq_det 8 hE k rfl (by rfl) (by rfl) rfl
  case h =>
    exact x_assign rfl e14
  intro a10 hE e8 kp
  refine wpList_nil ?_
  replace e0 := hE.eval 0 (by rfl) e0
  replace e1 := hE.eval 1 (by rfl) e1
  replace e2 := hE.eval 2 (by rfl) e2
  replace k := k.env hE
  clear hE
  refine then_n ?_
  refine cond_t e8 rfl ?_
  refine wp_seq ?_
  refine wp_region_lit ?_
  have hE := Env.refl a10 [6, 7]
  apply sq_det 6 hE k rfl (by rfl) (by rfl) rfl
  case h =>
    exact x_assign rfl rfl
  intro a11 hE e6 kp
  apply sq_det 7 hE k rfl (by rfl) (by rfl) rfl
  case h =>
    exact x_assign rfl rfl
  intro a12 hE e7 kp
  replace e6 := (kp 6 rfl).trans e6
  refine wpList_nil ?_
  replace k := k.env hE
  clear hE e0 e1 e2 e8
  refine then_n ?_
  refine wp_ret ?_
  refine block_r ?_
  refine then_r ?_
  refine ret_F2 rfl k e6 e7 ?_
  exact ⟨rfl, rfl⟩
set_option maxRecDepth 100000 in
set_option maxHeartbeats 4000000 in
theorem cnew_arg {p mb n cap bm p' n' cap' bm' : Nat} {B B' : Option Addr} {S S' : List Sec} {L L' : Int → Option Sec} (sz : Int) (w : World) (h0 : DiscR p mb B n cap bm S L w) (h1 : DiscR p' mb B' n' cap' bm' S' L' w) (hx : ¬ (1 ≤ sz ∧ sz ≤ 8 ∧ sz ≤ n ∧ sz ≤ n')) : Calls Try.prog 49 #[.pointer (some ⟨p, 0, none⟩), .pointer (some ⟨p', 0, none⟩), .int .i64 sz] w fun e w' => e = .returned (.tuple #[.pointer none, .int .i64 1]) ∧ w = w' := by
  refine calls_F Try.func49 rfl 40 rfl (by rfl) ?_
  intro a1 k hargs
  have e0 : a1.eval (.tmp 0) = .pointer (some ⟨p, 0, none⟩) := hargs 0 _ rfl
  have e1 : a1.eval (.tmp 1) = .pointer (some ⟨p', 0, none⟩) := hargs 1 _ rfl
  have e2 : a1.eval (.tmp 2) = .int .i64 sz := hargs 2 _ rfl
  clear hargs
  refine wp_seq ?_
  refine wp_region_lit ?_
  have hE := Env.refl a1 [6, 7]
  apply sq_det 6 hE k rfl (by rfl) (by rfl) rfl
  case h =>
    exact x_assign rfl rfl
  intro a2 hE e6 kp
  apply sq_det 7 hE k rfl (by rfl) (by rfl) rfl
  case h =>
    exact x_assign rfl rfl
  intro a3 hE e7 kp
  refine wpList_nil ?_
  replace e0 := hE.eval 0 (by rfl) e0
  replace e1 := hE.eval 1 (by rfl) e1
  replace e2 := hE.eval 2 (by rfl) e2
  replace k := k.env hE
  clear hE e7
  refine then_n ?_
  refine wp_seq ?_
  refine wp_block ?_
  refine wp_seq ?_
  refine wp_region_lit ?_
  have hE := Env.refl a3 [9, 10, 11, 12, 13, 14, 8]
  apply sq_det 9 hE k rfl (by rfl) (by rfl) rfl
  case h =>
    exact x_move rfl (hE.eval 0 (by rfl) e0)
  intro a4 hE e9 kp
  apply sq_det 10 hE k rfl (by rfl) (by rfl) rfl
  case h =>
    simp [go_sem, ↓IntWalk.iteOmega, ev e9]
    with_reducible rfl
  intro a5 hE e10 kp
  apply sq_det 11 hE k rfl (by rfl) (by rfl) rfl
  case h =>
    exact x_move rfl e10
  intro a6 hE e11 kp
  apply sq_detg 12 hE k rfl (by rfl) (by rfl) rfl rfl e11
  case h =>
    exact x_move rfl (hE.eval 1 (by rfl) e1)
  intro a7 hE e12 kp
  replace e11 := (kp 11 rfl).trans e11
  apply sq_detg 13 hE k rfl (by rfl) (by rfl) rfl rfl e11
  case h =>
    simp [go_sem, ↓IntWalk.iteOmega, ev e12]
    with_reducible rfl
  intro a8 hE e13 kp
  replace e11 := (kp 11 rfl).trans e11
  apply sq_det 14 hE k rfl (by rfl) (by rfl) rfl
  case h =>
    exact x_pick_f rfl e11 e13
  intro a9 hE e14 kp
  apply sq_det 8 hE k rfl (by rfl) (by rfl) rfl
  case h =>
    exact x_assign rfl e14
  intro a10 hE e8 kp
  refine wpList_nil ?_
  replace e0 := hE.eval 0 (by rfl) e0
  replace e1 := hE.eval 1 (by rfl) e1
  replace e2 := hE.eval 2 (by rfl) e2
  replace k := k.env hE
  clear hE
  refine then_n ?_
  refine cond_f e8 rfl ?_
  by_cases hc0 : 1 ≤ sz
  rotate_left
  · skip
    refine wp_seq ?_
    refine wp_region_lit ?_
    have hE := Env.refl a10 [16, 17, 18, 19, 20, 21, 22, 23, 24, 25, 26, 27, 28, 29, 30, 31, 32, 33, 15]
    apply sq_det 16 hE k rfl (by rfl) (by rfl) rfl
    case h =>
      exact x_move rfl (hE.eval 2 (by rfl) e2)
    intro a11 hE e16 kp
    apply sq_det 17 hE k rfl (by rfl) (by rfl) rfl
    case h =>
      exact x_dec (x_lss rfl e16 rfl) (decide_eq_true (by omega))
    intro a12 hE e17 kp
    apply sq_det 18 hE k rfl (by rfl) (by rfl) rfl
    case h =>
      exact x_move rfl e17
    intro a13 hE e18 kp
    refine sq_skipg 19 hE k rfl (by rfl) (by rfl) rfl rfl (.inl e18) ?_
    intro a14 hE e19 kp
    replace e18 := (kp 18 rfl).trans e18
    refine sq_skipg 20 hE k rfl (by rfl) (by rfl) rfl rfl (.inl e18) ?_
    intro a15 hE e20 kp
    replace e18 := (kp 18 rfl).trans e18
    apply sq_det 21 hE k rfl (by rfl) (by rfl) rfl
    case h =>
      exact x_pick_t rfl e18 rfl
    intro a16 hE e21 kp
    apply sq_det 22 hE k rfl (by rfl) (by rfl) rfl
    case h =>
      exact x_move rfl e21
    intro a17 hE e22 kp
    refine sq_skipg 23 hE k rfl (by rfl) (by rfl) rfl rfl (.inl e22) ?_
    intro a18 hE e23 kp
    replace e22 := (kp 22 rfl).trans e22
    refine sq_skipg 24 hE k rfl (by rfl) (by rfl) rfl rfl (.inl e22) ?_
    intro a19 hE e24 kp
    replace e22 := (kp 22 rfl).trans e22
    refine sq_skipg 25 hE k rfl (by rfl) (by rfl) rfl rfl (.inl e22) ?_
    intro a20 hE e25 kp
    replace e22 := (kp 22 rfl).trans e22
    replace e24 := (kp 24 rfl).trans e24
    refine sq_skipg 26 hE k rfl (by rfl) (by rfl) rfl rfl (.inl e22) ?_
    intro a21 hE e26 kp
    replace e22 := (kp 22 rfl).trans e22
    apply sq_det 27 hE k rfl (by rfl) (by rfl) rfl
    case h =>
      exact x_pick_t rfl e22 rfl
    intro a22 hE e27 kp
    apply sq_det 28 hE k rfl (by rfl) (by rfl) rfl
    case h =>
      exact x_move rfl e27
    intro a23 hE e28 kp
    refine sq_skipg 29 hE k rfl (by rfl) (by rfl) rfl rfl (.inl e28) ?_
    intro a24 hE e29 kp
    replace e28 := (kp 28 rfl).trans e28
    refine sq_skipg 30 hE k rfl (by rfl) (by rfl) rfl rfl (.inl e28) ?_
    intro a25 hE e30 kp
    replace e28 := (kp 28 rfl).trans e28
    refine sq_skipg 31 hE k rfl (by rfl) (by rfl) rfl rfl (.inl e28) ?_
    intro a26 hE e31 kp
    replace e28 := (kp 28 rfl).trans e28
    replace e30 := (kp 30 rfl).trans e30
    refine sq_skipg 32 hE k rfl (by rfl) (by rfl) rfl rfl (.inl e28) ?_
    intro a27 hE e32 kp
    replace e28 := (kp 28 rfl).trans e28
    apply sq_det 33 hE k rfl (by rfl) (by rfl) rfl
    case h =>
      exact x_pick_t rfl e28 rfl
    intro a28 hE e33 kp
    apply sq_det 15 hE k rfl (by rfl) (by rfl) rfl
    case h =>
      exact x_assign rfl e33
    intro a29 hE e15 kp
    refine wpList_nil ?_
    replace e0 := hE.eval 0 (by rfl) e0
    replace e1 := hE.eval 1 (by rfl) e1
    replace e2 := hE.eval 2 (by rfl) e2
    replace k := k.env hE
    clear hE e8
    refine then_n ?_
    refine cond_t e15 rfl ?_
    refine wp_seq ?_
    refine wp_region_lit ?_
    have hE := Env.refl a29 [6, 7]
    apply sq_det 6 hE k rfl (by rfl) (by rfl) rfl
    case h =>
      exact x_assign rfl rfl
    intro a30 hE e6 kp
    apply sq_det 7 hE k rfl (by rfl) (by rfl) rfl
    case h =>
      exact x_assign rfl rfl
    intro a31 hE e7 kp
    replace e6 := (kp 6 rfl).trans e6
    refine wpList_nil ?_
    replace k := k.env hE
    clear hE e0 e1 e2 e15
    refine then_n ?_
    refine wp_ret ?_
    refine block_r ?_
    refine then_r ?_
    refine ret_F2 rfl k e6 e7 ?_
    exact ⟨rfl, rfl⟩
  by_cases hc1 : sz ≤ 8
  rotate_left
  · skip
    refine wp_seq ?_
    refine wp_region_lit ?_
    have hE := Env.refl a10 [16, 17, 18, 19, 20, 21, 22, 23, 24, 25, 26, 27, 28, 29, 30, 31, 32, 33, 15]
    apply sq_det 16 hE k rfl (by rfl) (by rfl) rfl
    case h =>
      exact x_move rfl (hE.eval 2 (by rfl) e2)
    intro a32 hE e16 kp
    apply sq_det 17 hE k rfl (by rfl) (by rfl) rfl
    case h =>
      exact x_dec (x_lss rfl e16 rfl) (decide_eq_false (by omega))
    intro a33 hE e17 kp
    apply sq_det 18 hE k rfl (by rfl) (by rfl) rfl
    case h =>
      exact x_move rfl e17
    intro a34 hE e18 kp
    apply sq_detg 19 hE k rfl (by rfl) (by rfl) rfl rfl e18
    case h =>
      exact x_move rfl (hE.eval 2 (by rfl) e2)
    intro a35 hE e19 kp
    replace e18 := (kp 18 rfl).trans e18
    apply sq_detg 20 hE k rfl (by rfl) (by rfl) rfl rfl e18
    case h =>
      exact x_dec (x_gtr rfl e19 rfl) (decide_eq_true (by omega))
    intro a36 hE e20 kp
    replace e18 := (kp 18 rfl).trans e18
    apply sq_det 21 hE k rfl (by rfl) (by rfl) rfl
    case h =>
      exact x_pick_f rfl e18 e20
    intro a37 hE e21 kp
    apply sq_det 22 hE k rfl (by rfl) (by rfl) rfl
    case h =>
      exact x_move rfl e21
    intro a38 hE e22 kp
    refine sq_skipg 23 hE k rfl (by rfl) (by rfl) rfl rfl (.inl e22) ?_
    intro a39 hE e23 kp
    replace e22 := (kp 22 rfl).trans e22
    refine sq_skipg 24 hE k rfl (by rfl) (by rfl) rfl rfl (.inl e22) ?_
    intro a40 hE e24 kp
    replace e22 := (kp 22 rfl).trans e22
    refine sq_skipg 25 hE k rfl (by rfl) (by rfl) rfl rfl (.inl e22) ?_
    intro a41 hE e25 kp
    replace e22 := (kp 22 rfl).trans e22
    replace e24 := (kp 24 rfl).trans e24
    refine sq_skipg 26 hE k rfl (by rfl) (by rfl) rfl rfl (.inl e22) ?_
    intro a42 hE e26 kp
    replace e22 := (kp 22 rfl).trans e22
    apply sq_det 27 hE k rfl (by rfl) (by rfl) rfl
    case h =>
      exact x_pick_t rfl e22 rfl
    intro a43 hE e27 kp
    apply sq_det 28 hE k rfl (by rfl) (by rfl) rfl
    case h =>
      exact x_move rfl e27
    intro a44 hE e28 kp
    refine sq_skipg 29 hE k rfl (by rfl) (by rfl) rfl rfl (.inl e28) ?_
    intro a45 hE e29 kp
    replace e28 := (kp 28 rfl).trans e28
    refine sq_skipg 30 hE k rfl (by rfl) (by rfl) rfl rfl (.inl e28) ?_
    intro a46 hE e30 kp
    replace e28 := (kp 28 rfl).trans e28
    refine sq_skipg 31 hE k rfl (by rfl) (by rfl) rfl rfl (.inl e28) ?_
    intro a47 hE e31 kp
    replace e28 := (kp 28 rfl).trans e28
    replace e30 := (kp 30 rfl).trans e30
    refine sq_skipg 32 hE k rfl (by rfl) (by rfl) rfl rfl (.inl e28) ?_
    intro a48 hE e32 kp
    replace e28 := (kp 28 rfl).trans e28
    apply sq_det 33 hE k rfl (by rfl) (by rfl) rfl
    case h =>
      exact x_pick_t rfl e28 rfl
    intro a49 hE e33 kp
    apply sq_det 15 hE k rfl (by rfl) (by rfl) rfl
    case h =>
      exact x_assign rfl e33
    intro a50 hE e15 kp
    refine wpList_nil ?_
    replace e0 := hE.eval 0 (by rfl) e0
    replace e1 := hE.eval 1 (by rfl) e1
    replace e2 := hE.eval 2 (by rfl) e2
    replace k := k.env hE
    clear hE e8
    refine then_n ?_
    refine cond_t e15 rfl ?_
    refine wp_seq ?_
    refine wp_region_lit ?_
    have hE := Env.refl a50 [6, 7]
    apply sq_det 6 hE k rfl (by rfl) (by rfl) rfl
    case h =>
      exact x_assign rfl rfl
    intro a51 hE e6 kp
    apply sq_det 7 hE k rfl (by rfl) (by rfl) rfl
    case h =>
      exact x_assign rfl rfl
    intro a52 hE e7 kp
    replace e6 := (kp 6 rfl).trans e6
    refine wpList_nil ?_
    replace k := k.env hE
    clear hE e0 e1 e2 e15
    refine then_n ?_
    refine wp_ret ?_
    refine block_r ?_
    refine then_r ?_
    refine ret_F2 rfl k e6 e7 ?_
    exact ⟨rfl, rfl⟩
  by_cases hc2 : sz ≤ n
  rotate_left
  · skip
    refine wp_seq ?_
    refine wp_region_lit ?_
    have hE := Env.refl a10 [16, 17, 18, 19, 20, 21, 22, 23, 24, 25, 26, 27, 28, 29, 30, 31, 32, 33, 15]
    apply sq_det 16 hE k rfl (by rfl) (by rfl) rfl
    case h =>
      exact x_move rfl (hE.eval 2 (by rfl) e2)
    intro a53 hE e16 kp
    apply sq_det 17 hE k rfl (by rfl) (by rfl) rfl
    case h =>
      exact x_dec (x_lss rfl e16 rfl) (decide_eq_false (by omega))
    intro a54 hE e17 kp
    apply sq_det 18 hE k rfl (by rfl) (by rfl) rfl
    case h =>
      exact x_move rfl e17
    intro a55 hE e18 kp
    apply sq_detg 19 hE k rfl (by rfl) (by rfl) rfl rfl e18
    case h =>
      exact x_move rfl (hE.eval 2 (by rfl) e2)
    intro a56 hE e19 kp
    replace e18 := (kp 18 rfl).trans e18
    apply sq_detg 20 hE k rfl (by rfl) (by rfl) rfl rfl e18
    case h =>
      exact x_dec (x_gtr rfl e19 rfl) (decide_eq_false (by omega))
    intro a57 hE e20 kp
    replace e18 := (kp 18 rfl).trans e18
    apply sq_det 21 hE k rfl (by rfl) (by rfl) rfl
    case h =>
      exact x_pick_f rfl e18 e20
    intro a58 hE e21 kp
    apply sq_det 22 hE k rfl (by rfl) (by rfl) rfl
    case h =>
      exact x_move rfl e21
    intro a59 hE e22 kp
    apply sq_detg 23 hE k rfl (by rfl) (by rfl) rfl rfl e22
    case h =>
      exact x_move rfl (hE.eval 0 (by rfl) e0)
    intro a60 hE e23 kp
    replace e22 := (kp 22 rfl).trans e22
    apply sq_callg 24 hE k rfl (by rfl) (by rfl) rfl rfl e22
    case h =>
      simp [go_sem, ↓IntWalk.iteOmega, ev e23]
      with_reducible exact ⟨rfl, rfl⟩
    case hc => exact dlen_any _ h0
    rintro e _ ⟨rfl, rfl⟩
    refine ⟨_, rfl, ?_⟩
    intro a61 hE e24 kp
    replace e22 := (kp 22 rfl).trans e22
    apply sq_detg 25 hE k rfl (by rfl) (by rfl) rfl rfl e22
    case h =>
      exact x_move rfl (hE.eval 2 (by rfl) e2)
    intro a62 hE e25 kp
    replace e22 := (kp 22 rfl).trans e22
    replace e24 := (kp 24 rfl).trans e24
    apply sq_detg 26 hE k rfl (by rfl) (by rfl) rfl rfl e22
    case h =>
      exact x_dec (x_lss rfl e24 e25) (decide_eq_true (by omega))
    intro a63 hE e26 kp
    replace e22 := (kp 22 rfl).trans e22
    apply sq_det 27 hE k rfl (by rfl) (by rfl) rfl
    case h =>
      exact x_pick_f rfl e22 e26
    intro a64 hE e27 kp
    apply sq_det 28 hE k rfl (by rfl) (by rfl) rfl
    case h =>
      exact x_move rfl e27
    intro a65 hE e28 kp
    refine sq_skipg 29 hE k rfl (by rfl) (by rfl) rfl rfl (.inl e28) ?_
    intro a66 hE e29 kp
    replace e28 := (kp 28 rfl).trans e28
    refine sq_skipg 30 hE k rfl (by rfl) (by rfl) rfl rfl (.inl e28) ?_
    intro a67 hE e30 kp
    replace e28 := (kp 28 rfl).trans e28
    refine sq_skipg 31 hE k rfl (by rfl) (by rfl) rfl rfl (.inl e28) ?_
    intro a68 hE e31 kp
    replace e28 := (kp 28 rfl).trans e28
    replace e30 := (kp 30 rfl).trans e30
    refine sq_skipg 32 hE k rfl (by rfl) (by rfl) rfl rfl (.inl e28) ?_
    intro a69 hE e32 kp
    replace e28 := (kp 28 rfl).trans e28
    apply sq_det 33 hE k rfl (by rfl) (by rfl) rfl
    case h =>
      exact x_pick_t rfl e28 rfl
    intro a70 hE e33 kp
    apply sq_det 15 hE k rfl (by rfl) (by rfl) rfl
    case h =>
      exact x_assign rfl e33
    intro a71 hE e15 kp
    refine wpList_nil ?_
    replace e0 := hE.eval 0 (by rfl) e0
    replace e1 := hE.eval 1 (by rfl) e1
    replace e2 := hE.eval 2 (by rfl) e2
    replace k := k.env hE
    clear hE e8
    refine then_n ?_
    refine cond_t e15 rfl ?_
    refine wp_seq ?_
    refine wp_region_lit ?_
    have hE := Env.refl a71 [6, 7]
    apply sq_det 6 hE k rfl (by rfl) (by rfl) rfl
    case h =>
      exact x_assign rfl rfl
    intro a72 hE e6 kp
    apply sq_det 7 hE k rfl (by rfl) (by rfl) rfl
    case h =>
      exact x_assign rfl rfl
    intro a73 hE e7 kp
    replace e6 := (kp 6 rfl).trans e6
    refine wpList_nil ?_
    replace k := k.env hE
    clear hE e0 e1 e2 e15
    refine then_n ?_
    refine wp_ret ?_
    refine block_r ?_
    refine then_r ?_
    refine ret_F2 rfl k e6 e7 ?_
    exact ⟨rfl, rfl⟩
  refine wp_seq ?_
  refine wp_region_lit ?_
  have hE := Env.refl a10 [16, 17, 18, 19, 20, 21, 22, 23, 24, 25, 26, 27, 28, 29, 30, 31, 32, 33, 15]
  apply sq_det 16 hE k rfl (by rfl) (by rfl) rfl
  case h =>
    exact x_move rfl (hE.eval 2 (by rfl) e2)
  intro a74 hE e16 kp
  apply sq_det 17 hE k rfl (by rfl) (by rfl) rfl
  case h =>
    exact x_dec (x_lss rfl e16 rfl) (decide_eq_false (by omega))
  intro a75 hE e17 kp
  apply sq_det 18 hE k rfl (by rfl) (by rfl) rfl
  case h =>
    exact x_move rfl e17
  intro a76 hE e18 kp
  apply sq_detg 19 hE k rfl (by rfl) (by rfl) rfl rfl e18
  case h =>
    exact x_move rfl (hE.eval 2 (by rfl) e2)
  intro a77 hE e19 kp
  replace e18 := (kp 18 rfl).trans e18
  apply sq_detg 20 hE k rfl (by rfl) (by rfl) rfl rfl e18
  case h =>
    exact x_dec (x_gtr rfl e19 rfl) (decide_eq_false (by omega))
  intro a78 hE e20 kp
  replace e18 := (kp 18 rfl).trans e18
  apply sq_det 21 hE k rfl (by rfl) (by rfl) rfl
  case h =>
    exact x_pick_f rfl e18 e20
  intro a79 hE e21 kp
  apply sq_det 22 hE k rfl (by rfl) (by rfl) rfl
  case h =>
    exact x_move rfl e21
  intro a80 hE e22 kp
  apply sq_detg 23 hE k rfl (by rfl) (by rfl) rfl rfl e22
  case h =>
    exact x_move rfl (hE.eval 0 (by rfl) e0)
  intro a81 hE e23 kp
  replace e22 := (kp 22 rfl).trans e22
  apply sq_callg 24 hE k rfl (by rfl) (by rfl) rfl rfl e22
  case h =>
    simp [go_sem, ↓IntWalk.iteOmega, ev e23]
    with_reducible exact ⟨rfl, rfl⟩
  case hc => exact dlen_any _ h0
  rintro e _ ⟨rfl, rfl⟩
  refine ⟨_, rfl, ?_⟩
  intro a82 hE e24 kp
  replace e22 := (kp 22 rfl).trans e22
  apply sq_detg 25 hE k rfl (by rfl) (by rfl) rfl rfl e22
  case h =>
    exact x_move rfl (hE.eval 2 (by rfl) e2)
  intro a83 hE e25 kp
  replace e22 := (kp 22 rfl).trans e22
  replace e24 := (kp 24 rfl).trans e24
  apply sq_detg 26 hE k rfl (by rfl) (by rfl) rfl rfl e22
  case h =>
    exact x_dec (x_lss rfl e24 e25) (decide_eq_false (by omega))
  intro a84 hE e26 kp
  replace e22 := (kp 22 rfl).trans e22
  apply sq_det 27 hE k rfl (by rfl) (by rfl) rfl
  case h =>
    exact x_pick_f rfl e22 e26
  intro a85 hE e27 kp
  apply sq_det 28 hE k rfl (by rfl) (by rfl) rfl
  case h =>
    exact x_move rfl e27
  intro a86 hE e28 kp
  apply sq_detg 29 hE k rfl (by rfl) (by rfl) rfl rfl e28
  case h =>
    exact x_move rfl (hE.eval 1 (by rfl) e1)
  intro a87 hE e29 kp
  replace e28 := (kp 28 rfl).trans e28
  apply sq_callg 30 hE k rfl (by rfl) (by rfl) rfl rfl e28
  case h =>
    simp [go_sem, ↓IntWalk.iteOmega, ev e29]
    with_reducible exact ⟨rfl, rfl⟩
  case hc => exact dlen_any _ h1
  rintro e _ ⟨rfl, rfl⟩
  refine ⟨_, rfl, ?_⟩
  intro a88 hE e30 kp
  replace e28 := (kp 28 rfl).trans e28
  apply sq_detg 31 hE k rfl (by rfl) (by rfl) rfl rfl e28
  case h =>
    exact x_move rfl (hE.eval 2 (by rfl) e2)
  intro a89 hE e31 kp
  replace e28 := (kp 28 rfl).trans e28
  replace e30 := (kp 30 rfl).trans e30
  apply sq_detg 32 hE k rfl (by rfl) (by rfl) rfl rfl e28
  case h =>
    exact x_dec (x_lss rfl e30 e31) (decide_eq_true (by omega))
  intro a90 hE e32 kp
  replace e28 := (kp 28 rfl).trans e28
  apply sq_det 33 hE k rfl (by rfl) (by rfl) rfl
  case h =>
    exact x_pick_f rfl e28 e32
  intro a91 hE e33 kp
  apply sq_det 15 hE k rfl (by rfl) (by rfl) rfl
  case h =>
    exact x_assign rfl e33
  intro a92 hE e15 kp
  refine wpList_nil ?_
  replace e0 := hE.eval 0 (by rfl) e0
  replace e1 := hE.eval 1 (by rfl) e1
  replace e2 := hE.eval 2 (by rfl) e2
  replace k := k.env hE
  clear hE e8
  refine then_n ?_
  refine cond_t e15 rfl ?_
  refine wp_seq ?_
  refine wp_region_lit ?_
  have hE := Env.refl a92 [6, 7]
  apply sq_det 6 hE k rfl (by rfl) (by rfl) rfl
  case h =>
    exact x_assign rfl rfl
  intro a93 hE e6 kp
  apply sq_det 7 hE k rfl (by rfl) (by rfl) rfl
  case h =>
    exact x_assign rfl rfl
  intro a94 hE e7 kp
  replace e6 := (kp 6 rfl).trans e6
  refine wpList_nil ?_
  replace k := k.env hE
  clear hE e0 e1 e2 e15
  refine then_n ?_
  refine wp_ret ?_
  refine block_r ?_
  refine then_r ?_
  refine ret_F2 rfl k e6 e7 ?_
  exact ⟨rfl, rfl⟩
set_option maxRecDepth 100000 in
set_option maxHeartbeats 4000000 in
theorem cnew_ok {H : Nat} {A0 : World} {R : List Thing} {p mb n cap bm p' n' cap' bm' : Nat} {B B' : Option Addr} {S S' : List Sec} {L L' : Int → Option Sec} (sz : Nat) (w : World) (O : OwnT H A0 R w) (h0 : DiscR p mb B n cap bm S L w) (h1 : DiscR p' mb B' n' cap' bm' S' L' w) (hx : 1 ≤ sz ∧ sz ≤ 8 ∧ sz ≤ n ∧ sz ≤ n') : Calls Try.prog 49 #[.pointer (some ⟨p, 0, none⟩), .pointer (some ⟨p', 0, none⟩), .int .i64 sz] w fun e w' => ∃ db, e = .returned (.tuple #[.pointer (some ⟨db, 0, none⟩), .int .i64 0]) ∧ OwnT H A0 (tBlk db 149 #[.pointer (some ⟨p, 0, none⟩), .pointer (some ⟨p', 0, none⟩), .int .i64 ↑sz] :: R) w' := by
  refine calls_F Try.func49 rfl 40 rfl (by rfl) ?_
  intro a1 k hargs
  have e0 : a1.eval (.tmp 0) = .pointer (some ⟨p, 0, none⟩) := hargs 0 _ rfl
  have e1 : a1.eval (.tmp 1) = .pointer (some ⟨p', 0, none⟩) := hargs 1 _ rfl
  have e2 : a1.eval (.tmp 2) = .int .i64 ↑sz := hargs 2 _ rfl
  clear hargs
  refine wp_seq ?_
  refine wp_region_lit ?_
  have hE := Env.refl a1 [6, 7]
  apply sq_det 6 hE k rfl (by rfl) (by rfl) rfl
  case h =>
    exact x_assign rfl rfl
  intro a2 hE e6 kp
  apply sq_det 7 hE k rfl (by rfl) (by rfl) rfl
  case h =>
    exact x_assign rfl rfl
  intro a3 hE e7 kp
  refine wpList_nil ?_
  replace e0 := hE.eval 0 (by rfl) e0
  replace e1 := hE.eval 1 (by rfl) e1
  replace e2 := hE.eval 2 (by rfl) e2
  replace k := k.env hE
  clear hE e7
  refine then_n ?_
  refine wp_seq ?_
  refine wp_block ?_
  refine wp_seq ?_
  refine wp_region_lit ?_
  have hE := Env.refl a3 [9, 10, 11, 12, 13, 14, 8]
  apply sq_det 9 hE k rfl (by rfl) (by rfl) rfl
  case h =>
    exact x_move rfl (hE.eval 0 (by rfl) e0)
  intro a4 hE e9 kp
  apply sq_det 10 hE k rfl (by rfl) (by rfl) rfl
  case h =>
    simp [go_sem, ↓IntWalk.iteOmega, ev e9]
    with_reducible rfl
  intro a5 hE e10 kp
  apply sq_det 11 hE k rfl (by rfl) (by rfl) rfl
  case h =>
    exact x_move rfl e10
  intro a6 hE e11 kp
  apply sq_detg 12 hE k rfl (by rfl) (by rfl) rfl rfl e11
  case h =>
    exact x_move rfl (hE.eval 1 (by rfl) e1)
  intro a7 hE e12 kp
  replace e11 := (kp 11 rfl).trans e11
  apply sq_detg 13 hE k rfl (by rfl) (by rfl) rfl rfl e11
  case h =>
    simp [go_sem, ↓IntWalk.iteOmega, ev e12]
    with_reducible rfl
  intro a8 hE e13 kp
  replace e11 := (kp 11 rfl).trans e11
  apply sq_det 14 hE k rfl (by rfl) (by rfl) rfl
  case h =>
    exact x_pick_f rfl e11 e13
  intro a9 hE e14 kp
  apply sq_det 8 hE k rfl (by rfl) (by rfl) rfl
  case h =>
    exact x_assign rfl e14
  intro a10 hE e8 kp
  refine wpList_nil ?_
  replace e0 := hE.eval 0 (by rfl) e0
  replace e1 := hE.eval 1 (by rfl) e1
  replace e2 := hE.eval 2 (by rfl) e2
  replace k := k.env hE
  clear hE
  refine then_n ?_
  refine cond_f e8 rfl ?_
  refine wp_seq ?_
  refine wp_region_lit ?_
  have hE := Env.refl a10 [16, 17, 18, 19, 20, 21, 22, 23, 24, 25, 26, 27, 28, 29, 30, 31, 32, 33, 15]
  apply sq_det 16 hE k rfl (by rfl) (by rfl) rfl
  case h =>
    exact x_move rfl (hE.eval 2 (by rfl) e2)
  intro a11 hE e16 kp
  apply sq_det 17 hE k rfl (by rfl) (by rfl) rfl
  case h =>
    exact x_dec (x_lss rfl e16 rfl) (decide_eq_false (by omega))
  intro a12 hE e17 kp
  apply sq_det 18 hE k rfl (by rfl) (by rfl) rfl
  case h =>
    exact x_move rfl e17
  intro a13 hE e18 kp
  apply sq_detg 19 hE k rfl (by rfl) (by rfl) rfl rfl e18
  case h =>
    exact x_move rfl (hE.eval 2 (by rfl) e2)
  intro a14 hE e19 kp
  replace e18 := (kp 18 rfl).trans e18
  apply sq_detg 20 hE k rfl (by rfl) (by rfl) rfl rfl e18
  case h =>
    exact x_dec (x_gtr rfl e19 rfl) (decide_eq_false (by omega))
  intro a15 hE e20 kp
  replace e18 := (kp 18 rfl).trans e18
  apply sq_det 21 hE k rfl (by rfl) (by rfl) rfl
  case h =>
    exact x_pick_f rfl e18 e20
  intro a16 hE e21 kp
  apply sq_det 22 hE k rfl (by rfl) (by rfl) rfl
  case h =>
    exact x_move rfl e21
  intro a17 hE e22 kp
  apply sq_detg 23 hE k rfl (by rfl) (by rfl) rfl rfl e22
  case h =>
    exact x_move rfl (hE.eval 0 (by rfl) e0)
  intro a18 hE e23 kp
  replace e22 := (kp 22 rfl).trans e22
  apply sq_callg 24 hE k rfl (by rfl) (by rfl) rfl rfl e22
  case h =>
    simp [go_sem, ↓IntWalk.iteOmega, ev e23]
    with_reducible exact ⟨rfl, rfl⟩
  case hc => exact dlen_any _ h0
  rintro e _ ⟨rfl, rfl⟩
  refine ⟨_, rfl, ?_⟩
  intro a19 hE e24 kp
  replace e22 := (kp 22 rfl).trans e22
  apply sq_detg 25 hE k rfl (by rfl) (by rfl) rfl rfl e22
  case h =>
    exact x_move rfl (hE.eval 2 (by rfl) e2)
  intro a20 hE e25 kp
  replace e22 := (kp 22 rfl).trans e22
  replace e24 := (kp 24 rfl).trans e24
  apply sq_detg 26 hE k rfl (by rfl) (by rfl) rfl rfl e22
  case h =>
    exact x_dec (x_lss rfl e24 e25) (decide_eq_false (by omega))
  intro a21 hE e26 kp
  replace e22 := (kp 22 rfl).trans e22
  apply sq_det 27 hE k rfl (by rfl) (by rfl) rfl
  case h =>
    exact x_pick_f rfl e22 e26
  intro a22 hE e27 kp
  apply sq_det 28 hE k rfl (by rfl) (by rfl) rfl
  case h =>
    exact x_move rfl e27
  intro a23 hE e28 kp
  apply sq_detg 29 hE k rfl (by rfl) (by rfl) rfl rfl e28
  case h =>
    exact x_move rfl (hE.eval 1 (by rfl) e1)
  intro a24 hE e29 kp
  replace e28 := (kp 28 rfl).trans e28
  apply sq_callg 30 hE k rfl (by rfl) (by rfl) rfl rfl e28
  case h =>
    simp [go_sem, ↓IntWalk.iteOmega, ev e29]
    with_reducible exact ⟨rfl, rfl⟩
  case hc => exact dlen_any _ h1
  rintro e _ ⟨rfl, rfl⟩
  refine ⟨_, rfl, ?_⟩
  intro a25 hE e30 kp
  replace e28 := (kp 28 rfl).trans e28
  apply sq_detg 31 hE k rfl (by rfl) (by rfl) rfl rfl e28
  case h =>
    exact x_move rfl (hE.eval 2 (by rfl) e2)
  intro a26 hE e31 kp
  replace e28 := (kp 28 rfl).trans e28
  replace e30 := (kp 30 rfl).trans e30
  apply sq_detg 32 hE k rfl (by rfl) (by rfl) rfl rfl e28
  case h =>
    exact x_dec (x_lss rfl e30 e31) (decide_eq_false (by omega))
  intro a27 hE e32 kp
  replace e28 := (kp 28 rfl).trans e28
  apply sq_det 33 hE k rfl (by rfl) (by rfl) rfl
  case h =>
    exact x_pick_f rfl e28 e32
  intro a28 hE e33 kp
  apply sq_det 15 hE k rfl (by rfl) (by rfl) rfl
  case h =>
    exact x_assign rfl e33
  intro a29 hE e15 kp
  refine wpList_nil ?_
  replace e0 := hE.eval 0 (by rfl) e0
  replace e1 := hE.eval 1 (by rfl) e1
  replace e2 := hE.eval 2 (by rfl) e2
  replace k := k.env hE
  clear hE e8
  refine then_n ?_
  refine cond_f e15 rfl ?_
  refine wp_skip ?_
  refine block_n ?_
  refine then_n ?_
  refine wp_seq ?_
  refine wp_region_lit ?_
  have hE := Env.refl a29 [34, 35, 36, 37, 38, 39, 6, 7]
  apply sq_det 34 hE k rfl (by rfl) (by rfl) rfl
  case h =>
    exact x_move rfl (hE.eval 0 (by rfl) e0)
  intro a30 hE e34 kp
  apply sq_det 35 hE k rfl (by rfl) (by rfl) rfl
  case h =>
    exact x_move rfl (hE.eval 1 (by rfl) e1)
  intro a31 hE e35 kp
  replace e34 := (kp 34 rfl).trans e34
  apply sq_det 36 hE k rfl (by rfl) (by rfl) rfl
  case h =>
    simp [go_sem, ↓IntWalk.iteOmega, ev e34, ev e35]
    with_reducible rfl
  intro a32 hE e36 kp
  apply sq_det 37 hE k rfl (by rfl) (by rfl) rfl
  case h =>
    exact x_move rfl (hE.eval 2 (by rfl) e2)
  intro a33 hE e37 kp
  replace e36 := (kp 36 rfl).trans e36
  apply sq_det 38 hE k rfl (by rfl) (by rfl) rfl
  case h =>
    simp [go_sem, ↓IntWalk.iteOmega, ev e36, ev e37]
    with_reducible rfl
  intro a34 hE e38 kp
  refine sq_new O (cs := #[.pointer (some ⟨p, 0, none⟩), .pointer (some ⟨p', 0, none⟩), .int .i64 ↑sz]) (t := 149) 39 hE k rfl (by rfl) (by rfl) rfl (by simp [go_sem, ↓IntWalk.iteOmega, ev e38]) ?_
  clear O
  intro db a35 w36 O hE e39 kp
  apply sq_det 6 hE k rfl (by rfl) (by rfl) rfl
  case h =>
    exact x_assign rfl e39
  intro a37 hE e6 kp
  apply sq_det 7 hE k rfl (by rfl) (by rfl) rfl
  case h =>
    exact x_assign rfl rfl
  intro a38 hE e7 kp
  replace e6 := (kp 6 rfl).trans e6
  refine wpList_nil ?_
  replace k := k.env hE
  clear hE e0 e1 e2 e15
  refine then_n ?_
  refine wp_ret ?_
  refine ret_F2 rfl k e6 e7 ?_
  exact ⟨db, rfl, O⟩
end Go.Proofs.Ytdpohbaeopidmaa
