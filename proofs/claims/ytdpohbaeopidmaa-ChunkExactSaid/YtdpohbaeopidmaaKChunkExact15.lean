/- disc's law: sector; the reference's Zeros (printed by XFillA.gen.py). -/
import Derived.Test.YtdpohbaeopidmaaKChunkExact14
import Derived.Test.YtdpohbaeopidmaaKChunkExact13
namespace Go.Proofs.Ytdpohbaeopidmaa
attribute [local simp] BigFrame.eval_const BigFrame.eval_global BigFrame.eval_func
set_option linter.unusedVariables false
set_option linter.unusedSimpArgs false
open Go.RowKit

set_option maxRecDepth 100000 in
set_option maxHeartbeats 4000000 in
theorem sector_any (b : UInt8)  (W0 : World) : Calls Try.prog 40 #[.int .u8 ↑b.toNat] W0 fun e w' => e = .returned (.string (sB (List.replicate (16) b))) ∧ Ext W0 w' := by
  have O := OwnT.start W0
  obtain ⟨N, hN⟩ : ∃ N : Nat, 16 = N := ⟨_, rfl⟩
  have hN2 : N ≤ 10000000 := by omega
  rw [hN]
  obtain ⟨g, w9, hmk, hrow, hE9⟩ := mk_bytes W0 N hN2
  refine calls_F Try.func40 rfl 18 rfl (by rfl) ?_
  intro a1 k hargs
  have e0 : a1.eval (.tmp 0) = .int .u8 ↑b.toNat := hargs 0 _ rfl
  clear hargs
  refine wp_seq ?_
  refine wp_region_lit ?_
  have hE := Env.refl a1 [2]
  apply sq_det 2 hE k rfl (by rfl) (by rfl) rfl
  case h =>
    exact x_assign rfl rfl
  intro a2 hE e2 kp
  refine wpList_nil ?_
  replace e0 := hE.eval 0 (by rfl) e0
  replace k := k.env hE
  clear hE e2
  refine then_n ?_
  refine wp_seq ?_
  refine wp_region_lit ?_
  have hE := Env.refl a2 [5, 3]
  apply sq_val 5 hE k rfl (by rfl) (by rfl) rfl
  case h =>
    exact x_make rfl (congrArg (fun z : Nat => Value.int .i64 z) hN) (congrArg (fun z : Nat => Value.int .i64 z) hN) hmk
  intro a3 hE e5 kp
  replace O := OwnT.newRow O hE9 hrow
  clear hmk hrow hE9
  apply sq_det 3 hE k rfl (by rfl) (by rfl) rfl
  case h =>
    exact x_assign rfl e5
  intro a4 hE e3 kp
  refine wpList_nil ?_
  replace e0 := hE.eval 0 (by rfl) e0
  replace k := k.env hE
  clear hE
  refine then_n ?_
  refine wp_seq ?_
  refine wp_seq ?_
  refine wp_region_lit ?_
  have hE := Env.refl a4 [4]
  apply sq_det 4 hE k rfl (by rfl) (by rfl) rfl
  case h =>
    exact x_assign rfl rfl
  intro a5 hE e4 kp
  refine wpList_nil ?_
  replace e0 := hE.eval 0 (by rfl) e0
  replace e3 := hE.eval 3 (by rfl) e3
  replace k := k.env hE
  clear hE
  refine then_n ?_
  refine wp_block ?_
  refine wp_loop (fun a w => Fr 18 a ∧ a.eval (.tmp 0) = .int .u8 ↑b.toNat ∧ a.eval (.tmp 3) = .slice (some ⟨g, 0, none⟩) N N ∧ ∃ j : Nat, a.eval (.tmp 4) = .int .i64 ↑j ∧ j ≤ N ∧ OwnT W0.heap.size W0 [tRow 5 1 (.slice (some ⟨g, 0, none⟩) N N) N (fillC b N j)] w) (fun a w => N - (intOf (a.eval (.tmp 4))).toNat) ?_ ?_
  · exact ⟨k, e0, e3, 0, e4, Nat.zero_le _, (by rw [fillC_zero]; exact O)⟩
  intro a6 w7 hI
  clear k e0 e3
  obtain ⟨k, e0, e3, h_⟩ := hI
  clear O e4
  obtain ⟨j, e4, hj, O⟩ := h_
  have mc := e4
  refine wp_seq ?_
  refine wp_seq ?_
  refine wp_region_lit ?_
  have hE := Env.refl a6 [6, 7, 8, 9]
  apply sq_det 6 hE k rfl (by rfl) (by rfl) rfl
  case h =>
    exact x_move rfl (hE.eval 4 (by rfl) e4)
  intro a8 hE e6 kp
  apply sq_det 7 hE k rfl (by rfl) (by rfl) rfl
  case h =>
    exact x_move rfl (hE.eval 3 (by rfl) e3)
  intro a9 hE e7 kp
  replace e6 := (kp 6 rfl).trans e6
  apply sq_det 8 hE k rfl (by rfl) (by rfl) rfl
  case h =>
    exact x_len Try.underlying66 rfl e7
  intro a10 hE e8 kp
  replace e6 := (kp 6 rfl).trans e6
  apply sq_det 9 hE k rfl (by rfl) (by rfl) rfl
  case h =>
    exact x_lss rfl e6 e8
  intro a11 hE e9 kp
  refine wpList_nil ?_
  replace e0 := hE.eval 0 (by rfl) e0
  replace e3 := hE.eval 3 (by rfl) e3
  replace e4 := hE.eval 4 (by rfl) e4
  replace k := k.env hE
  clear hE
  refine then_n ?_
  by_cases hlt : j < N
  · have hltI : (j : Int) < (N : Int) := by omega
    refine cond_t e9 (congrArg Value.bool (decide_eq_true (by omega))) ?_
    clear e9
    obtain ⟨hc, hfz⟩ := row1_cell (OwnT.get O 0 rfl) (i := j) (List.getElem?_eq_getElem (by rw [fillC_len hj]; exact hlt))
    refine wp_skip ?_
    refine then_n ?_
    refine wp_seq ?_
    refine wp_block ?_
    refine wp_region_lit ?_
    have hE := Env.refl a11 [12, 13, 14, 15]
    apply sq_det 12 hE k rfl (by rfl) (by rfl) rfl
    case h =>
      exact x_move rfl (hE.eval 3 (by rfl) e3)
    intro a12 hE e12 kp
    apply sq_det 13 hE k rfl (by rfl) (by rfl) rfl
    case h =>
      exact x_move rfl (hE.eval 4 (by rfl) e4)
    intro a13 hE e13 kp
    replace e12 := (kp 12 rfl).trans e12
    apply sq_det 14 hE k rfl (by rfl) (by rfl) rfl
    case h =>
      exact x_move rfl (hE.eval 0 (by rfl) e0)
    intro a14 hE e14 kp
    replace e12 := (kp 12 rfl).trans e12
    replace e13 := (kp 13 rfl).trans e13
    apply sq_det 15 hE k rfl (by rfl) (by rfl) rfl
    case h =>
      simp [go_sem, ↓IntWalk.iteOmega, ev e12, ev e13]
      with_reducible rfl
    intro a15 hE e15 kp
    replace e14 := (kp 14 rfl).trans e14
    refine sq_unit (w' := (w7.setCell ⟨g, j, none⟩ (u8V b))) hE rfl rfl ?_ ?_
    · simp [go_sem, ↓IntWalk.iteOmega, ev e15, ev e14, hc, hfz, u8V]
    replace O := OwnT.setRow1 O (i := j) hlt (u8V b)
    clear hc hfz
    rw [fillC_set hlt] at O
    generalize (w7.setCell ⟨g, j, none⟩ (u8V b)) = w16 at O ⊢
    refine wpList_nil ?_
    replace e0 := hE.eval 0 (by rfl) e0
    replace e3 := hE.eval 3 (by rfl) e3
    replace e4 := hE.eval 4 (by rfl) e4
    replace k := k.env hE
    clear hE e14 e15
    refine block_n ?_
    refine then_n ?_
    refine wp_region_lit ?_
    have hE := Env.refl a15 [10, 11, 4]
    apply sq_det 10 hE k rfl (by rfl) (by rfl) rfl
    case h =>
      exact x_move rfl e4
    intro a17 hE e10 kp
    replace e4 := (kp 4 rfl).trans e4
    apply sq_det 11 hE k rfl (by rfl) (by rfl) rfl
    case h =>
      exact x_add rfl e10 rfl (by omega)
    intro a18 hE e11 kp
    replace e4 := (kp 4 rfl).trans e4
    apply sq_det 4 hE k rfl (by rfl) (by rfl) rfl
    case h =>
      exact x_assign rfl e11
    intro a19 hE e4 kp
    refine wpList_nil ?_
    replace e0 := hE.eval 0 (by rfl) e0
    replace e3 := hE.eval 3 (by rfl) e3
    replace k := k.env hE
    clear hE
    refine then_n ?_
    refine ⟨⟨k, e0, e3, j + 1, e4, by omega, O⟩, ?_⟩
    rw [e4, mc]; simp only [intOf]; omega
  · have hltI : ¬ (j : Int) < (N : Int) := by omega
    refine cond_f e9 (congrArg Value.bool (decide_eq_false (by omega))) ?_
    clear e0 e4 e9
    obtain rfl : j = N := by omega
    rw [fillC_all, ← List.map_replicate] at O
    have hcv := conv_row (OwnT.get O 0 rfl) List.length_replicate
    refine wp_exit ?_
    refine then_x ?_
    refine then_x ?_
    refine block_x ?_
    refine then_n ?_
    refine wp_seq ?_
    refine wp_region_lit ?_
    have hE := Env.refl a11 [16, 17, 2]
    apply sq_det 16 hE k rfl (by rfl) (by rfl) rfl
    case h =>
      exact x_move rfl (hE.eval 3 (by rfl) e3)
    intro a20 hE e16 kp
    apply sq_det 17 hE k rfl (by rfl) (by rfl) rfl
    case h =>
      exact x_conv rfl e16 hcv
    intro a21 hE e17 kp
    apply sq_det 2 hE k rfl (by rfl) (by rfl) rfl
    case h =>
      exact x_assign rfl e17
    intro a22 hE e2 kp
    refine wpList_nil ?_
    replace k := k.env hE
    clear hE e3
    refine then_n ?_
    refine wp_ret ?_
    refine ret_F1 rfl k e2 ?_
    exact ⟨rfl, O.below⟩
set_option maxRecDepth 100000 in
set_option maxHeartbeats 4000000 in
theorem zeros4_any (x : Int) (n : Nat) (W0 : World) (hx : min (max x 0) 16384 = (n : Int)) : Calls Try.prog 34 #[.int .i64 x] W0 fun e w' => e = .returned (.string (sB (List.replicate (16 * n) 0))) ∧ Ext W0 w' := by
  have O := OwnT.start W0
  have hn : n ≤ 16384 := by omega
  obtain ⟨N, hN⟩ : ∃ N : Nat, 16 * n = N := ⟨_, rfl⟩
  have hN2 : N ≤ 10000000 := by omega
  rw [hN]
  obtain ⟨g, w9, hmk, hrow, hE9⟩ := mk_bytes W0 N hN2
  rw [show List.replicate N (u8V 0) = (List.replicate N (0 : UInt8)).map u8V from (List.map_replicate ..).symm] at hrow
  refine calls_F Try.func34 rfl 9 rfl (by rfl) ?_
  intro a1 k hargs
  have e0 : a1.eval (.tmp 0) = .int .i64 x := hargs 0 _ rfl
  clear hargs
  refine wp_seq ?_
  refine wp_region_lit ?_
  have hE := Env.refl a1 [2]
  apply sq_det 2 hE k rfl (by rfl) (by rfl) rfl
  case h =>
    exact x_assign rfl rfl
  intro a2 hE e2 kp
  refine wpList_nil ?_
  replace e0 := hE.eval 0 (by rfl) e0
  replace k := k.env hE
  clear hE e2
  refine then_n ?_
  refine wp_seq ?_
  refine wp_region_lit ?_
  have hE := Env.refl a2 [3, 4, 5, 6, 7, 8, 2]
  apply sq_det 3 hE k rfl (by rfl) (by rfl) rfl
  case h =>
    exact x_move rfl (hE.eval 0 (by rfl) e0)
  intro a3 hE e3 kp
  apply sq_det 4 hE k rfl (by rfl) (by rfl) rfl
  case h =>
    exact x_max rfl e3 rfl
  intro a4 hE e4 kp
  apply sq_det 5 hE k rfl (by rfl) (by rfl) rfl
  case h =>
    exact x_min rfl e4 rfl
  intro a5 hE e5 kp
  replace e5 := e5.trans (int_eq hx)
  apply sq_det 6 hE k rfl (by rfl) (by rfl) rfl
  case h =>
    exact x_mul rfl rfl e5 (by omega)
  intro a6 hE e6 kp
  replace e6 := e6.trans (int_eq (show 16 * (n : Int) = (N : Int) by omega))
  apply sq_val 7 hE k rfl (by rfl) (by rfl) rfl
  case h =>
    exact x_make rfl e6 e6 hmk
  intro a7 hE e7 kp
  have hcv := conv_row (OwnT.get (OwnT.newRow O hE9 hrow) 0 rfl) List.length_replicate
  replace O := OwnT.newRow O hE9 hrow
  clear hmk hrow hE9
  apply sq_det 8 hE k rfl (by rfl) (by rfl) rfl
  case h =>
    exact x_conv rfl e7 hcv
  intro a8 hE e8 kp
  apply sq_det 2 hE k rfl (by rfl) (by rfl) rfl
  case h =>
    exact x_assign rfl e8
  intro a9 hE e2 kp
  refine wpList_nil ?_
  replace k := k.env hE
  clear hE e0
  refine then_n ?_
  refine wp_ret ?_
  refine ret_F1 rfl k e2 ?_
  exact ⟨rfl, O.below⟩
end Go.Proofs.Ytdpohbaeopidmaa
