/- disc's law: the deeds (printed by XDiscDo.gen.py). -/
import Derived.Test.YtdpohbaeopidmaaKDiscExact20
namespace Go.Proofs.Ytdpohbaeopidmaa
set_option linter.unusedVariables false
set_option linter.unusedSimpArgs false
open Go.RowKit Go.Maps

set_option maxRecDepth 100000 in
set_option maxHeartbeats 4000000 in
theorem do_write1 {H : Nat} {A0 : World} {R : List Thing} {p mb ub n cap bm c1 c2 c3 : Nat} {B B1 B2 B3 : Option Addr} {S : List Sec} {L : Int → Option Sec} {M : Mn} {c : Int} {x N : Int} {b : UInt8} {q : List UInt8} (w : World) (O : OwnT H A0 ((tDisc p mb B n cap bm S L) :: (tMn mb M) :: (tBlk ub 80 #[.slice B1 n c1, .slice B2 n c2, .slice B3 n c3]) :: (tRow 9 1 (.slice B1 n c1) n (strsV (nowL S L))) :: (tRow 9 1 (.slice B2 n c2) n (strsV S)) :: (tRow 4 1 (.slice B3 n c3) n (boolsV (isL n L))) :: R) w) (hM : M.Ok c) (hc : c ≤ 1000000) (hc1 : n ≤ c1)  : Calls Try.prog 45 #[.pointer (some ⟨mb, 0, none⟩), .pointer (some ⟨p, 0, none⟩), .pointer (some ⟨ub, 0, none⟩), .agg #[.int .i64 1, .int .i64 x, .int .i64 N, .int .u8 (b.toNat : Int), .string (sB q)]] w fun e w' => e = .returned (.bool true) ∧ ∃ S' L' M', M'.Ok (c + 20) ∧ OwnT H A0 ((tDisc p mb B n cap bm S' L') :: (tMn mb M') :: (tBlk ub 80 #[.slice B1 n c1, .slice B2 n c2, .slice B3 n c3]) :: (tRow 9 1 (.slice B1 n c1) n (strsV (nowL S' L'))) :: (tRow 9 1 (.slice B2 n c2) n (strsV S')) :: (tRow 4 1 (.slice B3 n c3) n (boolsV (isL n L'))) :: R) w' := by
  have hk := O.dok
  have hnl := hk.le
  have hSn := hk.len
  refine calls_F Try.func45 rfl 232 rfl (by rfl) ?_
  intro a1 k hargs
  have e0 : a1.eval (.tmp 0) = .pointer (some ⟨mb, 0, none⟩) := hargs 0 _ rfl
  have e1 : a1.eval (.tmp 1) = .pointer (some ⟨p, 0, none⟩) := hargs 1 _ rfl
  have e2 : a1.eval (.tmp 2) = .pointer (some ⟨ub, 0, none⟩) := hargs 2 _ rfl
  have e3 : a1.eval (.tmp 3) = .agg #[.int .i64 1, .int .i64 x, .int .i64 N, .int .u8 ↑b.toNat, .string (sB q)] := hargs 3 _ rfl
  clear hargs
  refine wp_seq ?_
  refine wp_region_lit ?_   -- region 0
  have hE := Env.refl a1 [7, 8]
  refine sq_new O (cs := #[.int .i64 1, .int .i64 x, .int .i64 N, .int .u8 ↑b.toNat, .string (sB q)]) (t := 74) 7 hE k rfl (by rfl) (by rfl) rfl (by simp [go_sem, BigFrame.eval_const, BigFrame.eval_global, BigFrame.eval_func, ↓IntWalk.iteOmega, ev (hE.eval 3 (by rfl) e3)]) ?_
  clear O
  intro xb a2 w3 O hE e7 kp
  apply sq_det 8 hE k rfl (by rfl) (by rfl) rfl
  case h =>   -- 1: t8 := Op.assign (const (Value.bool false))
    exact x_assign rfl rfl
  intro a4 hE e8 kp
  replace e7 := (kp 7 rfl).trans e7
  refine wpList_nil ?_
  replace e0 := hE.eval 0 (by rfl) e0
  replace e1 := hE.eval 1 (by rfl) e1
  replace e2 := hE.eval 2 (by rfl) e2
  replace k := k.env hE
  clear hE e3 e8
  refine then_n ?_
  replace O := OwnT.turn3 O
  replace O : OwnT _ _ ((tDisc p mb B n cap bm S L) :: (tMn mb M) :: (tBlk xb 74 #[.int .i64 1, .int .i64 x, .int .i64 N, .int .u8 ↑b.toNat, .string (sB q)]) :: (tBlk ub 80 #[.slice B1 n c1, .slice B2 n c2, .slice B3 n c3]) :: (tRow 9 1 (.slice B1 n c1) n (strsV (nowL S L))) :: (tRow 9 1 (.slice B2 n c2) n (strsV S)) :: (tRow 4 1 (.slice B3 n c3) n (boolsV (isL n L))) :: R) w3 := O
  obtain ⟨m, hm⟩ : ∃ m, uN N % 6 = m := ⟨_, rfl⟩
  have hm5 : m ≤ 5 := by omega
  refine wp_seq ?_
  refine wp_seq ?_
  refine wp_region_lit ?_   -- region 1
  have hE := Env.refl a4 [20, 21]
  apply sq_det 20 hE k rfl (by rfl) (by rfl) rfl
  case h =>   -- 0: t20 := Op.fieldAddr 74 (tmp 7) 0
    simp [go_sem, BigFrame.eval_const, BigFrame.eval_global, BigFrame.eval_func, ↓IntWalk.iteOmega, ev (hE.eval 7 (by rfl) e7)]
    with_reducible rfl
  intro a5 hE e20 kp
  apply sq_det 21 hE k rfl (by rfl) (by rfl) rfl
  case h =>   -- 1: t21 := Op.load 3 (tmp 20)
    have q0 : w3.cell? ⟨xb, 0, none⟩ = some (.int .i64 1) := (OwnT.blk O 2 rfl).cell 0
    simp [go_sem, BigFrame.eval_const, BigFrame.eval_global, BigFrame.eval_func, ↓IntWalk.iteOmega, ev e20, q0]
    with_reducible rfl
  intro a6 hE e21 kp
  refine wpList_nil ?_
  replace e0 := hE.eval 0 (by rfl) e0
  replace e1 := hE.eval 1 (by rfl) e1
  replace e2 := hE.eval 2 (by rfl) e2
  replace e7 := hE.eval 7 (by rfl) e7
  replace k := k.env hE
  clear hE
  refine then_n ?_
  refine wp_block ?_
  refine wp_seq ?_
  refine wp_seq ?_
  refine wp_region_lit ?_   -- region 3
  have hE := Env.refl a6 [30, 29]
  apply sq_det 30 hE k rfl (by rfl) (by rfl) rfl
  case h =>   -- 0: t30 := Op.binOp BinOp.eql 3 (tmp 21) (const (Value.int IntKind.i64 1)) 3
    exact x_eql rfl (hE.eval 21 (by rfl) e21) rfl
  intro a7 hE e30 kp
  apply sq_det 29 hE k rfl (by rfl) (by rfl) rfl
  case h =>   -- 1: t29 := Op.assign (tmp 30)
    exact x_assign rfl e30
  intro a8 hE e29 kp
  refine wpList_nil ?_
  replace e0 := hE.eval 0 (by rfl) e0
  replace e1 := hE.eval 1 (by rfl) e1
  replace e2 := hE.eval 2 (by rfl) e2
  replace e7 := hE.eval 7 (by rfl) e7
  replace e21 := hE.eval 21 (by rfl) e21
  replace k := k.env hE
  clear hE
  refine then_n ?_
  refine cond_t e29 rfl ?_
  refine wp_skip ?_
  refine then_n ?_
  refine cond_t e29 rfl ?_
  refine wp_seq ?_
  refine wp_region_lit ?_   -- region 5
  have hE := Env.refl a8 [32, 33, 34, 35, 36, 9]
  apply sq_det 32 hE k rfl (by rfl) (by rfl) rfl
  case h =>   -- 0: t32 := Op.fieldAddr 74 (tmp 7) 2
    simp [go_sem, BigFrame.eval_const, BigFrame.eval_global, BigFrame.eval_func, ↓IntWalk.iteOmega, ev (hE.eval 7 (by rfl) e7)]
    with_reducible rfl
  intro a9 hE e32 kp
  apply sq_det 33 hE k rfl (by rfl) (by rfl) rfl
  case h =>   -- 1: t33 := Op.load 3 (tmp 32)
    have q0 : w3.cell? ⟨xb, 2, none⟩ = some (.int .i64 N) := (OwnT.blk O 2 rfl).cell 2
    simp [go_sem, BigFrame.eval_const, BigFrame.eval_global, BigFrame.eval_func, ↓IntWalk.iteOmega, ev e32, q0]
    with_reducible rfl
  intro a10 hE e33 kp
  apply sq_det 34 hE k rfl (by rfl) (by rfl) rfl
  case h =>   -- 2: t34 := Op.convert 3 86 (tmp 33)
    exact x_conv rfl e33 (conv_uint N _)
  intro a11 hE e34 kp
  apply sq_det 35 hE k rfl (by rfl) (by rfl) rfl
  case h =>   -- 3: t35 := Op.binOp BinOp.rem 86 (tmp 34) (const (Value.int IntKind.u64 6)) 86
    exact x_remU (m := uN N) (j := 6) rfl e34 rfl rfl (by decide)
  intro a12 hE e35 kp
  apply sq_det 36 hE k rfl (by rfl) (by rfl) rfl
  case h =>   -- 4: t36 := Op.convert 86 3 (tmp 35)
    exact x_conv rfl e35 (conv_int _ _ (by omega))
  intro a13 hE e36 kp
  replace e36 := e36.trans (int_eq (show ((uN N % 6 : Nat) : Int) = (m : Int) by rw [hm]))
  apply sq_det 9 hE k rfl (by rfl) (by rfl) rfl
  case h =>   -- 5: t9 := Op.assign (tmp 36)
    exact x_assign rfl e36
  intro a14 hE e9 kp
  refine wpList_nil ?_
  replace e0 := hE.eval 0 (by rfl) e0
  replace e1 := hE.eval 1 (by rfl) e1
  replace e2 := hE.eval 2 (by rfl) e2
  replace e7 := hE.eval 7 (by rfl) e7
  replace k := k.env hE
  clear hE e21 e29
  refine then_n ?_
  refine wp_seq ?_
  refine wp_region_lit ?_   -- region 6
  have hE := Env.refl a14 [10]
  apply sq_det 10 hE k rfl (by rfl) (by rfl) rfl
  case h =>   -- 0: t10 := Op.assign (const (Value.string {data := #[]}))
    exact x_assign rfl rfl
  intro a15 hE e10 kp
  refine wpList_nil ?_
  replace e0 := hE.eval 0 (by rfl) e0
  replace e1 := hE.eval 1 (by rfl) e1
  replace e2 := hE.eval 2 (by rfl) e2
  replace e7 := hE.eval 7 (by rfl) e7
  replace e9 := hE.eval 9 (by rfl) e9
  replace k := k.env hE
  clear hE
  refine then_n ?_
  refine wp_seq ?_
  refine wp_seq ?_
  refine wp_region_lit ?_   -- region 7
  have hE := Env.refl a15 [11]
  apply sq_det 11 hE k rfl (by rfl) (by rfl) rfl
  case h =>   -- 0: t11 := Op.assign (const (Value.int IntKind.i64 0))
    exact x_assign rfl rfl
  intro a16 hE e11 kp
  refine wpList_nil ?_
  replace e0 := hE.eval 0 (by rfl) e0
  replace e1 := hE.eval 1 (by rfl) e1
  replace e2 := hE.eval 2 (by rfl) e2
  replace e7 := hE.eval 7 (by rfl) e7
  replace e9 := hE.eval 9 (by rfl) e9
  replace e10 := hE.eval 10 (by rfl) e10
  replace k := k.env hE
  clear hE
  refine then_n ?_
  refine wp_block ?_
  refine wp_loop (fun a w => Fr 232 a ∧ a.eval (.tmp 0) = .pointer (some ⟨mb, 0, none⟩) ∧ a.eval (.tmp 1) = .pointer (some ⟨p, 0, none⟩) ∧ a.eval (.tmp 2) = .pointer (some ⟨ub, 0, none⟩) ∧ a.eval (.tmp 7) = .pointer (some ⟨xb, 0, none⟩) ∧ a.eval (.tmp 9) = .int .i64 ↑m ∧ ∃ j : Nat, a.eval (.tmp 10) = .string (sB (wT b j)) ∧ a.eval (.tmp 11) = .int .i64 ↑j ∧ j ≤ m ∧ OwnT H A0 ((tDisc p mb B n cap bm S L) :: (tMn mb M) :: (tBlk xb 74 #[.int .i64 1, .int .i64 x, .int .i64 N, .int .u8 ↑b.toNat, .string (sB q)]) :: (tBlk ub 80 #[.slice B1 n c1, .slice B2 n c2, .slice B3 n c3]) :: (tRow 9 1 (.slice B1 n c1) n (strsV (nowL S L))) :: (tRow 9 1 (.slice B2 n c2) n (strsV S)) :: (tRow 4 1 (.slice B3 n c3) n (boolsV (isL n L))) :: R) w) (fun a w => m - (intOf (a.eval (.tmp 11))).toNat) ?_ ?_
  · exact ⟨k, e0, e1, e2, e7, e9, 0, e10, e11, Nat.zero_le _, O⟩
  intro a17 w18 hI
  clear k e0 e1 e2 e7 e9
  obtain ⟨k, e0, e1, e2, e7, e9, h_⟩ := hI
  clear O e10 e11
  obtain ⟨j, e10, e11, hj, O⟩ := h_
  have mj := e11
  have hwl := wT_len b j
  refine wp_seq ?_
  refine wp_seq ?_
  refine wp_region_lit ?_   -- region 8
  have hE := Env.refl a17 [37, 38, 39]
  apply sq_det 37 hE k rfl (by rfl) (by rfl) rfl
  case h =>   -- 0: t37 := Op.move (tmp 11)
    exact x_move rfl (hE.eval 11 (by rfl) e11)
  intro a19 hE e37 kp
  apply sq_det 38 hE k rfl (by rfl) (by rfl) rfl
  case h =>   -- 1: t38 := Op.move (tmp 9)
    exact x_move rfl (hE.eval 9 (by rfl) e9)
  intro a20 hE e38 kp
  replace e37 := (kp 37 rfl).trans e37
  apply sq_det 39 hE k rfl (by rfl) (by rfl) rfl
  case h =>   -- 2: t39 := Op.binOp BinOp.lss 3 (tmp 37) (tmp 38) 3
    exact x_lss rfl e37 e38
  intro a21 hE e39 kp
  refine wpList_nil ?_
  replace e0 := hE.eval 0 (by rfl) e0
  replace e1 := hE.eval 1 (by rfl) e1
  replace e2 := hE.eval 2 (by rfl) e2
  replace e7 := hE.eval 7 (by rfl) e7
  replace e9 := hE.eval 9 (by rfl) e9
  replace e10 := hE.eval 10 (by rfl) e10
  replace e11 := hE.eval 11 (by rfl) e11
  replace k := k.env hE
  clear hE
  refine then_n ?_
  by_cases hlt : j < m
  · have hltI : (j : Int) < (m : Int) := by omega
    refine cond_t e39 (congrArg Value.bool (decide_eq_true (by omega))) ?_
    clear e39
    obtain ⟨bj, hbj⟩ : ∃ z, b + UInt8.ofNat j = z := ⟨_, rfl⟩
    refine wp_skip ?_
    refine then_n ?_
    refine wp_seq ?_
    refine wp_block ?_
    refine wp_region_lit ?_   -- region 10
    have hE := Env.refl a21 [42, 43, 44, 45, 46, 47, 48, 49, 10]
    apply sq_det 42 hE k rfl (by rfl) (by rfl) rfl
    case h =>   -- 0: t42 := Op.move (tmp 10)
      exact x_move rfl e10
    intro a22 hE e42 kp
    replace e10 := (kp 10 rfl).trans e10
    apply sq_det 43 hE k rfl (by rfl) (by rfl) rfl
    case h =>   -- 1: t43 := Op.fieldAddr 74 (tmp 7) 3
      simp [go_sem, BigFrame.eval_const, BigFrame.eval_global, BigFrame.eval_func, ↓IntWalk.iteOmega, ev (hE.eval 7 (by rfl) e7)]
      with_reducible rfl
    intro a23 hE e43 kp
    replace e10 := (kp 10 rfl).trans e10
    replace e42 := (kp 42 rfl).trans e42
    apply sq_det 44 hE k rfl (by rfl) (by rfl) rfl
    case h =>   -- 2: t44 := Op.load 5 (tmp 43)
      have q0 : w18.cell? ⟨xb, 3, none⟩ = some (.int .u8 ↑b.toNat) := (OwnT.blk O 2 rfl).cell 3
      simp [go_sem, BigFrame.eval_const, BigFrame.eval_global, BigFrame.eval_func, ↓IntWalk.iteOmega, ev e43, q0]
      with_reducible rfl
    intro a24 hE e44 kp
    replace e10 := (kp 10 rfl).trans e10
    replace e42 := (kp 42 rfl).trans e42
    apply sq_det 45 hE k rfl (by rfl) (by rfl) rfl
    case h =>   -- 3: t45 := Op.move (tmp 11)
      exact x_move rfl (hE.eval 11 (by rfl) e11)
    intro a25 hE e45 kp
    replace e10 := (kp 10 rfl).trans e10
    replace e42 := (kp 42 rfl).trans e42
    replace e44 := (kp 44 rfl).trans e44
    apply sq_det 46 hE k rfl (by rfl) (by rfl) rfl
    case h =>   -- 4: t46 := Op.convert 3 5 (tmp 45)
      exact x_conv rfl e45 (conv_u8 j _ (by omega))
    intro a26 hE e46 kp
    replace e10 := (kp 10 rfl).trans e10
    replace e42 := (kp 42 rfl).trans e42
    replace e44 := (kp 44 rfl).trans e44
    apply sq_det 47 hE k rfl (by rfl) (by rfl) rfl
    case h =>   -- 5: t47 := Op.binOp BinOp.add 5 (tmp 44) (tmp 46) 5
      exact x_val (v := .int .u8 (bj.toNat : Int)) (x_add8 rfl e44 e46 (by omega)) (by rw [hbj])
    intro a27 hE e47 kp
    replace e10 := (kp 10 rfl).trans e10
    replace e42 := (kp 42 rfl).trans e42
    apply sq_call 48 hE k rfl (by rfl) (by rfl) rfl
    case h =>   -- tierce/tiercelaw04.sector
      simp [go_sem, BigFrame.eval_const, BigFrame.eval_global, BigFrame.eval_func, ↓IntWalk.iteOmega, ev e47]
      with_reducible exact ⟨rfl, rfl⟩
    case hc => exact sector_any bj _
    rintro e w29 ⟨rfl, R⟩
    replace O := OwnT.ext O R
    refine ⟨_, rfl, ?_⟩
    intro a28 hE e48 kp
    replace e10 := (kp 10 rfl).trans e10
    replace e42 := (kp 42 rfl).trans e42
    apply sq_det 49 hE k rfl (by rfl) (by rfl) rfl
    case h =>   -- 7: t49 := Op.binOp BinOp.add 9 (tmp 42) (tmp 48) 9
      exact x_cat (l := wT b j) (m := secB bj) rfl e42 e48 (by rw [hwl, List.length_replicate]; omega)
    intro a30 hE e49 kp
    replace e10 := (kp 10 rfl).trans e10
    apply sq_det 10 hE k rfl (by rfl) (by rfl) rfl
    case h =>   -- 8: t10 := Op.assign (tmp 49)
      exact x_assign rfl e49
    intro a31 hE e10 kp
    refine wpList_nil ?_
    replace e0 := hE.eval 0 (by rfl) e0
    replace e1 := hE.eval 1 (by rfl) e1
    replace e2 := hE.eval 2 (by rfl) e2
    replace e7 := hE.eval 7 (by rfl) e7
    replace e9 := hE.eval 9 (by rfl) e9
    replace e11 := hE.eval 11 (by rfl) e11
    replace k := k.env hE
    clear hE
    refine block_n ?_
    refine then_n ?_
    refine wp_region_lit ?_   -- region 9
    have hE := Env.refl a31 [40, 41, 11]
    apply sq_det 40 hE k rfl (by rfl) (by rfl) rfl
    case h =>   -- 0: t40 := Op.move (tmp 11)
      exact x_move rfl e11
    intro a32 hE e40 kp
    replace e11 := (kp 11 rfl).trans e11
    apply sq_det 41 hE k rfl (by rfl) (by rfl) rfl
    case h =>   -- 1: t41 := Op.binOp BinOp.add 3 (tmp 40) (const (Value.int IntKind.i64 1)) 3
      exact x_add rfl e40 rfl (by omega)
    intro a33 hE e41 kp
    replace e11 := (kp 11 rfl).trans e11
    apply sq_det 11 hE k rfl (by rfl) (by rfl) rfl
    case h =>   -- 2: t11 := Op.assign (tmp 41)
      exact x_assign rfl e41
    intro a34 hE e11 kp
    refine wpList_nil ?_
    replace e0 := hE.eval 0 (by rfl) e0
    replace e1 := hE.eval 1 (by rfl) e1
    replace e2 := hE.eval 2 (by rfl) e2
    replace e7 := hE.eval 7 (by rfl) e7
    replace e9 := hE.eval 9 (by rfl) e9
    replace e10 := hE.eval 10 (by rfl) e10
    replace k := k.env hE
    clear hE
    refine then_n ?_
    rw [← hbj] at e10
    refine ⟨⟨k, e0, e1, e2, e7, e9, j + 1, e10, e11, by omega, O⟩, ?_⟩
    rw [e11, mj]; simp only [intOf]; omega
  · have hltI : ¬ (j : Int) < (m : Int) := by omega
    refine cond_f e39 (congrArg Value.bool (decide_eq_false (by omega))) ?_
    clear e11 e39
    obtain rfl : j = m := by omega
    have hw16 : (wT b j).length / 16 = j := by omega
    refine wp_exit ?_
    refine then_x ?_
    refine then_x ?_
    refine block_x ?_
    refine then_n ?_
    refine wp_seq ?_
    refine wp_region_lit ?_   -- region 11
    have hE := Env.refl a21 [50, 51, 12]
    apply sq_det 50 hE k rfl (by rfl) (by rfl) rfl
    case h =>   -- 0: t50 := Op.move (tmp 0)
      exact x_move rfl (hE.eval 0 (by rfl) e0)
    intro a35 hE e50 kp
    apply sq_call 51 hE k rfl (by rfl) (by rfl) rfl
    case h =>   -- (*tierce/mains.Mains).Uses
      simp [go_sem, BigFrame.eval_const, BigFrame.eval_global, BigFrame.eval_func, ↓IntWalk.iteOmega, ev e50]
      with_reducible exact ⟨rfl, rfl⟩
    case hc => exact uses_mn (OwnT.get O 1 rfl)
    rintro e _ ⟨rfl, rfl⟩
    refine ⟨_, rfl, ?_⟩
    intro a36 hE e51 kp
    apply sq_det 12 hE k rfl (by rfl) (by rfl) rfl
    case h =>   -- 2: t12 := Op.assign (tmp 51)
      exact x_assign rfl e51
    intro a37 hE e12 kp
    refine wpList_nil ?_
    replace e0 := hE.eval 0 (by rfl) e0
    replace e1 := hE.eval 1 (by rfl) e1
    replace e2 := hE.eval 2 (by rfl) e2
    replace e7 := hE.eval 7 (by rfl) e7
    replace e9 := hE.eval 9 (by rfl) e9
    replace e10 := hE.eval 10 (by rfl) e10
    replace k := k.env hE
    clear hE
    refine then_n ?_
    by_cases hf : fitsB n x (j : Int) = true
    rotate_left
    · replace hf := Bool.eq_false_iff.2 hf
      refine wp_seq ?_
      refine wp_region_lit ?_   -- region 12
      have hE := Env.refl a37 [52, 53, 54, 55, 56, 13]
      apply sq_det 52 hE k rfl (by rfl) (by rfl) rfl
      case h =>   -- 0: t52 := Op.move (tmp 1)
        exact x_move rfl (hE.eval 1 (by rfl) e1)
      intro a38 hE e52 kp
      apply sq_det 53 hE k rfl (by rfl) (by rfl) rfl
      case h =>   -- 1: t53 := Op.fieldAddr 74 (tmp 7) 1
        simp [go_sem, BigFrame.eval_const, BigFrame.eval_global, BigFrame.eval_func, ↓IntWalk.iteOmega, ev (hE.eval 7 (by rfl) e7)]
        with_reducible rfl
      intro a39 hE e53 kp
      replace e52 := (kp 52 rfl).trans e52
      apply sq_det 54 hE k rfl (by rfl) (by rfl) rfl
      case h =>   -- 2: t54 := Op.load 3 (tmp 53)
        have q0 : w18.cell? ⟨xb, 1, none⟩ = some (.int .i64 x) := (OwnT.blk O 2 rfl).cell 1
        simp [go_sem, BigFrame.eval_const, BigFrame.eval_global, BigFrame.eval_func, ↓IntWalk.iteOmega, ev e53, q0]
        with_reducible rfl
      intro a40 hE e54 kp
      replace e52 := (kp 52 rfl).trans e52
      apply sq_det 55 hE k rfl (by rfl) (by rfl) rfl
      case h =>   -- 3: t55 := Op.move (tmp 10)
        exact x_move rfl (hE.eval 10 (by rfl) e10)
      intro a41 hE e55 kp
      replace e52 := (kp 52 rfl).trans e52
      replace e54 := (kp 54 rfl).trans e54
      apply sq_call 56 hE k rfl (by rfl) (by rfl) rfl
      case h =>   -- (*tierce/disc.Disc).Write
        simp [go_sem, BigFrame.eval_const, BigFrame.eval_global, BigFrame.eval_func, ↓IntWalk.iteOmega, ev e52, ev e54, ev e55]
        with_reducible exact ⟨rfl, rfl⟩
      case hc => exact dwrite_range x (wT b j) _ O (by omega) (by omega) (by rw [hw16]; exact hf)
      clear O
      rintro e w43 ⟨rfl, O⟩
      refine ⟨_, rfl, ?_⟩
      intro a42 hE e56 kp
      apply sq_det 13 hE k rfl (by rfl) (by rfl) rfl
      case h =>   -- 5: t13 := Op.assign (tmp 56)
        exact x_assign rfl e56
      intro a44 hE e13 kp
      refine wpList_nil ?_
      replace e0 := hE.eval 0 (by rfl) e0
      replace e2 := hE.eval 2 (by rfl) e2
      replace e7 := hE.eval 7 (by rfl) e7
      replace e9 := hE.eval 9 (by rfl) e9
      replace e12 := hE.eval 12 (by rfl) e12
      replace k := k.env hE
      clear hE e1 e10
      refine then_n ?_
      refine wp_seq ?_
      refine wp_seq ?_
      refine wp_region_lit ?_   -- region 13
      have hE := Env.refl a44 [57, 58, 59, 60, 61, 62]
      apply sq_det 57 hE k rfl (by rfl) (by rfl) rfl
      case h =>   -- 0: t57 := Op.move (tmp 2)
        exact x_move rfl (hE.eval 2 (by rfl) e2)
      intro a45 hE e57 kp
      apply sq_det 58 hE k rfl (by rfl) (by rfl) rfl
      case h =>   -- 1: t58 := Op.fieldAddr 74 (tmp 7) 1
        simp [go_sem, BigFrame.eval_const, BigFrame.eval_global, BigFrame.eval_func, ↓IntWalk.iteOmega, ev (hE.eval 7 (by rfl) e7)]
        with_reducible rfl
      intro a46 hE e58 kp
      replace e57 := (kp 57 rfl).trans e57
      apply sq_det 59 hE k rfl (by rfl) (by rfl) rfl
      case h =>   -- 2: t59 := Op.load 3 (tmp 58)
        have q0 : w43.cell? ⟨xb, 1, none⟩ = some (.int .i64 x) := (OwnT.blk O 2 rfl).cell 1
        simp [go_sem, BigFrame.eval_const, BigFrame.eval_global, BigFrame.eval_func, ↓IntWalk.iteOmega, ev e58, q0]
        with_reducible rfl
      intro a47 hE e59 kp
      replace e57 := (kp 57 rfl).trans e57
      apply sq_det 60 hE k rfl (by rfl) (by rfl) rfl
      case h =>   -- 3: t60 := Op.move (tmp 9)
        exact x_move rfl (hE.eval 9 (by rfl) e9)
      intro a48 hE e60 kp
      replace e57 := (kp 57 rfl).trans e57
      replace e59 := (kp 59 rfl).trans e59
      apply sq_call 61 hE k rfl (by rfl) (by rfl) rfl
      case h =>   -- (*tierce/tierceref04.Disc).Fits
        simp [go_sem, BigFrame.eval_const, BigFrame.eval_global, BigFrame.eval_func, ↓IntWalk.iteOmega, ev e57, ev e59, ev e60]
        with_reducible exact ⟨rfl, rfl⟩
      case hc => exact fits4_any x ↑j _ ((OwnT.blk O 3 rfl).cell 0) hnl
      rintro e _ ⟨rfl, rfl⟩
      refine ⟨_, congrArg (fun b => Ending.returned (.bool b)) hf, ?_⟩
      intro a49 hE e61 kp
      apply sq_det 62 hE k rfl (by rfl) (by rfl) rfl
      case h =>   -- 5: t62 := Op.unOp UnOp.not 4 (tmp 61)
        exact x_not rfl e61
      intro a50 hE e62 kp
      refine wpList_nil ?_
      replace e0 := hE.eval 0 (by rfl) e0
      replace e2 := hE.eval 2 (by rfl) e2
      replace e7 := hE.eval 7 (by rfl) e7
      replace e9 := hE.eval 9 (by rfl) e9
      replace e12 := hE.eval 12 (by rfl) e12
      replace e13 := hE.eval 13 (by rfl) e13
      replace k := k.env hE
      clear hE
      refine then_n ?_
      refine cond_t e62 rfl ?_
      refine wp_seq ?_
      refine wp_region_lit ?_   -- region 14
      have hE := Env.refl a50 [63, 64, 65, 66, 67, 68, 69, 70, 8]
      apply sq_det 63 hE k rfl (by rfl) (by rfl) rfl
      case h =>   -- 0: t63 := Op.move (tmp 13)
        exact x_move rfl (hE.eval 13 (by rfl) e13)
      intro a51 hE e63 kp
      apply sq_det 64 hE k rfl (by rfl) (by rfl) rfl
      case h =>   -- 1: t64 := Op.binOp BinOp.eql 36 (tmp 63) (const (Value.int IntKind.i64 9)) 36
        exact x_eql rfl e63 rfl
      intro a52 hE e64 kp
      apply sq_det 65 hE k rfl (by rfl) (by rfl) rfl
      case h =>   -- 2: t65 := Op.move (tmp 64)
        exact x_move rfl e64
      intro a53 hE e65 kp
      apply sq_detg 66 hE k rfl (by rfl) (by rfl) rfl rfl e65
      case h =>   -- 3: t66 := Op.move (tmp 0)
        exact x_move rfl (hE.eval 0 (by rfl) e0)
      intro a54 hE e66 kp
      replace e65 := (kp 65 rfl).trans e65
      apply sq_callg 67 hE k rfl (by rfl) (by rfl) rfl rfl e65
      case h =>   -- (*tierce/mains.Mains).Uses
        simp [go_sem, BigFrame.eval_const, BigFrame.eval_global, BigFrame.eval_func, ↓IntWalk.iteOmega, ev e66]
        with_reducible exact ⟨rfl, rfl⟩
      case hc => exact uses_mn (OwnT.get O 1 rfl)
      rintro e _ ⟨rfl, rfl⟩
      refine ⟨_, rfl, ?_⟩
      intro a55 hE e67 kp
      replace e65 := (kp 65 rfl).trans e65
      apply sq_detg 68 hE k rfl (by rfl) (by rfl) rfl rfl e65
      case h =>   -- 5: t68 := Op.move (tmp 12)
        exact x_move rfl (hE.eval 12 (by rfl) e12)
      intro a56 hE e68 kp
      replace e65 := (kp 65 rfl).trans e65
      replace e67 := (kp 67 rfl).trans e67
      apply sq_detg 69 hE k rfl (by rfl) (by rfl) rfl rfl e65
      case h =>   -- 6: t69 := Op.binOp BinOp.eql 3 (tmp 67) (tmp 68) 3
        exact x_dec (x_eql rfl e67 e68) (decide_eq_true rfl)
      intro a57 hE e69 kp
      replace e65 := (kp 65 rfl).trans e65
      apply sq_det 70 hE k rfl (by rfl) (by rfl) rfl
      case h =>   -- 7: t70 := Op.pick (tmp 65) (tmp 69) (const (Value.bool false))
        exact x_pick_t rfl e65 e69
      intro a58 hE e70 kp
      apply sq_det 8 hE k rfl (by rfl) (by rfl) rfl
      case h =>   -- 8: t8 := Op.assign (tmp 70)
        exact x_assign rfl e70
      intro a59 hE e8 kp
      refine wpList_nil ?_
      replace k := k.env hE
      clear hE e0 e2 e7 e9 e12 e13 e62
      refine then_n ?_
      refine wp_ret ?_
      refine then_r ?_
      refine block_r ?_
      refine then_r ?_
      replace O := OwnT.drop3 O
      refine ret_F1 rfl k e8 ?_
      exact ⟨rfl, S, L, M, hM.mono (by omega), O⟩
    have hf' := of_decide_eq_true hf
    obtain ⟨hx0, -, hx1, hx2⟩ := hf'
    obtain ⟨x, rfl⟩ := Int.eq_ofNat_of_zero_le hx0
    
    refine wp_seq ?_
    refine wp_region_lit ?_   -- region 12
    have hE := Env.refl a37 [52, 53, 54, 55, 56, 13]
    apply sq_det 52 hE k rfl (by rfl) (by rfl) rfl
    case h =>   -- 0: t52 := Op.move (tmp 1)
      exact x_move rfl (hE.eval 1 (by rfl) e1)
    intro a60 hE e52 kp
    apply sq_det 53 hE k rfl (by rfl) (by rfl) rfl
    case h =>   -- 1: t53 := Op.fieldAddr 74 (tmp 7) 1
      simp [go_sem, BigFrame.eval_const, BigFrame.eval_global, BigFrame.eval_func, ↓IntWalk.iteOmega, ev (hE.eval 7 (by rfl) e7)]
      with_reducible rfl
    intro a61 hE e53 kp
    replace e52 := (kp 52 rfl).trans e52
    apply sq_det 54 hE k rfl (by rfl) (by rfl) rfl
    case h =>   -- 2: t54 := Op.load 3 (tmp 53)
      have q0 : w18.cell? ⟨xb, 1, none⟩ = some (.int .i64 ↑x) := (OwnT.blk O 2 rfl).cell 1
      simp [go_sem, BigFrame.eval_const, BigFrame.eval_global, BigFrame.eval_func, ↓IntWalk.iteOmega, ev e53, q0]
      with_reducible rfl
    intro a62 hE e54 kp
    replace e52 := (kp 52 rfl).trans e52
    apply sq_det 55 hE k rfl (by rfl) (by rfl) rfl
    case h =>   -- 3: t55 := Op.move (tmp 10)
      exact x_move rfl (hE.eval 10 (by rfl) e10)
    intro a63 hE e55 kp
    replace e52 := (kp 52 rfl).trans e52
    replace e54 := (kp 54 rfl).trans e54
    apply sq_call 56 hE k rfl (by rfl) (by rfl) rfl
    case h =>   -- (*tierce/disc.Disc).Write
      simp [go_sem, BigFrame.eval_const, BigFrame.eval_global, BigFrame.eval_func, ↓IntWalk.iteOmega, ev e52, ev e54, ev e55]
      with_reducible exact ⟨rfl, rfl⟩
    case hc => exact dwrite_k j ↑x (wT b j) _ O hwl (by omega) hf hM (by omega)
    clear O
    rintro e w65 ⟨i, M', rfl, hi, hu, ha, hM', O⟩
    refine ⟨_, rfl, ?_⟩
    intro a64 hE e56 kp
    apply sq_det 13 hE k rfl (by rfl) (by rfl) rfl
    case h =>   -- 5: t13 := Op.assign (tmp 56)
      exact x_assign rfl e56
    intro a66 hE e13 kp
    refine wpList_nil ?_
    replace e0 := hE.eval 0 (by rfl) e0
    replace e2 := hE.eval 2 (by rfl) e2
    replace e7 := hE.eval 7 (by rfl) e7
    replace e9 := hE.eval 9 (by rfl) e9
    replace e12 := hE.eval 12 (by rfl) e12
    replace k := k.env hE
    clear hE e1 e10
    refine then_n ?_
    refine wp_seq ?_
    refine wp_seq ?_
    refine wp_region_lit ?_   -- region 13
    have hE := Env.refl a66 [57, 58, 59, 60, 61, 62]
    apply sq_det 57 hE k rfl (by rfl) (by rfl) rfl
    case h =>   -- 0: t57 := Op.move (tmp 2)
      exact x_move rfl (hE.eval 2 (by rfl) e2)
    intro a67 hE e57 kp
    apply sq_det 58 hE k rfl (by rfl) (by rfl) rfl
    case h =>   -- 1: t58 := Op.fieldAddr 74 (tmp 7) 1
      simp [go_sem, BigFrame.eval_const, BigFrame.eval_global, BigFrame.eval_func, ↓IntWalk.iteOmega, ev (hE.eval 7 (by rfl) e7)]
      with_reducible rfl
    intro a68 hE e58 kp
    replace e57 := (kp 57 rfl).trans e57
    apply sq_det 59 hE k rfl (by rfl) (by rfl) rfl
    case h =>   -- 2: t59 := Op.load 3 (tmp 58)
      have q0 : w65.cell? ⟨xb, 1, none⟩ = some (.int .i64 ↑x) := (OwnT.blk O 2 rfl).cell 1
      simp [go_sem, BigFrame.eval_const, BigFrame.eval_global, BigFrame.eval_func, ↓IntWalk.iteOmega, ev e58, q0]
      with_reducible rfl
    intro a69 hE e59 kp
    replace e57 := (kp 57 rfl).trans e57
    apply sq_det 60 hE k rfl (by rfl) (by rfl) rfl
    case h =>   -- 3: t60 := Op.move (tmp 9)
      exact x_move rfl (hE.eval 9 (by rfl) e9)
    intro a70 hE e60 kp
    replace e57 := (kp 57 rfl).trans e57
    replace e59 := (kp 59 rfl).trans e59
    apply sq_call 61 hE k rfl (by rfl) (by rfl) rfl
    case h =>   -- (*tierce/tierceref04.Disc).Fits
      simp [go_sem, BigFrame.eval_const, BigFrame.eval_global, BigFrame.eval_func, ↓IntWalk.iteOmega, ev e57, ev e59, ev e60]
      with_reducible exact ⟨rfl, rfl⟩
    case hc => exact fits4_any ↑x ↑j _ ((OwnT.blk O 3 rfl).cell 0) hnl
    rintro e _ ⟨rfl, rfl⟩
    refine ⟨_, congrArg (fun b => Ending.returned (.bool b)) hf, ?_⟩
    intro a71 hE e61 kp
    apply sq_det 62 hE k rfl (by rfl) (by rfl) rfl
    case h =>   -- 5: t62 := Op.unOp UnOp.not 4 (tmp 61)
      exact x_not rfl e61
    intro a72 hE e62 kp
    refine wpList_nil ?_
    replace e0 := hE.eval 0 (by rfl) e0
    replace e2 := hE.eval 2 (by rfl) e2
    replace e7 := hE.eval 7 (by rfl) e7
    replace e9 := hE.eval 9 (by rfl) e9
    replace e12 := hE.eval 12 (by rfl) e12
    replace e13 := hE.eval 13 (by rfl) e13
    replace k := k.env hE
    clear hE
    refine then_n ?_
    refine cond_f e62 rfl ?_
    refine wp_skip ?_
    refine then_n ?_
    refine wp_seq ?_
    refine wp_region_lit ?_   -- region 15
    have hE := Env.refl a72 [71, 72, 73, 74, 14]
    apply sq_det 71 hE k rfl (by rfl) (by rfl) rfl
    case h =>   -- 0: t71 := Op.move (tmp 0)
      exact x_move rfl (hE.eval 0 (by rfl) e0)
    intro a73 hE e71 kp
    apply sq_call 72 hE k rfl (by rfl) (by rfl) rfl
    case h =>   -- (*tierce/mains.Mains).Uses
      simp [go_sem, BigFrame.eval_const, BigFrame.eval_global, BigFrame.eval_func, ↓IntWalk.iteOmega, ev e71]
      with_reducible exact ⟨rfl, rfl⟩
    case hc => exact uses_mn (OwnT.get O 1 rfl)
    rintro e _ ⟨rfl, rfl⟩
    refine ⟨_, rfl, ?_⟩
    intro a74 hE e72 kp
    apply sq_det 73 hE k rfl (by rfl) (by rfl) rfl
    case h =>   -- 2: t73 := Op.move (tmp 12)
      exact x_move rfl (hE.eval 12 (by rfl) e12)
    intro a75 hE e73 kp
    replace e72 := (kp 72 rfl).trans e72
    apply sq_det 74 hE k rfl (by rfl) (by rfl) rfl
    case h =>   -- 3: t74 := Op.binOp BinOp.sub 3 (tmp 72) (tmp 73) 3
      exact x_sub rfl e72 e73 (by have := hM.u0; have := hM.u1; have := hM'.u0; have := hM'.u1; omega)
    intro a76 hE e74 kp
    replace e74 := e74.trans (int_eq (show M'.uses - M.uses = (i : Int) by omega))
    apply sq_det 14 hE k rfl (by rfl) (by rfl) rfl
    case h =>   -- 4: t14 := Op.assign (tmp 74)
      exact x_assign rfl e74
    intro a77 hE e14 kp
    refine wpList_nil ?_
    replace e0 := hE.eval 0 (by rfl) e0
    replace e2 := hE.eval 2 (by rfl) e2
    replace e7 := hE.eval 7 (by rfl) e7
    replace e9 := hE.eval 9 (by rfl) e9
    replace e13 := hE.eval 13 (by rfl) e13
    replace k := k.env hE
    clear hE e12 e62
    refine then_n ?_
    refine wp_seq ?_
    refine wp_seq ?_
    refine wp_region_lit ?_   -- region 16
    have hE := Env.refl a77 [15]
    apply sq_det 15 hE k rfl (by rfl) (by rfl) rfl
    case h =>   -- 0: t15 := Op.assign (const (Value.int IntKind.i64 0))
      exact x_assign rfl rfl
    intro a78 hE e15 kp
    refine wpList_nil ?_
    replace e0 := hE.eval 0 (by rfl) e0
    replace e2 := hE.eval 2 (by rfl) e2
    replace e7 := hE.eval 7 (by rfl) e7
    replace e9 := hE.eval 9 (by rfl) e9
    replace e13 := hE.eval 13 (by rfl) e13
    replace e14 := hE.eval 14 (by rfl) e14
    replace k := k.env hE
    clear hE
    refine then_n ?_
    refine wp_block ?_
    refine wp_loop (fun a w => Fr 232 a ∧ a.eval (.tmp 0) = .pointer (some ⟨mb, 0, none⟩) ∧ a.eval (.tmp 2) = .pointer (some ⟨ub, 0, none⟩) ∧ a.eval (.tmp 7) = .pointer (some ⟨xb, 0, none⟩) ∧ a.eval (.tmp 9) = .int .i64 ↑j ∧ a.eval (.tmp 13) = .int .i64 (if i = j then 0 else 4) ∧ a.eval (.tmp 14) = .int .i64 ↑i ∧ ∃ z : Nat, a.eval (.tmp 15) = .int .i64 ↑z ∧ z ≤ i ∧ OwnT H A0 ((tDisc p mb B n cap bm S (wrS (wT b j) ↑x L i)) :: (tMn mb M') :: (tBlk xb 74 #[.int .i64 1, .int .i64 ↑x, .int .i64 N, .int .u8 ↑b.toNat, .string (sB q)]) :: (tBlk ub 80 #[.slice B1 n c1, .slice B2 n c2, .slice B3 n c3]) :: (tRow 9 1 (.slice B1 n c1) n (strsV (nowL S (wrS (wT b j) ↑x L z)))) :: (tRow 9 1 (.slice B2 n c2) n (strsV S)) :: (tRow 4 1 (.slice B3 n c3) n (boolsV (isL n (wrS (wT b j) ↑x L z)))) :: R) w) (fun a w => i - (intOf (a.eval (.tmp 15))).toNat) ?_ ?_
    · exact ⟨k, e0, e2, e7, e9, e13, e14, 0, e15, Nat.zero_le _, O⟩
    intro a79 w80 hI
    clear k e0 e2 e7 e9 e13 e14
    obtain ⟨k, e0, e2, e7, e9, e13, e14, h_⟩ := hI
    clear O e15
    obtain ⟨z, e15, hz, O⟩ := h_
    have mz := e15
    by_cases hlt : z < i
    · skip
      refine wp_seq ?_
      refine wp_seq ?_
      refine wp_region_lit ?_   -- region 17
      have hE := Env.refl a79 [75, 76, 77, 78, 79, 80, 81, 82]
      apply sq_det 75 hE k rfl (by rfl) (by rfl) rfl
      case h =>   -- 0: t75 := Op.move (tmp 15)
        exact x_move rfl (hE.eval 15 (by rfl) e15)
      intro a81 hE e75 kp
      apply sq_det 76 hE k rfl (by rfl) (by rfl) rfl
      case h =>   -- 1: t76 := Op.move (tmp 14)
        exact x_move rfl (hE.eval 14 (by rfl) e14)
      intro a82 hE e76 kp
      replace e75 := (kp 75 rfl).trans e75
      apply sq_det 77 hE k rfl (by rfl) (by rfl) rfl
      case h =>   -- 2: t77 := Op.binOp BinOp.lss 3 (tmp 75) (tmp 76) 3
        exact x_dec (x_lss rfl e75 e76) (decide_eq_true (by omega))
      intro a83 hE e77 kp
      apply sq_det 78 hE k rfl (by rfl) (by rfl) rfl
      case h =>   -- 3: t78 := Op.move (tmp 77)
        exact x_move rfl e77
      intro a84 hE e78 kp
      apply sq_detg 79 hE k rfl (by rfl) (by rfl) rfl rfl e78
      case h =>   -- 4: t79 := Op.move (tmp 15)
        exact x_move rfl (hE.eval 15 (by rfl) e15)
      intro a85 hE e79 kp
      replace e78 := (kp 78 rfl).trans e78
      apply sq_detg 80 hE k rfl (by rfl) (by rfl) rfl rfl e78
      case h =>   -- 5: t80 := Op.move (tmp 9)
        exact x_move rfl (hE.eval 9 (by rfl) e9)
      intro a86 hE e80 kp
      replace e78 := (kp 78 rfl).trans e78
      replace e79 := (kp 79 rfl).trans e79
      apply sq_detg 81 hE k rfl (by rfl) (by rfl) rfl rfl e78
      case h =>   -- 6: t81 := Op.binOp BinOp.lss 3 (tmp 79) (tmp 80) 3
        exact x_dec (x_lss rfl e79 e80) (decide_eq_true (by omega))
      intro a87 hE e81 kp
      replace e78 := (kp 78 rfl).trans e78
      apply sq_det 82 hE k rfl (by rfl) (by rfl) rfl
      case h =>   -- 7: t82 := Op.pick (tmp 78) (tmp 81) (const (Value.bool false))
        exact x_pick_t rfl e78 e81
      intro a88 hE e82 kp
      refine wpList_nil ?_
      replace e0 := hE.eval 0 (by rfl) e0
      replace e2 := hE.eval 2 (by rfl) e2
      replace e7 := hE.eval 7 (by rfl) e7
      replace e9 := hE.eval 9 (by rfl) e9
      replace e13 := hE.eval 13 (by rfl) e13
      replace e14 := hE.eval 14 (by rfl) e14
      replace e15 := hE.eval 15 (by rfl) e15
      replace k := k.env hE
      clear hE
      refine then_n ?_
      refine cond_t e82 rfl ?_
      refine wp_skip ?_
      refine then_n ?_
      refine wp_seq ?_
      refine wp_block ?_
      have hxz : x + z < n := by omega
      obtain ⟨bz, hbz⟩ : ∃ y, b + UInt8.ofNat z = y := ⟨_, rfl⟩
      obtain ⟨sz, hsz⟩ : ∃ y, secB bz = y := ⟨_, rfl⟩
      obtain ⟨i2, hi2⟩ : ∃ y, x + z = y := ⟨_, rfl⟩
      have hsec : ∀ W, Calls Try.prog 40 #[.int .u8 (bz.toNat : Int)] W fun e w' => e = .returned (.string (sB sz)) ∧ Ext W w' := fun W => hsz ▸ sector_any bz W
      obtain ⟨g1, z1, h1, -⟩ := row1_some (OwnT.get O 4 rfl) (by omega)
      injection h1 with h1 _ h1'
      subst h1 h1'
      obtain ⟨g2, z2, h2, -⟩ := row1_some (OwnT.get O 5 rfl) (by omega)
      injection h2 with h2 _ h2'
      subst h2 h2'
      obtain ⟨g3, z3, h3, -⟩ := row1_some (OwnT.get O 6 rfl) (by omega)
      injection h3 with h3 _ h3'
      subst h3 h3'
      
      refine wp_seq ?_
      refine wp_typed (R := Ext) (w0 := w80) [[], [0], [0, 1], [0, 1, 2], [], [4], [], [4, 5, 6], [], [8], [], [10], [8, 9, 10, 11], [8, 9, 10, 11, 12], [0, 1, 2, 3, 4, 5, 6, 7, 8, 9, 10, 11, 12, 13], [0, 1, 2, 3, 4, 5, 6, 7, 8, 9, 10, 11, 12, 13, 14]] [85, 86, 87, 88, 89, 90, 91, 92, 93, 94, 95, 96, 97, 98, 99] Ext.refl (fun _ _ _ => Ext.trans) (Ext.drew _) (by kernel_rfl) ?_   -- region 19
      apply Build.det 85 Ext.refl (by rfl) (by rw [k.size]; rfl) rfl
      case h =>   -- 0: t85 := Op.move (tmp 2)
        intro ax wx hE hR hF
        exact x_move rfl (hE.eval 2 (by rfl) e2)
      apply Build.det 86 Ext.refl (by rfl) (by rw [k.size]; rfl) rfl
      case h =>   -- 1: t86 := Op.nilCheck (tmp 85)
        intro ax wx hE hR hF
        have e85 : ax.eval (.tmp 85) = _ := hF 0 (det 85 _) (by decide) (.head _)
        exact x_nil rfl e85
      apply Build.det 87 Ext.refl (by rfl) (by rw [k.size]; rfl) rfl
      case h =>   -- 2: t87 := Op.fieldAddr 80 (tmp 86) 0
        intro ax wx hE hR hF
        have e86 : ax.eval (.tmp 86) = _ := hF 1 (det 86 _) (by decide) (.head _)
        simp [go_sem, BigFrame.eval_const, BigFrame.eval_global, BigFrame.eval_func, ↓IntWalk.iteOmega, ev e86]
        with_reducible rfl
      apply Build.det 88 Ext.refl (by rfl) (by rw [k.size]; rfl) rfl
      case h =>   -- 3: t88 := Op.load 77 (tmp 87)
        intro ax wx hE hR hF
        have e87 : ax.eval (.tmp 87) = _ := hF 2 (det 87 _) (by decide) (.head _)
        have q0 : wx.cell? ⟨ub, 0, none⟩ = some (.slice (some ⟨g1, 0, none⟩) n c1) := (OwnT.blk (OwnT.ext O hR) 3 rfl).cell 0
        simp [go_sem, BigFrame.eval_const, BigFrame.eval_global, BigFrame.eval_func, ↓IntWalk.iteOmega, ev e87, q0]
        with_reducible rfl
      apply Build.det 89 Ext.refl (by rfl) (by rw [k.size]; rfl) rfl
      case h =>   -- 4: t89 := Op.fieldAddr 74 (tmp 7) 1
        intro ax wx hE hR hF
        simp [go_sem, BigFrame.eval_const, BigFrame.eval_global, BigFrame.eval_func, ↓IntWalk.iteOmega, ev (hE.eval 7 (by rfl) e7)]
        with_reducible rfl
      apply Build.det 90 Ext.refl (by rfl) (by rw [k.size]; rfl) rfl
      case h =>   -- 5: t90 := Op.load 3 (tmp 89)
        intro ax wx hE hR hF
        have e89 : ax.eval (.tmp 89) = _ := hF 4 (det 89 _) (by decide) (.head _)
        have q0 : wx.cell? ⟨xb, 1, none⟩ = some (.int .i64 ↑x) := (OwnT.blk (OwnT.ext O hR) 2 rfl).cell 1
        simp [go_sem, BigFrame.eval_const, BigFrame.eval_global, BigFrame.eval_func, ↓IntWalk.iteOmega, ev e89, q0]
        with_reducible rfl
      apply Build.det 91 Ext.refl (by rfl) (by rw [k.size]; rfl) rfl
      case h =>   -- 6: t91 := Op.move (tmp 15)
        intro ax wx hE hR hF
        exact x_move rfl (hE.eval 15 (by rfl) e15)
      apply Build.det 92 Ext.refl (by rfl) (by rw [k.size]; rfl) rfl
      case h =>   -- 7: t92 := Op.binOp BinOp.add 3 (tmp 90) (tmp 91) 3
        intro ax wx hE hR hF
        have e90 : ax.eval (.tmp 90) = _ := hF 5 (det 90 _) (by decide) (.tail _ (.head _))
        have e91 : ax.eval (.tmp 91) = _ := hF 6 (det 91 _) (by decide) (.head _)
        exact x_val (v := .int .i64 (i2 : Int)) (x_add rfl e90 e91 (by omega)) (int_eq (by omega))
      apply Build.det 93 Ext.refl (by rfl) (by rw [k.size]; rfl) rfl
      case h =>   -- 8: t93 := Op.fieldAddr 74 (tmp 7) 3
        intro ax wx hE hR hF
        simp [go_sem, BigFrame.eval_const, BigFrame.eval_global, BigFrame.eval_func, ↓IntWalk.iteOmega, ev (hE.eval 7 (by rfl) e7)]
        with_reducible rfl
      apply Build.det 94 Ext.refl (by rfl) (by rw [k.size]; rfl) rfl
      case h =>   -- 9: t94 := Op.load 5 (tmp 93)
        intro ax wx hE hR hF
        have e93 : ax.eval (.tmp 93) = _ := hF 8 (det 93 _) (by decide) (.head _)
        have q0 : wx.cell? ⟨xb, 3, none⟩ = some (.int .u8 ↑b.toNat) := (OwnT.blk (OwnT.ext O hR) 2 rfl).cell 3
        simp [go_sem, BigFrame.eval_const, BigFrame.eval_global, BigFrame.eval_func, ↓IntWalk.iteOmega, ev e93, q0]
        with_reducible rfl
      apply Build.det 95 Ext.refl (by rfl) (by rw [k.size]; rfl) rfl
      case h =>   -- 10: t95 := Op.move (tmp 15)
        intro ax wx hE hR hF
        exact x_move rfl (hE.eval 15 (by rfl) e15)
      apply Build.det 96 Ext.refl (by rfl) (by rw [k.size]; rfl) rfl
      case h =>   -- 11: t96 := Op.convert 3 5 (tmp 95)
        intro ax wx hE hR hF
        have e95 : ax.eval (.tmp 95) = _ := hF 10 (det 95 _) (by decide) (.head _)
        exact x_conv rfl e95 (conv_u8 z _ (by omega))
      apply Build.det 97 Ext.refl (by rfl) (by rw [k.size]; rfl) rfl
      case h =>   -- 12: t97 := Op.binOp BinOp.add 5 (tmp 94) (tmp 96) 5
        intro ax wx hE hR hF
        have e94 : ax.eval (.tmp 94) = _ := hF 9 (det 94 _) (by decide) (.tail _ (.tail _ (.head _)))
        have e96 : ax.eval (.tmp 96) = _ := hF 11 (det 96 _) (by decide) (.head _)
        exact x_val (v := .int .u8 (bz.toNat : Int)) (x_add8 rfl e94 e96 (by omega)) (by rw [hbz])
      apply Build.call 98 Ext.refl (by rfl) (by rw [k.size]; rfl) rfl
      case h =>   -- 13: t98 := tierce/tiercelaw04.sector
        intro ax wx hE hR hF
        have e97 : ax.eval (.tmp 97) = _ := hF 12 (det 97 _) (by decide) (.head _)
        simp [go_sem, BigFrame.eval_const, BigFrame.eval_global, BigFrame.eval_func, ↓IntWalk.iteOmega, ev e97]
        with_reducible exact ⟨rfl, rfl⟩
      case hc => intro wx hR; exact hsec wx
      apply Build.det 99 Ext.refl (by rfl) (by rw [k.size]; rfl) rfl
      case h =>   -- 14: t99 := Op.indexAddr 77 (tmp 88) (tmp 92)
        intro ax wx hE hR hF
        have e88 : ax.eval (.tmp 88) = _ := hF 3 (det 88 _) (by decide) (.tail _ (.tail _ (.tail _ (.tail _ (.tail _ (.tail _ (.tail _ (.tail _ (.tail _ (.tail _ (.head _)))))))))))
        have e92 : ax.eval (.tmp 92) = _ := hF 7 (det 92 _) (by decide) (.tail _ (.tail _ (.tail _ (.tail _ (.tail _ (.tail _ (.head _)))))))
        simp [go_sem, BigFrame.eval_const, BigFrame.eval_global, BigFrame.eval_func, ↓IntWalk.iteOmega, ev e88, ev e92]
        with_reducible rfl
      apply Build.stop
      refine ⟨by kernel_rfl, .inr ⟨by kernel_rfl, _, rfl, rfl, ?_⟩⟩
      intro a89 w90 hE R hF
      have e98 : a89.eval (.tmp 98) = _ := hF 13 (det 98 _) (.tail _ (.head _))
      have e99 : a89.eval (.tmp 99) = _ := hF 14 (det 99 _) (.head _)
      clear hF
      replace O := OwnT.ext O R
      clear R
      obtain ⟨hcc, hfz⟩ := row1_cell (OwnT.get O 4 rfl) (i := i2) (List.getElem?_eq_getElem (by simp only [strsV, List.length_map, nowL_len]; omega))
      refine last_skip (w' := w90.setCell ⟨g1, i2, none⟩ (.string (sB sz))) rfl (by simp [go_sem, BigFrame.eval_const, BigFrame.eval_global, BigFrame.eval_func, ↓IntWalk.iteOmega, ev e99, ev e98, hcc, hfz]) ?_
      replace O := OwnT.push (L := _ :: _ :: _ :: _ :: _ :: _ :: _ :: R) 4 rfl ((OwnT.pull O 4 rfl).setRow1 (i := i2) (hi2 ▸ hxz) (.string (sB sz)))
      clear hcc hfz
      generalize (w90.setCell ⟨g1, i2, none⟩ (.string (sB sz))) = w91 at O ⊢
      rw [← strsV_set, ← hi2, ← hsz, ← hbz, ← nowL_put, ← wr_step (by omega)] at O
      replace e0 := hE.eval 0 (by rfl) e0
      replace e2 := hE.eval 2 (by rfl) e2
      replace e7 := hE.eval 7 (by rfl) e7
      replace e9 := hE.eval 9 (by rfl) e9
      replace e13 := hE.eval 13 (by rfl) e13
      replace e14 := hE.eval 14 (by rfl) e14
      replace e15 := hE.eval 15 (by rfl) e15
      replace k := k.env hE
      clear hE e82 e98 e99
      refine then_n ?_
      refine wp_typed (R := Ext) (w0 := w91) [[], [0], [0, 1], [0, 1, 2], [], [4], [], [4, 5, 6], [0, 1, 2, 3, 4, 5, 6, 7], [0, 1, 2, 3, 4, 5, 6, 7, 8]] [100, 101, 102, 103, 104, 105, 106, 107, 108] Ext.refl (fun _ _ _ => Ext.trans) (Ext.drew _) (by kernel_rfl) ?_   -- region 20
      apply Build.det 100 Ext.refl (by rfl) (by rw [k.size]; rfl) rfl
      case h =>   -- 0: t100 := Op.move (tmp 2)
        intro ax wx hE hR hF
        exact x_move rfl (hE.eval 2 (by rfl) e2)
      apply Build.det 101 Ext.refl (by rfl) (by rw [k.size]; rfl) rfl
      case h =>   -- 1: t101 := Op.nilCheck (tmp 100)
        intro ax wx hE hR hF
        have e100 : ax.eval (.tmp 100) = _ := hF 0 (det 100 _) (by decide) (.head _)
        exact x_nil rfl e100
      apply Build.det 102 Ext.refl (by rfl) (by rw [k.size]; rfl) rfl
      case h =>   -- 2: t102 := Op.fieldAddr 80 (tmp 101) 2
        intro ax wx hE hR hF
        have e101 : ax.eval (.tmp 101) = _ := hF 1 (det 101 _) (by decide) (.head _)
        simp [go_sem, BigFrame.eval_const, BigFrame.eval_global, BigFrame.eval_func, ↓IntWalk.iteOmega, ev e101]
        with_reducible rfl
      apply Build.det 103 Ext.refl (by rfl) (by rw [k.size]; rfl) rfl
      case h =>   -- 3: t103 := Op.load 78 (tmp 102)
        intro ax wx hE hR hF
        have e102 : ax.eval (.tmp 102) = _ := hF 2 (det 102 _) (by decide) (.head _)
        have q0 : wx.cell? ⟨ub, 2, none⟩ = some (.slice (some ⟨g3, 0, none⟩) n c3) := (OwnT.blk (OwnT.ext O hR) 3 rfl).cell 2
        simp [go_sem, BigFrame.eval_const, BigFrame.eval_global, BigFrame.eval_func, ↓IntWalk.iteOmega, ev e102, q0]
        with_reducible rfl
      apply Build.det 104 Ext.refl (by rfl) (by rw [k.size]; rfl) rfl
      case h =>   -- 4: t104 := Op.fieldAddr 74 (tmp 7) 1
        intro ax wx hE hR hF
        simp [go_sem, BigFrame.eval_const, BigFrame.eval_global, BigFrame.eval_func, ↓IntWalk.iteOmega, ev (hE.eval 7 (by rfl) e7)]
        with_reducible rfl
      apply Build.det 105 Ext.refl (by rfl) (by rw [k.size]; rfl) rfl
      case h =>   -- 5: t105 := Op.load 3 (tmp 104)
        intro ax wx hE hR hF
        have e104 : ax.eval (.tmp 104) = _ := hF 4 (det 104 _) (by decide) (.head _)
        have q0 : wx.cell? ⟨xb, 1, none⟩ = some (.int .i64 ↑x) := (OwnT.blk (OwnT.ext O hR) 2 rfl).cell 1
        simp [go_sem, BigFrame.eval_const, BigFrame.eval_global, BigFrame.eval_func, ↓IntWalk.iteOmega, ev e104, q0]
        with_reducible rfl
      apply Build.det 106 Ext.refl (by rfl) (by rw [k.size]; rfl) rfl
      case h =>   -- 6: t106 := Op.move (tmp 15)
        intro ax wx hE hR hF
        exact x_move rfl (hE.eval 15 (by rfl) e15)
      apply Build.det 107 Ext.refl (by rfl) (by rw [k.size]; rfl) rfl
      case h =>   -- 7: t107 := Op.binOp BinOp.add 3 (tmp 105) (tmp 106) 3
        intro ax wx hE hR hF
        have e105 : ax.eval (.tmp 105) = _ := hF 5 (det 105 _) (by decide) (.tail _ (.head _))
        have e106 : ax.eval (.tmp 106) = _ := hF 6 (det 106 _) (by decide) (.head _)
        exact x_val (v := .int .i64 (i2 : Int)) (x_add rfl e105 e106 (by omega)) (int_eq (by omega))
      apply Build.det 108 Ext.refl (by rfl) (by rw [k.size]; rfl) rfl
      case h =>   -- 8: t108 := Op.indexAddr 78 (tmp 103) (tmp 107)
        intro ax wx hE hR hF
        have e103 : ax.eval (.tmp 103) = _ := hF 3 (det 103 _) (by decide) (.tail _ (.tail _ (.tail _ (.tail _ (.head _)))))
        have e107 : ax.eval (.tmp 107) = _ := hF 7 (det 107 _) (by decide) (.head _)
        simp [go_sem, BigFrame.eval_const, BigFrame.eval_global, BigFrame.eval_func, ↓IntWalk.iteOmega, ev e103, ev e107]
        with_reducible rfl
      apply Build.stop
      refine ⟨by kernel_rfl, .inr ⟨by kernel_rfl, _, rfl, rfl, ?_⟩⟩
      intro a92 w93 hE R hF
      have e108 : a92.eval (.tmp 108) = _ := hF 8 (det 108 _) (.head _)
      clear hF
      replace O := OwnT.ext O R
      clear R
      obtain ⟨hcc, hfz⟩ := row1_cell (OwnT.get O 6 rfl) (i := i2) (List.getElem?_eq_getElem (by simp only [boolsV, List.length_map, isL_len]; omega))
      refine last_skip (w' := w93.setCell ⟨g3, i2, none⟩ (.bool true)) rfl (by simp [go_sem, BigFrame.eval_const, BigFrame.eval_global, BigFrame.eval_func, ↓IntWalk.iteOmega, ev e108, hcc, hfz]) ?_
      replace O := OwnT.push (L := _ :: _ :: _ :: _ :: _ :: _ :: _ :: R) 6 rfl ((OwnT.pull O 6 rfl).setRow1 (i := i2) (hi2 ▸ hxz) (.bool true))
      clear hcc hfz
      generalize (w93.setCell ⟨g3, i2, none⟩ (.bool true)) = w94 at O ⊢
      rw [show (boolsV (isL n (wrS (wT b j) ↑x L z))).set i2 (.bool true) = boolsV (isL n (wrS (wT b j) ↑x L (z + 1))) by rw [wr_step (by omega), isL_put, hi2]; simp [boolsV, List.map_set]] at O
      replace e0 := hE.eval 0 (by rfl) e0
      replace e2 := hE.eval 2 (by rfl) e2
      replace e7 := hE.eval 7 (by rfl) e7
      replace e9 := hE.eval 9 (by rfl) e9
      replace e13 := hE.eval 13 (by rfl) e13
      replace e14 := hE.eval 14 (by rfl) e14
      replace e15 := hE.eval 15 (by rfl) e15
      replace k := k.env hE
      clear hE e108
      refine block_n ?_
      refine then_n ?_
      refine wp_region_lit ?_   -- region 18
      have hE := Env.refl a92 [83, 84, 15]
      apply sq_det 83 hE k rfl (by rfl) (by rfl) rfl
      case h =>   -- 0: t83 := Op.move (tmp 15)
        exact x_move rfl e15
      intro a95 hE e83 kp
      replace e15 := (kp 15 rfl).trans e15
      apply sq_det 84 hE k rfl (by rfl) (by rfl) rfl
      case h =>   -- 1: t84 := Op.binOp BinOp.add 3 (tmp 83) (const (Value.int IntKind.i64 1)) 3
        exact x_add rfl e83 rfl (by omega)
      intro a96 hE e84 kp
      replace e15 := (kp 15 rfl).trans e15
      apply sq_det 15 hE k rfl (by rfl) (by rfl) rfl
      case h =>   -- 2: t15 := Op.assign (tmp 84)
        exact x_assign rfl e84
      intro a97 hE e15 kp
      refine wpList_nil ?_
      replace e0 := hE.eval 0 (by rfl) e0
      replace e2 := hE.eval 2 (by rfl) e2
      replace e7 := hE.eval 7 (by rfl) e7
      replace e9 := hE.eval 9 (by rfl) e9
      replace e13 := hE.eval 13 (by rfl) e13
      replace e14 := hE.eval 14 (by rfl) e14
      replace k := k.env hE
      clear hE
      refine then_n ?_
      refine ⟨⟨k, e0, e2, e7, e9, e13, e14, z + 1, e15, by omega, O⟩, ?_⟩
      rw [e15, mz]; simp only [intOf]; omega
    · obtain rfl : z = i := by omega
      refine wp_seq ?_
      refine wp_seq ?_
      refine wp_region_lit ?_   -- region 17
      have hE := Env.refl a79 [75, 76, 77, 78, 79, 80, 81, 82]
      apply sq_det 75 hE k rfl (by rfl) (by rfl) rfl
      case h =>   -- 0: t75 := Op.move (tmp 15)
        exact x_move rfl (hE.eval 15 (by rfl) e15)
      intro a98 hE e75 kp
      apply sq_det 76 hE k rfl (by rfl) (by rfl) rfl
      case h =>   -- 1: t76 := Op.move (tmp 14)
        exact x_move rfl (hE.eval 14 (by rfl) e14)
      intro a99 hE e76 kp
      replace e75 := (kp 75 rfl).trans e75
      apply sq_det 77 hE k rfl (by rfl) (by rfl) rfl
      case h =>   -- 2: t77 := Op.binOp BinOp.lss 3 (tmp 75) (tmp 76) 3
        exact x_dec (x_lss rfl e75 e76) (decide_eq_false (by omega))
      intro a100 hE e77 kp
      apply sq_det 78 hE k rfl (by rfl) (by rfl) rfl
      case h =>   -- 3: t78 := Op.move (tmp 77)
        exact x_move rfl e77
      intro a101 hE e78 kp
      refine sq_skipg 79 hE k rfl (by rfl) (by rfl) rfl rfl (.inl e78) ?_
      intro a102 hE e79 kp
      replace e78 := (kp 78 rfl).trans e78
      refine sq_skipg 80 hE k rfl (by rfl) (by rfl) rfl rfl (.inl e78) ?_
      intro a103 hE e80 kp
      replace e78 := (kp 78 rfl).trans e78
      replace e79 := (kp 79 rfl).trans e79
      refine sq_skipg 81 hE k rfl (by rfl) (by rfl) rfl rfl (.inl e78) ?_
      intro a104 hE e81 kp
      replace e78 := (kp 78 rfl).trans e78
      apply sq_det 82 hE k rfl (by rfl) (by rfl) rfl
      case h =>   -- 7: t82 := Op.pick (tmp 78) (tmp 81) (const (Value.bool false))
        exact x_pick_f rfl e78 rfl
      intro a105 hE e82 kp
      refine wpList_nil ?_
      replace e0 := hE.eval 0 (by rfl) e0
      replace e2 := hE.eval 2 (by rfl) e2
      replace e7 := hE.eval 7 (by rfl) e7
      replace e9 := hE.eval 9 (by rfl) e9
      replace e13 := hE.eval 13 (by rfl) e13
      replace e14 := hE.eval 14 (by rfl) e14
      replace e15 := hE.eval 15 (by rfl) e15
      replace k := k.env hE
      clear hE
      refine then_n ?_
      refine cond_f e82 rfl ?_
      refine wp_exit ?_
      refine then_x ?_
      refine then_x ?_
      refine block_x ?_
      refine then_n ?_
      by_cases hzj : z = j
      · rw [if_pos hzj] at e13
        refine wp_seq ?_
        refine wp_region_lit ?_   -- region 21
        have hE := Env.refl a105 [109, 110, 111, 112, 113, 114, 115, 116, 117, 118, 119, 120, 121, 122, 123, 124, 125, 126, 127, 128, 129, 130, 131, 132, 8]
        apply sq_det 109 hE k rfl (by rfl) (by rfl) rfl
        case h =>   -- 0: t109 := Op.move (tmp 14)
          exact x_move rfl (hE.eval 14 (by rfl) e14)
        intro a106 hE e109 kp
        apply sq_det 110 hE k rfl (by rfl) (by rfl) rfl
        case h =>   -- 1: t110 := Op.move (tmp 9)
          exact x_move rfl (hE.eval 9 (by rfl) e9)
        intro a107 hE e110 kp
        replace e109 := (kp 109 rfl).trans e109
        apply sq_det 111 hE k rfl (by rfl) (by rfl) rfl
        case h =>   -- 2: t111 := Op.binOp BinOp.leq 3 (tmp 109) (tmp 110) 3
          exact x_dec (x_leq rfl e109 e110) (decide_eq_true (by omega))
        intro a108 hE e111 kp
        apply sq_det 112 hE k rfl (by rfl) (by rfl) rfl
        case h =>   -- 3: t112 := Op.move (tmp 111)
          exact x_move rfl e111
        intro a109 hE e112 kp
        apply sq_detg 113 hE k rfl (by rfl) (by rfl) rfl rfl e112
        case h =>   -- 4: t113 := Op.move (tmp 13)
          exact x_move rfl (hE.eval 13 (by rfl) e13)
        intro a110 hE e113 kp
        replace e112 := (kp 112 rfl).trans e112
        apply sq_detg 114 hE k rfl (by rfl) (by rfl) rfl rfl e112
        case h =>   -- 5: t114 := Op.binOp BinOp.eql 36 (tmp 113) (const (Value.int IntKind.i64 0)) 36
          exact x_eql rfl e113 rfl
        intro a111 hE e114 kp
        replace e112 := (kp 112 rfl).trans e112
        apply sq_detg 115 hE k rfl (by rfl) (by rfl) rfl rfl e112
        case h =>   -- 6: t115 := Op.move (tmp 14)
          exact x_move rfl (hE.eval 14 (by rfl) e14)
        intro a112 hE e115 kp
        replace e112 := (kp 112 rfl).trans e112
        replace e114 := (kp 114 rfl).trans e114
        apply sq_detg 116 hE k rfl (by rfl) (by rfl) rfl rfl e112
        case h =>   -- 7: t116 := Op.move (tmp 9)
          exact x_move rfl (hE.eval 9 (by rfl) e9)
        intro a113 hE e116 kp
        replace e112 := (kp 112 rfl).trans e112
        replace e114 := (kp 114 rfl).trans e114
        replace e115 := (kp 115 rfl).trans e115
        apply sq_detg 117 hE k rfl (by rfl) (by rfl) rfl rfl e112
        case h =>   -- 8: t117 := Op.binOp BinOp.eql 3 (tmp 115) (tmp 116) 3
          exact x_dec (x_eql rfl e115 e116) (decide_eq_true (by omega))
        intro a114 hE e117 kp
        replace e112 := (kp 112 rfl).trans e112
        replace e114 := (kp 114 rfl).trans e114
        apply sq_detg 118 hE k rfl (by rfl) (by rfl) rfl rfl e112
        case h =>   -- 9: t118 := Op.binOp BinOp.eql 4 (tmp 114) (tmp 117) 4
          simp [go_sem, BigFrame.eval_const, BigFrame.eval_global, BigFrame.eval_func, ↓IntWalk.iteOmega, ev e114, ev e117]
          with_reducible rfl
        intro a115 hE e118 kp
        replace e112 := (kp 112 rfl).trans e112
        apply sq_det 119 hE k rfl (by rfl) (by rfl) rfl
        case h =>   -- 10: t119 := Op.pick (tmp 112) (tmp 118) (const (Value.bool false))
          exact x_pick_t rfl e112 e118
        intro a116 hE e119 kp
        apply sq_det 120 hE k rfl (by rfl) (by rfl) rfl
        case h =>   -- 11: t120 := Op.move (tmp 119)
          exact x_move rfl e119
        intro a117 hE e120 kp
        apply sq_detg 121 hE k rfl (by rfl) (by rfl) rfl rfl e120
        case h =>   -- 12: t121 := Op.move (tmp 13)
          exact x_move rfl (hE.eval 13 (by rfl) e13)
        intro a118 hE e121 kp
        replace e120 := (kp 120 rfl).trans e120
        apply sq_detg 122 hE k rfl (by rfl) (by rfl) rfl rfl e120
        case h =>   -- 13: t122 := Op.binOp BinOp.eql 36 (tmp 121) (const (Value.int IntKind.i64 0)) 36
          exact x_eql rfl e121 rfl
        intro a119 hE e122 kp
        replace e120 := (kp 120 rfl).trans e120
        apply sq_detg 123 hE k rfl (by rfl) (by rfl) rfl rfl e120
        case h =>   -- 14: t123 := Op.move (tmp 122)
          exact x_move rfl e122
        intro a120 hE e123 kp
        replace e120 := (kp 120 rfl).trans e120
        refine sq_skipg 124 hE k rfl (by rfl) (by rfl) rfl rfl (.inl e123) ?_
        intro a121 hE e124 kp
        replace e120 := (kp 120 rfl).trans e120
        replace e123 := (kp 123 rfl).trans e123
        refine sq_skipg 125 hE k rfl (by rfl) (by rfl) rfl rfl (.inl e123) ?_
        intro a122 hE e125 kp
        replace e120 := (kp 120 rfl).trans e120
        replace e123 := (kp 123 rfl).trans e123
        refine sq_skipg 126 hE k rfl (by rfl) (by rfl) rfl rfl (.inl e123) ?_
        intro a123 hE e126 kp
        replace e120 := (kp 120 rfl).trans e120
        replace e123 := (kp 123 rfl).trans e123
        refine sq_skipg 127 hE k rfl (by rfl) (by rfl) rfl rfl (.inr e126) ?_
        intro a124 hE e127 kp
        replace e120 := (kp 120 rfl).trans e120
        replace e123 := (kp 123 rfl).trans e123
        replace e126 := (kp 126 rfl).trans e126
        refine sq_skipg 128 hE k rfl (by rfl) (by rfl) rfl rfl (.inr e126) ?_
        intro a125 hE e128 kp
        replace e120 := (kp 120 rfl).trans e120
        replace e123 := (kp 123 rfl).trans e123
        replace e126 := (kp 126 rfl).trans e126
        refine sq_skipg 129 hE k rfl (by rfl) (by rfl) rfl rfl (.inr e126) ?_
        intro a126 hE e129 kp
        replace e120 := (kp 120 rfl).trans e120
        replace e123 := (kp 123 rfl).trans e123
        replace e126 := (kp 126 rfl).trans e126
        refine sq_skipg 130 hE k rfl (by rfl) (by rfl) rfl rfl (.inl e123) ?_
        intro a127 hE e130 kp
        replace e120 := (kp 120 rfl).trans e120
        replace e123 := (kp 123 rfl).trans e123
        apply sq_detg 131 hE k rfl (by rfl) (by rfl) rfl rfl e120
        case h =>   -- 22: t131 := Op.pick (tmp 123) (const (Value.bool true)) (tmp 130)
          exact x_pick_t rfl e123 rfl
        intro a128 hE e131 kp
        replace e120 := (kp 120 rfl).trans e120
        apply sq_det 132 hE k rfl (by rfl) (by rfl) rfl
        case h =>   -- 23: t132 := Op.pick (tmp 120) (tmp 131) (const (Value.bool false))
          exact x_pick_t rfl e120 e131
        intro a129 hE e132 kp
        apply sq_det 8 hE k rfl (by rfl) (by rfl) rfl
        case h =>   -- 24: t8 := Op.assign (tmp 132)
          exact x_assign rfl e132
        intro a130 hE e8 kp
        refine wpList_nil ?_
        replace k := k.env hE
        clear hE e0 e2 e7 e9 e13 e14 e15 e82
        refine then_n ?_
        refine wp_ret ?_
        refine block_r ?_
        refine then_r ?_
        replace O := OwnT.drop3 O
        refine ret_F1 rfl k e8 ?_
        exact ⟨rfl, S, wrS (wT b j) ↑x L z, M', hM'.mono (by omega), O⟩
      · rw [if_neg hzj] at e13
        have haw := ha (by omega)
        refine wp_seq ?_
        refine wp_region_lit ?_   -- region 21
        have hE := Env.refl a105 [109, 110, 111, 112, 113, 114, 115, 116, 117, 118, 119, 120, 121, 122, 123, 124, 125, 126, 127, 128, 129, 130, 131, 132, 8]
        apply sq_det 109 hE k rfl (by rfl) (by rfl) rfl
        case h =>   -- 0: t109 := Op.move (tmp 14)
          exact x_move rfl (hE.eval 14 (by rfl) e14)
        intro a131 hE e109 kp
        apply sq_det 110 hE k rfl (by rfl) (by rfl) rfl
        case h =>   -- 1: t110 := Op.move (tmp 9)
          exact x_move rfl (hE.eval 9 (by rfl) e9)
        intro a132 hE e110 kp
        replace e109 := (kp 109 rfl).trans e109
        apply sq_det 111 hE k rfl (by rfl) (by rfl) rfl
        case h =>   -- 2: t111 := Op.binOp BinOp.leq 3 (tmp 109) (tmp 110) 3
          exact x_dec (x_leq rfl e109 e110) (decide_eq_true (by omega))
        intro a133 hE e111 kp
        apply sq_det 112 hE k rfl (by rfl) (by rfl) rfl
        case h =>   -- 3: t112 := Op.move (tmp 111)
          exact x_move rfl e111
        intro a134 hE e112 kp
        apply sq_detg 113 hE k rfl (by rfl) (by rfl) rfl rfl e112
        case h =>   -- 4: t113 := Op.move (tmp 13)
          exact x_move rfl (hE.eval 13 (by rfl) e13)
        intro a135 hE e113 kp
        replace e112 := (kp 112 rfl).trans e112
        apply sq_detg 114 hE k rfl (by rfl) (by rfl) rfl rfl e112
        case h =>   -- 5: t114 := Op.binOp BinOp.eql 36 (tmp 113) (const (Value.int IntKind.i64 0)) 36
          exact x_eql rfl e113 rfl
        intro a136 hE e114 kp
        replace e112 := (kp 112 rfl).trans e112
        apply sq_detg 115 hE k rfl (by rfl) (by rfl) rfl rfl e112
        case h =>   -- 6: t115 := Op.move (tmp 14)
          exact x_move rfl (hE.eval 14 (by rfl) e14)
        intro a137 hE e115 kp
        replace e112 := (kp 112 rfl).trans e112
        replace e114 := (kp 114 rfl).trans e114
        apply sq_detg 116 hE k rfl (by rfl) (by rfl) rfl rfl e112
        case h =>   -- 7: t116 := Op.move (tmp 9)
          exact x_move rfl (hE.eval 9 (by rfl) e9)
        intro a138 hE e116 kp
        replace e112 := (kp 112 rfl).trans e112
        replace e114 := (kp 114 rfl).trans e114
        replace e115 := (kp 115 rfl).trans e115
        apply sq_detg 117 hE k rfl (by rfl) (by rfl) rfl rfl e112
        case h =>   -- 8: t117 := Op.binOp BinOp.eql 3 (tmp 115) (tmp 116) 3
          exact x_dec (x_eql rfl e115 e116) (decide_eq_false (by omega))
        intro a139 hE e117 kp
        replace e112 := (kp 112 rfl).trans e112
        replace e114 := (kp 114 rfl).trans e114
        apply sq_detg 118 hE k rfl (by rfl) (by rfl) rfl rfl e112
        case h =>   -- 9: t118 := Op.binOp BinOp.eql 4 (tmp 114) (tmp 117) 4
          simp [go_sem, BigFrame.eval_const, BigFrame.eval_global, BigFrame.eval_func, ↓IntWalk.iteOmega, ev e114, ev e117]
          with_reducible rfl
        intro a140 hE e118 kp
        replace e112 := (kp 112 rfl).trans e112
        apply sq_det 119 hE k rfl (by rfl) (by rfl) rfl
        case h =>   -- 10: t119 := Op.pick (tmp 112) (tmp 118) (const (Value.bool false))
          exact x_pick_t rfl e112 e118
        intro a141 hE e119 kp
        apply sq_det 120 hE k rfl (by rfl) (by rfl) rfl
        case h =>   -- 11: t120 := Op.move (tmp 119)
          exact x_move rfl e119
        intro a142 hE e120 kp
        apply sq_detg 121 hE k rfl (by rfl) (by rfl) rfl rfl e120
        case h =>   -- 12: t121 := Op.move (tmp 13)
          exact x_move rfl (hE.eval 13 (by rfl) e13)
        intro a143 hE e121 kp
        replace e120 := (kp 120 rfl).trans e120
        apply sq_detg 122 hE k rfl (by rfl) (by rfl) rfl rfl e120
        case h =>   -- 13: t122 := Op.binOp BinOp.eql 36 (tmp 121) (const (Value.int IntKind.i64 0)) 36
          exact x_eql rfl e121 rfl
        intro a144 hE e122 kp
        replace e120 := (kp 120 rfl).trans e120
        apply sq_detg 123 hE k rfl (by rfl) (by rfl) rfl rfl e120
        case h =>   -- 14: t123 := Op.move (tmp 122)
          exact x_move rfl e122
        intro a145 hE e123 kp
        replace e120 := (kp 120 rfl).trans e120
        apply sq_detg 124 hE k rfl (by rfl) (by rfl) rfl rfl e123
        case h =>   -- 15: t124 := Op.move (tmp 13)
          exact x_move rfl (hE.eval 13 (by rfl) e13)
        intro a146 hE e124 kp
        replace e120 := (kp 120 rfl).trans e120
        replace e123 := (kp 123 rfl).trans e123
        apply sq_detg 125 hE k rfl (by rfl) (by rfl) rfl rfl e123
        case h =>   -- 16: t125 := Op.binOp BinOp.eql 36 (tmp 124) (const (Value.int IntKind.i64 4)) 36
          exact x_eql rfl e124 rfl
        intro a147 hE e125 kp
        replace e120 := (kp 120 rfl).trans e120
        replace e123 := (kp 123 rfl).trans e123
        apply sq_detg 126 hE k rfl (by rfl) (by rfl) rfl rfl e123
        case h =>   -- 17: t126 := Op.move (tmp 125)
          exact x_move rfl e125
        intro a148 hE e126 kp
        replace e120 := (kp 120 rfl).trans e120
        replace e123 := (kp 123 rfl).trans e123
        apply sq_detg 127 hE k rfl (by rfl) (by rfl) rfl rfl e126
        case h =>   -- 18: t127 := Op.move (tmp 0)
          exact x_move rfl (hE.eval 0 (by rfl) e0)
        intro a149 hE e127 kp
        replace e120 := (kp 120 rfl).trans e120
        replace e123 := (kp 123 rfl).trans e123
        replace e126 := (kp 126 rfl).trans e126
        apply sq_callg 128 hE k rfl (by rfl) (by rfl) rfl rfl e126
        case h =>   -- (*tierce/mains.Mains).On
          simp [go_sem, BigFrame.eval_const, BigFrame.eval_global, BigFrame.eval_func, ↓IntWalk.iteOmega, ev e127]
          with_reducible exact ⟨rfl, rfl⟩
        case hc => exact on_mn (OwnT.get O 1 rfl)
        rintro e _ ⟨rfl, rfl⟩
        refine ⟨_, congrArg (fun b => Ending.returned (.bool !b)) haw, ?_⟩
        intro a150 hE e128 kp
        replace e120 := (kp 120 rfl).trans e120
        replace e123 := (kp 123 rfl).trans e123
        replace e126 := (kp 126 rfl).trans e126
        apply sq_detg 129 hE k rfl (by rfl) (by rfl) rfl rfl e126
        case h =>   -- 20: t129 := Op.unOp UnOp.not 4 (tmp 128)
          exact x_not rfl e128
        intro a151 hE e129 kp
        replace e120 := (kp 120 rfl).trans e120
        replace e123 := (kp 123 rfl).trans e123
        replace e126 := (kp 126 rfl).trans e126
        apply sq_detg 130 hE k rfl (by rfl) (by rfl) rfl rfl e123
        case h =>   -- 21: t130 := Op.pick (tmp 126) (tmp 129) (const (Value.bool false))
          exact x_pick_t rfl e126 e129
        intro a152 hE e130 kp
        replace e120 := (kp 120 rfl).trans e120
        replace e123 := (kp 123 rfl).trans e123
        apply sq_detg 131 hE k rfl (by rfl) (by rfl) rfl rfl e120
        case h =>   -- 22: t131 := Op.pick (tmp 123) (const (Value.bool true)) (tmp 130)
          exact x_pick_f rfl e123 e130
        intro a153 hE e131 kp
        replace e120 := (kp 120 rfl).trans e120
        apply sq_det 132 hE k rfl (by rfl) (by rfl) rfl
        case h =>   -- 23: t132 := Op.pick (tmp 120) (tmp 131) (const (Value.bool false))
          exact x_pick_t rfl e120 e131
        intro a154 hE e132 kp
        apply sq_det 8 hE k rfl (by rfl) (by rfl) rfl
        case h =>   -- 24: t8 := Op.assign (tmp 132)
          exact x_assign rfl e132
        intro a155 hE e8 kp
        refine wpList_nil ?_
        replace k := k.env hE
        clear hE e0 e2 e7 e9 e13 e14 e15 e82
        refine then_n ?_
        refine wp_ret ?_
        refine block_r ?_
        refine then_r ?_
        replace O := OwnT.drop3 O
        refine ret_F1 rfl k e8 ?_
        exact ⟨rfl, S, wrS (wT b j) ↑x L z, M', hM'.mono (by omega), O⟩
set_option maxRecDepth 100000 in
set_option maxHeartbeats 4000000 in
theorem do_write2 {H : Nat} {A0 : World} {R : List Thing} {p mb ub n cap bm c1 c2 c3 : Nat} {B B1 B2 B3 : Option Addr} {S : List Sec} {L : Int → Option Sec} {M : Mn} {c : Int} {x N : Int} {b : UInt8} {q : List UInt8} (w : World) (O : OwnT H A0 ((tDisc p mb B n cap bm S L) :: (tMn mb M) :: (tBlk ub 80 #[.slice B1 n c1, .slice B2 n c2, .slice B3 n c3]) :: (tRow 9 1 (.slice B1 n c1) n (strsV (nowL S L))) :: (tRow 9 1 (.slice B2 n c2) n (strsV S)) :: (tRow 4 1 (.slice B3 n c3) n (boolsV (isL n L))) :: R) w) (hM : M.Ok c) (hc : c ≤ 1000000) (hc1 : n ≤ c1)  : Calls Try.prog 45 #[.pointer (some ⟨mb, 0, none⟩), .pointer (some ⟨p, 0, none⟩), .pointer (some ⟨ub, 0, none⟩), .agg #[.int .i64 2, .int .i64 x, .int .i64 N, .int .u8 (b.toNat : Int), .string (sB q)]] w fun e w' => e = .returned (.bool true) ∧ ∃ S' L' M', M'.Ok (c + 20) ∧ OwnT H A0 ((tDisc p mb B n cap bm S' L') :: (tMn mb M') :: (tBlk ub 80 #[.slice B1 n c1, .slice B2 n c2, .slice B3 n c3]) :: (tRow 9 1 (.slice B1 n c1) n (strsV (nowL S' L'))) :: (tRow 9 1 (.slice B2 n c2) n (strsV S')) :: (tRow 4 1 (.slice B3 n c3) n (boolsV (isL n L'))) :: R) w' := by
  have hk := O.dok
  have hnl := hk.le
  have hSn := hk.len
  refine calls_F Try.func45 rfl 232 rfl (by rfl) ?_
  intro a1 k hargs
  have e0 : a1.eval (.tmp 0) = .pointer (some ⟨mb, 0, none⟩) := hargs 0 _ rfl
  have e1 : a1.eval (.tmp 1) = .pointer (some ⟨p, 0, none⟩) := hargs 1 _ rfl
  have e2 : a1.eval (.tmp 2) = .pointer (some ⟨ub, 0, none⟩) := hargs 2 _ rfl
  have e3 : a1.eval (.tmp 3) = .agg #[.int .i64 2, .int .i64 x, .int .i64 N, .int .u8 ↑b.toNat, .string (sB q)] := hargs 3 _ rfl
  clear hargs
  refine wp_seq ?_
  refine wp_region_lit ?_   -- region 0
  have hE := Env.refl a1 [7, 8]
  refine sq_new O (cs := #[.int .i64 2, .int .i64 x, .int .i64 N, .int .u8 ↑b.toNat, .string (sB q)]) (t := 74) 7 hE k rfl (by rfl) (by rfl) rfl (by simp [go_sem, BigFrame.eval_const, BigFrame.eval_global, BigFrame.eval_func, ↓IntWalk.iteOmega, ev (hE.eval 3 (by rfl) e3)]) ?_
  clear O
  intro xb a2 w3 O hE e7 kp
  apply sq_det 8 hE k rfl (by rfl) (by rfl) rfl
  case h =>   -- 1: t8 := Op.assign (const (Value.bool false))
    exact x_assign rfl rfl
  intro a4 hE e8 kp
  replace e7 := (kp 7 rfl).trans e7
  refine wpList_nil ?_
  replace e0 := hE.eval 0 (by rfl) e0
  replace e1 := hE.eval 1 (by rfl) e1
  replace e2 := hE.eval 2 (by rfl) e2
  replace k := k.env hE
  clear hE e3 e8
  refine then_n ?_
  replace O := OwnT.turn3 O
  replace O : OwnT _ _ ((tDisc p mb B n cap bm S L) :: (tMn mb M) :: (tBlk xb 74 #[.int .i64 2, .int .i64 x, .int .i64 N, .int .u8 ↑b.toNat, .string (sB q)]) :: (tBlk ub 80 #[.slice B1 n c1, .slice B2 n c2, .slice B3 n c3]) :: (tRow 9 1 (.slice B1 n c1) n (strsV (nowL S L))) :: (tRow 9 1 (.slice B2 n c2) n (strsV S)) :: (tRow 4 1 (.slice B3 n c3) n (boolsV (isL n L))) :: R) w3 := O
  obtain ⟨m, hm⟩ : ∃ m, uN N % 6 = m := ⟨_, rfl⟩
  have hm5 : m ≤ 5 := by omega
  refine wp_seq ?_
  refine wp_seq ?_
  refine wp_region_lit ?_   -- region 1
  have hE := Env.refl a4 [20, 21]
  apply sq_det 20 hE k rfl (by rfl) (by rfl) rfl
  case h =>   -- 0: t20 := Op.fieldAddr 74 (tmp 7) 0
    simp [go_sem, BigFrame.eval_const, BigFrame.eval_global, BigFrame.eval_func, ↓IntWalk.iteOmega, ev (hE.eval 7 (by rfl) e7)]
    with_reducible rfl
  intro a5 hE e20 kp
  apply sq_det 21 hE k rfl (by rfl) (by rfl) rfl
  case h =>   -- 1: t21 := Op.load 3 (tmp 20)
    have q0 : w3.cell? ⟨xb, 0, none⟩ = some (.int .i64 2) := (OwnT.blk O 2 rfl).cell 0
    simp [go_sem, BigFrame.eval_const, BigFrame.eval_global, BigFrame.eval_func, ↓IntWalk.iteOmega, ev e20, q0]
    with_reducible rfl
  intro a6 hE e21 kp
  refine wpList_nil ?_
  replace e0 := hE.eval 0 (by rfl) e0
  replace e1 := hE.eval 1 (by rfl) e1
  replace e2 := hE.eval 2 (by rfl) e2
  replace e7 := hE.eval 7 (by rfl) e7
  replace k := k.env hE
  clear hE
  refine then_n ?_
  refine wp_block ?_
  refine wp_seq ?_
  refine wp_seq ?_
  refine wp_region_lit ?_   -- region 3
  have hE := Env.refl a6 [30, 29]
  apply sq_det 30 hE k rfl (by rfl) (by rfl) rfl
  case h =>   -- 0: t30 := Op.binOp BinOp.eql 3 (tmp 21) (const (Value.int IntKind.i64 1)) 3
    exact x_eql rfl (hE.eval 21 (by rfl) e21) rfl
  intro a7 hE e30 kp
  apply sq_det 29 hE k rfl (by rfl) (by rfl) rfl
  case h =>   -- 1: t29 := Op.assign (tmp 30)
    exact x_assign rfl e30
  intro a8 hE e29 kp
  refine wpList_nil ?_
  replace e0 := hE.eval 0 (by rfl) e0
  replace e1 := hE.eval 1 (by rfl) e1
  replace e2 := hE.eval 2 (by rfl) e2
  replace e7 := hE.eval 7 (by rfl) e7
  replace e21 := hE.eval 21 (by rfl) e21
  replace k := k.env hE
  clear hE
  refine then_n ?_
  refine cond_f e29 rfl ?_
  refine wp_region_lit ?_   -- region 4
  have hE := Env.refl a8 [31, 29]
  apply sq_det 31 hE k rfl (by rfl) (by rfl) rfl
  case h =>   -- 0: t31 := Op.binOp BinOp.eql 3 (tmp 21) (const (Value.int IntKind.i64 2)) 3
    exact x_eql rfl (hE.eval 21 (by rfl) e21) rfl
  intro a9 hE e31 kp
  apply sq_det 29 hE k rfl (by rfl) (by rfl) rfl
  case h =>   -- 1: t29 := Op.assign (tmp 31)
    exact x_assign rfl e31
  intro a10 hE e29 kp
  refine wpList_nil ?_
  replace e0 := hE.eval 0 (by rfl) e0
  replace e1 := hE.eval 1 (by rfl) e1
  replace e2 := hE.eval 2 (by rfl) e2
  replace e7 := hE.eval 7 (by rfl) e7
  replace e21 := hE.eval 21 (by rfl) e21
  replace k := k.env hE
  clear hE
  refine then_n ?_
  refine cond_t e29 rfl ?_
  refine wp_seq ?_
  refine wp_region_lit ?_   -- region 5
  have hE := Env.refl a10 [32, 33, 34, 35, 36, 9]
  apply sq_det 32 hE k rfl (by rfl) (by rfl) rfl
  case h =>   -- 0: t32 := Op.fieldAddr 74 (tmp 7) 2
    simp [go_sem, BigFrame.eval_const, BigFrame.eval_global, BigFrame.eval_func, ↓IntWalk.iteOmega, ev (hE.eval 7 (by rfl) e7)]
    with_reducible rfl
  intro a11 hE e32 kp
  apply sq_det 33 hE k rfl (by rfl) (by rfl) rfl
  case h =>   -- 1: t33 := Op.load 3 (tmp 32)
    have q0 : w3.cell? ⟨xb, 2, none⟩ = some (.int .i64 N) := (OwnT.blk O 2 rfl).cell 2
    simp [go_sem, BigFrame.eval_const, BigFrame.eval_global, BigFrame.eval_func, ↓IntWalk.iteOmega, ev e32, q0]
    with_reducible rfl
  intro a12 hE e33 kp
  apply sq_det 34 hE k rfl (by rfl) (by rfl) rfl
  case h =>   -- 2: t34 := Op.convert 3 86 (tmp 33)
    exact x_conv rfl e33 (conv_uint N _)
  intro a13 hE e34 kp
  apply sq_det 35 hE k rfl (by rfl) (by rfl) rfl
  case h =>   -- 3: t35 := Op.binOp BinOp.rem 86 (tmp 34) (const (Value.int IntKind.u64 6)) 86
    exact x_remU (m := uN N) (j := 6) rfl e34 rfl rfl (by decide)
  intro a14 hE e35 kp
  apply sq_det 36 hE k rfl (by rfl) (by rfl) rfl
  case h =>   -- 4: t36 := Op.convert 86 3 (tmp 35)
    exact x_conv rfl e35 (conv_int _ _ (by omega))
  intro a15 hE e36 kp
  replace e36 := e36.trans (int_eq (show ((uN N % 6 : Nat) : Int) = (m : Int) by rw [hm]))
  apply sq_det 9 hE k rfl (by rfl) (by rfl) rfl
  case h =>   -- 5: t9 := Op.assign (tmp 36)
    exact x_assign rfl e36
  intro a16 hE e9 kp
  refine wpList_nil ?_
  replace e0 := hE.eval 0 (by rfl) e0
  replace e1 := hE.eval 1 (by rfl) e1
  replace e2 := hE.eval 2 (by rfl) e2
  replace e7 := hE.eval 7 (by rfl) e7
  replace k := k.env hE
  clear hE e21 e29
  refine then_n ?_
  refine wp_seq ?_
  refine wp_region_lit ?_   -- region 6
  have hE := Env.refl a16 [10]
  apply sq_det 10 hE k rfl (by rfl) (by rfl) rfl
  case h =>   -- 0: t10 := Op.assign (const (Value.string {data := #[]}))
    exact x_assign rfl rfl
  intro a17 hE e10 kp
  refine wpList_nil ?_
  replace e0 := hE.eval 0 (by rfl) e0
  replace e1 := hE.eval 1 (by rfl) e1
  replace e2 := hE.eval 2 (by rfl) e2
  replace e7 := hE.eval 7 (by rfl) e7
  replace e9 := hE.eval 9 (by rfl) e9
  replace k := k.env hE
  clear hE
  refine then_n ?_
  refine wp_seq ?_
  refine wp_seq ?_
  refine wp_region_lit ?_   -- region 7
  have hE := Env.refl a17 [11]
  apply sq_det 11 hE k rfl (by rfl) (by rfl) rfl
  case h =>   -- 0: t11 := Op.assign (const (Value.int IntKind.i64 0))
    exact x_assign rfl rfl
  intro a18 hE e11 kp
  refine wpList_nil ?_
  replace e0 := hE.eval 0 (by rfl) e0
  replace e1 := hE.eval 1 (by rfl) e1
  replace e2 := hE.eval 2 (by rfl) e2
  replace e7 := hE.eval 7 (by rfl) e7
  replace e9 := hE.eval 9 (by rfl) e9
  replace e10 := hE.eval 10 (by rfl) e10
  replace k := k.env hE
  clear hE
  refine then_n ?_
  refine wp_block ?_
  refine wp_loop (fun a w => Fr 232 a ∧ a.eval (.tmp 0) = .pointer (some ⟨mb, 0, none⟩) ∧ a.eval (.tmp 1) = .pointer (some ⟨p, 0, none⟩) ∧ a.eval (.tmp 2) = .pointer (some ⟨ub, 0, none⟩) ∧ a.eval (.tmp 7) = .pointer (some ⟨xb, 0, none⟩) ∧ a.eval (.tmp 9) = .int .i64 ↑m ∧ ∃ j : Nat, a.eval (.tmp 10) = .string (sB (wT b j)) ∧ a.eval (.tmp 11) = .int .i64 ↑j ∧ j ≤ m ∧ OwnT H A0 ((tDisc p mb B n cap bm S L) :: (tMn mb M) :: (tBlk xb 74 #[.int .i64 2, .int .i64 x, .int .i64 N, .int .u8 ↑b.toNat, .string (sB q)]) :: (tBlk ub 80 #[.slice B1 n c1, .slice B2 n c2, .slice B3 n c3]) :: (tRow 9 1 (.slice B1 n c1) n (strsV (nowL S L))) :: (tRow 9 1 (.slice B2 n c2) n (strsV S)) :: (tRow 4 1 (.slice B3 n c3) n (boolsV (isL n L))) :: R) w) (fun a w => m - (intOf (a.eval (.tmp 11))).toNat) ?_ ?_
  · exact ⟨k, e0, e1, e2, e7, e9, 0, e10, e11, Nat.zero_le _, O⟩
  intro a19 w20 hI
  clear k e0 e1 e2 e7 e9
  obtain ⟨k, e0, e1, e2, e7, e9, h_⟩ := hI
  clear O e10 e11
  obtain ⟨j, e10, e11, hj, O⟩ := h_
  have mj := e11
  have hwl := wT_len b j
  refine wp_seq ?_
  refine wp_seq ?_
  refine wp_region_lit ?_   -- region 8
  have hE := Env.refl a19 [37, 38, 39]
  apply sq_det 37 hE k rfl (by rfl) (by rfl) rfl
  case h =>   -- 0: t37 := Op.move (tmp 11)
    exact x_move rfl (hE.eval 11 (by rfl) e11)
  intro a21 hE e37 kp
  apply sq_det 38 hE k rfl (by rfl) (by rfl) rfl
  case h =>   -- 1: t38 := Op.move (tmp 9)
    exact x_move rfl (hE.eval 9 (by rfl) e9)
  intro a22 hE e38 kp
  replace e37 := (kp 37 rfl).trans e37
  apply sq_det 39 hE k rfl (by rfl) (by rfl) rfl
  case h =>   -- 2: t39 := Op.binOp BinOp.lss 3 (tmp 37) (tmp 38) 3
    exact x_lss rfl e37 e38
  intro a23 hE e39 kp
  refine wpList_nil ?_
  replace e0 := hE.eval 0 (by rfl) e0
  replace e1 := hE.eval 1 (by rfl) e1
  replace e2 := hE.eval 2 (by rfl) e2
  replace e7 := hE.eval 7 (by rfl) e7
  replace e9 := hE.eval 9 (by rfl) e9
  replace e10 := hE.eval 10 (by rfl) e10
  replace e11 := hE.eval 11 (by rfl) e11
  replace k := k.env hE
  clear hE
  refine then_n ?_
  by_cases hlt : j < m
  · have hltI : (j : Int) < (m : Int) := by omega
    refine cond_t e39 (congrArg Value.bool (decide_eq_true (by omega))) ?_
    clear e39
    obtain ⟨bj, hbj⟩ : ∃ z, b + UInt8.ofNat j = z := ⟨_, rfl⟩
    refine wp_skip ?_
    refine then_n ?_
    refine wp_seq ?_
    refine wp_block ?_
    refine wp_region_lit ?_   -- region 10
    have hE := Env.refl a23 [42, 43, 44, 45, 46, 47, 48, 49, 10]
    apply sq_det 42 hE k rfl (by rfl) (by rfl) rfl
    case h =>   -- 0: t42 := Op.move (tmp 10)
      exact x_move rfl e10
    intro a24 hE e42 kp
    replace e10 := (kp 10 rfl).trans e10
    apply sq_det 43 hE k rfl (by rfl) (by rfl) rfl
    case h =>   -- 1: t43 := Op.fieldAddr 74 (tmp 7) 3
      simp [go_sem, BigFrame.eval_const, BigFrame.eval_global, BigFrame.eval_func, ↓IntWalk.iteOmega, ev (hE.eval 7 (by rfl) e7)]
      with_reducible rfl
    intro a25 hE e43 kp
    replace e10 := (kp 10 rfl).trans e10
    replace e42 := (kp 42 rfl).trans e42
    apply sq_det 44 hE k rfl (by rfl) (by rfl) rfl
    case h =>   -- 2: t44 := Op.load 5 (tmp 43)
      have q0 : w20.cell? ⟨xb, 3, none⟩ = some (.int .u8 ↑b.toNat) := (OwnT.blk O 2 rfl).cell 3
      simp [go_sem, BigFrame.eval_const, BigFrame.eval_global, BigFrame.eval_func, ↓IntWalk.iteOmega, ev e43, q0]
      with_reducible rfl
    intro a26 hE e44 kp
    replace e10 := (kp 10 rfl).trans e10
    replace e42 := (kp 42 rfl).trans e42
    apply sq_det 45 hE k rfl (by rfl) (by rfl) rfl
    case h =>   -- 3: t45 := Op.move (tmp 11)
      exact x_move rfl (hE.eval 11 (by rfl) e11)
    intro a27 hE e45 kp
    replace e10 := (kp 10 rfl).trans e10
    replace e42 := (kp 42 rfl).trans e42
    replace e44 := (kp 44 rfl).trans e44
    apply sq_det 46 hE k rfl (by rfl) (by rfl) rfl
    case h =>   -- 4: t46 := Op.convert 3 5 (tmp 45)
      exact x_conv rfl e45 (conv_u8 j _ (by omega))
    intro a28 hE e46 kp
    replace e10 := (kp 10 rfl).trans e10
    replace e42 := (kp 42 rfl).trans e42
    replace e44 := (kp 44 rfl).trans e44
    apply sq_det 47 hE k rfl (by rfl) (by rfl) rfl
    case h =>   -- 5: t47 := Op.binOp BinOp.add 5 (tmp 44) (tmp 46) 5
      exact x_val (v := .int .u8 (bj.toNat : Int)) (x_add8 rfl e44 e46 (by omega)) (by rw [hbj])
    intro a29 hE e47 kp
    replace e10 := (kp 10 rfl).trans e10
    replace e42 := (kp 42 rfl).trans e42
    apply sq_call 48 hE k rfl (by rfl) (by rfl) rfl
    case h =>   -- tierce/tiercelaw04.sector
      simp [go_sem, BigFrame.eval_const, BigFrame.eval_global, BigFrame.eval_func, ↓IntWalk.iteOmega, ev e47]
      with_reducible exact ⟨rfl, rfl⟩
    case hc => exact sector_any bj _
    rintro e w31 ⟨rfl, R⟩
    replace O := OwnT.ext O R
    refine ⟨_, rfl, ?_⟩
    intro a30 hE e48 kp
    replace e10 := (kp 10 rfl).trans e10
    replace e42 := (kp 42 rfl).trans e42
    apply sq_det 49 hE k rfl (by rfl) (by rfl) rfl
    case h =>   -- 7: t49 := Op.binOp BinOp.add 9 (tmp 42) (tmp 48) 9
      exact x_cat (l := wT b j) (m := secB bj) rfl e42 e48 (by rw [hwl, List.length_replicate]; omega)
    intro a32 hE e49 kp
    replace e10 := (kp 10 rfl).trans e10
    apply sq_det 10 hE k rfl (by rfl) (by rfl) rfl
    case h =>   -- 8: t10 := Op.assign (tmp 49)
      exact x_assign rfl e49
    intro a33 hE e10 kp
    refine wpList_nil ?_
    replace e0 := hE.eval 0 (by rfl) e0
    replace e1 := hE.eval 1 (by rfl) e1
    replace e2 := hE.eval 2 (by rfl) e2
    replace e7 := hE.eval 7 (by rfl) e7
    replace e9 := hE.eval 9 (by rfl) e9
    replace e11 := hE.eval 11 (by rfl) e11
    replace k := k.env hE
    clear hE
    refine block_n ?_
    refine then_n ?_
    refine wp_region_lit ?_   -- region 9
    have hE := Env.refl a33 [40, 41, 11]
    apply sq_det 40 hE k rfl (by rfl) (by rfl) rfl
    case h =>   -- 0: t40 := Op.move (tmp 11)
      exact x_move rfl e11
    intro a34 hE e40 kp
    replace e11 := (kp 11 rfl).trans e11
    apply sq_det 41 hE k rfl (by rfl) (by rfl) rfl
    case h =>   -- 1: t41 := Op.binOp BinOp.add 3 (tmp 40) (const (Value.int IntKind.i64 1)) 3
      exact x_add rfl e40 rfl (by omega)
    intro a35 hE e41 kp
    replace e11 := (kp 11 rfl).trans e11
    apply sq_det 11 hE k rfl (by rfl) (by rfl) rfl
    case h =>   -- 2: t11 := Op.assign (tmp 41)
      exact x_assign rfl e41
    intro a36 hE e11 kp
    refine wpList_nil ?_
    replace e0 := hE.eval 0 (by rfl) e0
    replace e1 := hE.eval 1 (by rfl) e1
    replace e2 := hE.eval 2 (by rfl) e2
    replace e7 := hE.eval 7 (by rfl) e7
    replace e9 := hE.eval 9 (by rfl) e9
    replace e10 := hE.eval 10 (by rfl) e10
    replace k := k.env hE
    clear hE
    refine then_n ?_
    rw [← hbj] at e10
    refine ⟨⟨k, e0, e1, e2, e7, e9, j + 1, e10, e11, by omega, O⟩, ?_⟩
    rw [e11, mj]; simp only [intOf]; omega
  · have hltI : ¬ (j : Int) < (m : Int) := by omega
    refine cond_f e39 (congrArg Value.bool (decide_eq_false (by omega))) ?_
    clear e11 e39
    obtain rfl : j = m := by omega
    have hw16 : (wT b j).length / 16 = j := by omega
    refine wp_exit ?_
    refine then_x ?_
    refine then_x ?_
    refine block_x ?_
    refine then_n ?_
    refine wp_seq ?_
    refine wp_region_lit ?_   -- region 11
    have hE := Env.refl a23 [50, 51, 12]
    apply sq_det 50 hE k rfl (by rfl) (by rfl) rfl
    case h =>   -- 0: t50 := Op.move (tmp 0)
      exact x_move rfl (hE.eval 0 (by rfl) e0)
    intro a37 hE e50 kp
    apply sq_call 51 hE k rfl (by rfl) (by rfl) rfl
    case h =>   -- (*tierce/mains.Mains).Uses
      simp [go_sem, BigFrame.eval_const, BigFrame.eval_global, BigFrame.eval_func, ↓IntWalk.iteOmega, ev e50]
      with_reducible exact ⟨rfl, rfl⟩
    case hc => exact uses_mn (OwnT.get O 1 rfl)
    rintro e _ ⟨rfl, rfl⟩
    refine ⟨_, rfl, ?_⟩
    intro a38 hE e51 kp
    apply sq_det 12 hE k rfl (by rfl) (by rfl) rfl
    case h =>   -- 2: t12 := Op.assign (tmp 51)
      exact x_assign rfl e51
    intro a39 hE e12 kp
    refine wpList_nil ?_
    replace e0 := hE.eval 0 (by rfl) e0
    replace e1 := hE.eval 1 (by rfl) e1
    replace e2 := hE.eval 2 (by rfl) e2
    replace e7 := hE.eval 7 (by rfl) e7
    replace e9 := hE.eval 9 (by rfl) e9
    replace e10 := hE.eval 10 (by rfl) e10
    replace k := k.env hE
    clear hE
    refine then_n ?_
    by_cases hf : fitsB n x (j : Int) = true
    rotate_left
    · replace hf := Bool.eq_false_iff.2 hf
      refine wp_seq ?_
      refine wp_region_lit ?_   -- region 12
      have hE := Env.refl a39 [52, 53, 54, 55, 56, 13]
      apply sq_det 52 hE k rfl (by rfl) (by rfl) rfl
      case h =>   -- 0: t52 := Op.move (tmp 1)
        exact x_move rfl (hE.eval 1 (by rfl) e1)
      intro a40 hE e52 kp
      apply sq_det 53 hE k rfl (by rfl) (by rfl) rfl
      case h =>   -- 1: t53 := Op.fieldAddr 74 (tmp 7) 1
        simp [go_sem, BigFrame.eval_const, BigFrame.eval_global, BigFrame.eval_func, ↓IntWalk.iteOmega, ev (hE.eval 7 (by rfl) e7)]
        with_reducible rfl
      intro a41 hE e53 kp
      replace e52 := (kp 52 rfl).trans e52
      apply sq_det 54 hE k rfl (by rfl) (by rfl) rfl
      case h =>   -- 2: t54 := Op.load 3 (tmp 53)
        have q0 : w20.cell? ⟨xb, 1, none⟩ = some (.int .i64 x) := (OwnT.blk O 2 rfl).cell 1
        simp [go_sem, BigFrame.eval_const, BigFrame.eval_global, BigFrame.eval_func, ↓IntWalk.iteOmega, ev e53, q0]
        with_reducible rfl
      intro a42 hE e54 kp
      replace e52 := (kp 52 rfl).trans e52
      apply sq_det 55 hE k rfl (by rfl) (by rfl) rfl
      case h =>   -- 3: t55 := Op.move (tmp 10)
        exact x_move rfl (hE.eval 10 (by rfl) e10)
      intro a43 hE e55 kp
      replace e52 := (kp 52 rfl).trans e52
      replace e54 := (kp 54 rfl).trans e54
      apply sq_call 56 hE k rfl (by rfl) (by rfl) rfl
      case h =>   -- (*tierce/disc.Disc).Write
        simp [go_sem, BigFrame.eval_const, BigFrame.eval_global, BigFrame.eval_func, ↓IntWalk.iteOmega, ev e52, ev e54, ev e55]
        with_reducible exact ⟨rfl, rfl⟩
      case hc => exact dwrite_range x (wT b j) _ O (by omega) (by omega) (by rw [hw16]; exact hf)
      clear O
      rintro e w45 ⟨rfl, O⟩
      refine ⟨_, rfl, ?_⟩
      intro a44 hE e56 kp
      apply sq_det 13 hE k rfl (by rfl) (by rfl) rfl
      case h =>   -- 5: t13 := Op.assign (tmp 56)
        exact x_assign rfl e56
      intro a46 hE e13 kp
      refine wpList_nil ?_
      replace e0 := hE.eval 0 (by rfl) e0
      replace e2 := hE.eval 2 (by rfl) e2
      replace e7 := hE.eval 7 (by rfl) e7
      replace e9 := hE.eval 9 (by rfl) e9
      replace e12 := hE.eval 12 (by rfl) e12
      replace k := k.env hE
      clear hE e1 e10
      refine then_n ?_
      refine wp_seq ?_
      refine wp_seq ?_
      refine wp_region_lit ?_   -- region 13
      have hE := Env.refl a46 [57, 58, 59, 60, 61, 62]
      apply sq_det 57 hE k rfl (by rfl) (by rfl) rfl
      case h =>   -- 0: t57 := Op.move (tmp 2)
        exact x_move rfl (hE.eval 2 (by rfl) e2)
      intro a47 hE e57 kp
      apply sq_det 58 hE k rfl (by rfl) (by rfl) rfl
      case h =>   -- 1: t58 := Op.fieldAddr 74 (tmp 7) 1
        simp [go_sem, BigFrame.eval_const, BigFrame.eval_global, BigFrame.eval_func, ↓IntWalk.iteOmega, ev (hE.eval 7 (by rfl) e7)]
        with_reducible rfl
      intro a48 hE e58 kp
      replace e57 := (kp 57 rfl).trans e57
      apply sq_det 59 hE k rfl (by rfl) (by rfl) rfl
      case h =>   -- 2: t59 := Op.load 3 (tmp 58)
        have q0 : w45.cell? ⟨xb, 1, none⟩ = some (.int .i64 x) := (OwnT.blk O 2 rfl).cell 1
        simp [go_sem, BigFrame.eval_const, BigFrame.eval_global, BigFrame.eval_func, ↓IntWalk.iteOmega, ev e58, q0]
        with_reducible rfl
      intro a49 hE e59 kp
      replace e57 := (kp 57 rfl).trans e57
      apply sq_det 60 hE k rfl (by rfl) (by rfl) rfl
      case h =>   -- 3: t60 := Op.move (tmp 9)
        exact x_move rfl (hE.eval 9 (by rfl) e9)
      intro a50 hE e60 kp
      replace e57 := (kp 57 rfl).trans e57
      replace e59 := (kp 59 rfl).trans e59
      apply sq_call 61 hE k rfl (by rfl) (by rfl) rfl
      case h =>   -- (*tierce/tierceref04.Disc).Fits
        simp [go_sem, BigFrame.eval_const, BigFrame.eval_global, BigFrame.eval_func, ↓IntWalk.iteOmega, ev e57, ev e59, ev e60]
        with_reducible exact ⟨rfl, rfl⟩
      case hc => exact fits4_any x ↑j _ ((OwnT.blk O 3 rfl).cell 0) hnl
      rintro e _ ⟨rfl, rfl⟩
      refine ⟨_, congrArg (fun b => Ending.returned (.bool b)) hf, ?_⟩
      intro a51 hE e61 kp
      apply sq_det 62 hE k rfl (by rfl) (by rfl) rfl
      case h =>   -- 5: t62 := Op.unOp UnOp.not 4 (tmp 61)
        exact x_not rfl e61
      intro a52 hE e62 kp
      refine wpList_nil ?_
      replace e0 := hE.eval 0 (by rfl) e0
      replace e2 := hE.eval 2 (by rfl) e2
      replace e7 := hE.eval 7 (by rfl) e7
      replace e9 := hE.eval 9 (by rfl) e9
      replace e12 := hE.eval 12 (by rfl) e12
      replace e13 := hE.eval 13 (by rfl) e13
      replace k := k.env hE
      clear hE
      refine then_n ?_
      refine cond_t e62 rfl ?_
      refine wp_seq ?_
      refine wp_region_lit ?_   -- region 14
      have hE := Env.refl a52 [63, 64, 65, 66, 67, 68, 69, 70, 8]
      apply sq_det 63 hE k rfl (by rfl) (by rfl) rfl
      case h =>   -- 0: t63 := Op.move (tmp 13)
        exact x_move rfl (hE.eval 13 (by rfl) e13)
      intro a53 hE e63 kp
      apply sq_det 64 hE k rfl (by rfl) (by rfl) rfl
      case h =>   -- 1: t64 := Op.binOp BinOp.eql 36 (tmp 63) (const (Value.int IntKind.i64 9)) 36
        exact x_eql rfl e63 rfl
      intro a54 hE e64 kp
      apply sq_det 65 hE k rfl (by rfl) (by rfl) rfl
      case h =>   -- 2: t65 := Op.move (tmp 64)
        exact x_move rfl e64
      intro a55 hE e65 kp
      apply sq_detg 66 hE k rfl (by rfl) (by rfl) rfl rfl e65
      case h =>   -- 3: t66 := Op.move (tmp 0)
        exact x_move rfl (hE.eval 0 (by rfl) e0)
      intro a56 hE e66 kp
      replace e65 := (kp 65 rfl).trans e65
      apply sq_callg 67 hE k rfl (by rfl) (by rfl) rfl rfl e65
      case h =>   -- (*tierce/mains.Mains).Uses
        simp [go_sem, BigFrame.eval_const, BigFrame.eval_global, BigFrame.eval_func, ↓IntWalk.iteOmega, ev e66]
        with_reducible exact ⟨rfl, rfl⟩
      case hc => exact uses_mn (OwnT.get O 1 rfl)
      rintro e _ ⟨rfl, rfl⟩
      refine ⟨_, rfl, ?_⟩
      intro a57 hE e67 kp
      replace e65 := (kp 65 rfl).trans e65
      apply sq_detg 68 hE k rfl (by rfl) (by rfl) rfl rfl e65
      case h =>   -- 5: t68 := Op.move (tmp 12)
        exact x_move rfl (hE.eval 12 (by rfl) e12)
      intro a58 hE e68 kp
      replace e65 := (kp 65 rfl).trans e65
      replace e67 := (kp 67 rfl).trans e67
      apply sq_detg 69 hE k rfl (by rfl) (by rfl) rfl rfl e65
      case h =>   -- 6: t69 := Op.binOp BinOp.eql 3 (tmp 67) (tmp 68) 3
        exact x_dec (x_eql rfl e67 e68) (decide_eq_true rfl)
      intro a59 hE e69 kp
      replace e65 := (kp 65 rfl).trans e65
      apply sq_det 70 hE k rfl (by rfl) (by rfl) rfl
      case h =>   -- 7: t70 := Op.pick (tmp 65) (tmp 69) (const (Value.bool false))
        exact x_pick_t rfl e65 e69
      intro a60 hE e70 kp
      apply sq_det 8 hE k rfl (by rfl) (by rfl) rfl
      case h =>   -- 8: t8 := Op.assign (tmp 70)
        exact x_assign rfl e70
      intro a61 hE e8 kp
      refine wpList_nil ?_
      replace k := k.env hE
      clear hE e0 e2 e7 e9 e12 e13 e62
      refine then_n ?_
      refine wp_ret ?_
      refine then_r ?_
      refine block_r ?_
      refine then_r ?_
      replace O := OwnT.drop3 O
      refine ret_F1 rfl k e8 ?_
      exact ⟨rfl, S, L, M, hM.mono (by omega), O⟩
    have hf' := of_decide_eq_true hf
    obtain ⟨hx0, -, hx1, hx2⟩ := hf'
    obtain ⟨x, rfl⟩ := Int.eq_ofNat_of_zero_le hx0
    
    refine wp_seq ?_
    refine wp_region_lit ?_   -- region 12
    have hE := Env.refl a39 [52, 53, 54, 55, 56, 13]
    apply sq_det 52 hE k rfl (by rfl) (by rfl) rfl
    case h =>   -- 0: t52 := Op.move (tmp 1)
      exact x_move rfl (hE.eval 1 (by rfl) e1)
    intro a62 hE e52 kp
    apply sq_det 53 hE k rfl (by rfl) (by rfl) rfl
    case h =>   -- 1: t53 := Op.fieldAddr 74 (tmp 7) 1
      simp [go_sem, BigFrame.eval_const, BigFrame.eval_global, BigFrame.eval_func, ↓IntWalk.iteOmega, ev (hE.eval 7 (by rfl) e7)]
      with_reducible rfl
    intro a63 hE e53 kp
    replace e52 := (kp 52 rfl).trans e52
    apply sq_det 54 hE k rfl (by rfl) (by rfl) rfl
    case h =>   -- 2: t54 := Op.load 3 (tmp 53)
      have q0 : w20.cell? ⟨xb, 1, none⟩ = some (.int .i64 ↑x) := (OwnT.blk O 2 rfl).cell 1
      simp [go_sem, BigFrame.eval_const, BigFrame.eval_global, BigFrame.eval_func, ↓IntWalk.iteOmega, ev e53, q0]
      with_reducible rfl
    intro a64 hE e54 kp
    replace e52 := (kp 52 rfl).trans e52
    apply sq_det 55 hE k rfl (by rfl) (by rfl) rfl
    case h =>   -- 3: t55 := Op.move (tmp 10)
      exact x_move rfl (hE.eval 10 (by rfl) e10)
    intro a65 hE e55 kp
    replace e52 := (kp 52 rfl).trans e52
    replace e54 := (kp 54 rfl).trans e54
    apply sq_call 56 hE k rfl (by rfl) (by rfl) rfl
    case h =>   -- (*tierce/disc.Disc).Write
      simp [go_sem, BigFrame.eval_const, BigFrame.eval_global, BigFrame.eval_func, ↓IntWalk.iteOmega, ev e52, ev e54, ev e55]
      with_reducible exact ⟨rfl, rfl⟩
    case hc => exact dwrite_k j ↑x (wT b j) _ O hwl (by omega) hf hM (by omega)
    clear O
    rintro e w67 ⟨i, M', rfl, hi, hu, ha, hM', O⟩
    refine ⟨_, rfl, ?_⟩
    intro a66 hE e56 kp
    apply sq_det 13 hE k rfl (by rfl) (by rfl) rfl
    case h =>   -- 5: t13 := Op.assign (tmp 56)
      exact x_assign rfl e56
    intro a68 hE e13 kp
    refine wpList_nil ?_
    replace e0 := hE.eval 0 (by rfl) e0
    replace e2 := hE.eval 2 (by rfl) e2
    replace e7 := hE.eval 7 (by rfl) e7
    replace e9 := hE.eval 9 (by rfl) e9
    replace e12 := hE.eval 12 (by rfl) e12
    replace k := k.env hE
    clear hE e1 e10
    refine then_n ?_
    refine wp_seq ?_
    refine wp_seq ?_
    refine wp_region_lit ?_   -- region 13
    have hE := Env.refl a68 [57, 58, 59, 60, 61, 62]
    apply sq_det 57 hE k rfl (by rfl) (by rfl) rfl
    case h =>   -- 0: t57 := Op.move (tmp 2)
      exact x_move rfl (hE.eval 2 (by rfl) e2)
    intro a69 hE e57 kp
    apply sq_det 58 hE k rfl (by rfl) (by rfl) rfl
    case h =>   -- 1: t58 := Op.fieldAddr 74 (tmp 7) 1
      simp [go_sem, BigFrame.eval_const, BigFrame.eval_global, BigFrame.eval_func, ↓IntWalk.iteOmega, ev (hE.eval 7 (by rfl) e7)]
      with_reducible rfl
    intro a70 hE e58 kp
    replace e57 := (kp 57 rfl).trans e57
    apply sq_det 59 hE k rfl (by rfl) (by rfl) rfl
    case h =>   -- 2: t59 := Op.load 3 (tmp 58)
      have q0 : w67.cell? ⟨xb, 1, none⟩ = some (.int .i64 ↑x) := (OwnT.blk O 2 rfl).cell 1
      simp [go_sem, BigFrame.eval_const, BigFrame.eval_global, BigFrame.eval_func, ↓IntWalk.iteOmega, ev e58, q0]
      with_reducible rfl
    intro a71 hE e59 kp
    replace e57 := (kp 57 rfl).trans e57
    apply sq_det 60 hE k rfl (by rfl) (by rfl) rfl
    case h =>   -- 3: t60 := Op.move (tmp 9)
      exact x_move rfl (hE.eval 9 (by rfl) e9)
    intro a72 hE e60 kp
    replace e57 := (kp 57 rfl).trans e57
    replace e59 := (kp 59 rfl).trans e59
    apply sq_call 61 hE k rfl (by rfl) (by rfl) rfl
    case h =>   -- (*tierce/tierceref04.Disc).Fits
      simp [go_sem, BigFrame.eval_const, BigFrame.eval_global, BigFrame.eval_func, ↓IntWalk.iteOmega, ev e57, ev e59, ev e60]
      with_reducible exact ⟨rfl, rfl⟩
    case hc => exact fits4_any ↑x ↑j _ ((OwnT.blk O 3 rfl).cell 0) hnl
    rintro e _ ⟨rfl, rfl⟩
    refine ⟨_, congrArg (fun b => Ending.returned (.bool b)) hf, ?_⟩
    intro a73 hE e61 kp
    apply sq_det 62 hE k rfl (by rfl) (by rfl) rfl
    case h =>   -- 5: t62 := Op.unOp UnOp.not 4 (tmp 61)
      exact x_not rfl e61
    intro a74 hE e62 kp
    refine wpList_nil ?_
    replace e0 := hE.eval 0 (by rfl) e0
    replace e2 := hE.eval 2 (by rfl) e2
    replace e7 := hE.eval 7 (by rfl) e7
    replace e9 := hE.eval 9 (by rfl) e9
    replace e12 := hE.eval 12 (by rfl) e12
    replace e13 := hE.eval 13 (by rfl) e13
    replace k := k.env hE
    clear hE
    refine then_n ?_
    refine cond_f e62 rfl ?_
    refine wp_skip ?_
    refine then_n ?_
    refine wp_seq ?_
    refine wp_region_lit ?_   -- region 15
    have hE := Env.refl a74 [71, 72, 73, 74, 14]
    apply sq_det 71 hE k rfl (by rfl) (by rfl) rfl
    case h =>   -- 0: t71 := Op.move (tmp 0)
      exact x_move rfl (hE.eval 0 (by rfl) e0)
    intro a75 hE e71 kp
    apply sq_call 72 hE k rfl (by rfl) (by rfl) rfl
    case h =>   -- (*tierce/mains.Mains).Uses
      simp [go_sem, BigFrame.eval_const, BigFrame.eval_global, BigFrame.eval_func, ↓IntWalk.iteOmega, ev e71]
      with_reducible exact ⟨rfl, rfl⟩
    case hc => exact uses_mn (OwnT.get O 1 rfl)
    rintro e _ ⟨rfl, rfl⟩
    refine ⟨_, rfl, ?_⟩
    intro a76 hE e72 kp
    apply sq_det 73 hE k rfl (by rfl) (by rfl) rfl
    case h =>   -- 2: t73 := Op.move (tmp 12)
      exact x_move rfl (hE.eval 12 (by rfl) e12)
    intro a77 hE e73 kp
    replace e72 := (kp 72 rfl).trans e72
    apply sq_det 74 hE k rfl (by rfl) (by rfl) rfl
    case h =>   -- 3: t74 := Op.binOp BinOp.sub 3 (tmp 72) (tmp 73) 3
      exact x_sub rfl e72 e73 (by have := hM.u0; have := hM.u1; have := hM'.u0; have := hM'.u1; omega)
    intro a78 hE e74 kp
    replace e74 := e74.trans (int_eq (show M'.uses - M.uses = (i : Int) by omega))
    apply sq_det 14 hE k rfl (by rfl) (by rfl) rfl
    case h =>   -- 4: t14 := Op.assign (tmp 74)
      exact x_assign rfl e74
    intro a79 hE e14 kp
    refine wpList_nil ?_
    replace e0 := hE.eval 0 (by rfl) e0
    replace e2 := hE.eval 2 (by rfl) e2
    replace e7 := hE.eval 7 (by rfl) e7
    replace e9 := hE.eval 9 (by rfl) e9
    replace e13 := hE.eval 13 (by rfl) e13
    replace k := k.env hE
    clear hE e12 e62
    refine then_n ?_
    refine wp_seq ?_
    refine wp_seq ?_
    refine wp_region_lit ?_   -- region 16
    have hE := Env.refl a79 [15]
    apply sq_det 15 hE k rfl (by rfl) (by rfl) rfl
    case h =>   -- 0: t15 := Op.assign (const (Value.int IntKind.i64 0))
      exact x_assign rfl rfl
    intro a80 hE e15 kp
    refine wpList_nil ?_
    replace e0 := hE.eval 0 (by rfl) e0
    replace e2 := hE.eval 2 (by rfl) e2
    replace e7 := hE.eval 7 (by rfl) e7
    replace e9 := hE.eval 9 (by rfl) e9
    replace e13 := hE.eval 13 (by rfl) e13
    replace e14 := hE.eval 14 (by rfl) e14
    replace k := k.env hE
    clear hE
    refine then_n ?_
    refine wp_block ?_
    refine wp_loop (fun a w => Fr 232 a ∧ a.eval (.tmp 0) = .pointer (some ⟨mb, 0, none⟩) ∧ a.eval (.tmp 2) = .pointer (some ⟨ub, 0, none⟩) ∧ a.eval (.tmp 7) = .pointer (some ⟨xb, 0, none⟩) ∧ a.eval (.tmp 9) = .int .i64 ↑j ∧ a.eval (.tmp 13) = .int .i64 (if i = j then 0 else 4) ∧ a.eval (.tmp 14) = .int .i64 ↑i ∧ ∃ z : Nat, a.eval (.tmp 15) = .int .i64 ↑z ∧ z ≤ i ∧ OwnT H A0 ((tDisc p mb B n cap bm S (wrS (wT b j) ↑x L i)) :: (tMn mb M') :: (tBlk xb 74 #[.int .i64 2, .int .i64 ↑x, .int .i64 N, .int .u8 ↑b.toNat, .string (sB q)]) :: (tBlk ub 80 #[.slice B1 n c1, .slice B2 n c2, .slice B3 n c3]) :: (tRow 9 1 (.slice B1 n c1) n (strsV (nowL S (wrS (wT b j) ↑x L z)))) :: (tRow 9 1 (.slice B2 n c2) n (strsV S)) :: (tRow 4 1 (.slice B3 n c3) n (boolsV (isL n (wrS (wT b j) ↑x L z)))) :: R) w) (fun a w => i - (intOf (a.eval (.tmp 15))).toNat) ?_ ?_
    · exact ⟨k, e0, e2, e7, e9, e13, e14, 0, e15, Nat.zero_le _, O⟩
    intro a81 w82 hI
    clear k e0 e2 e7 e9 e13 e14
    obtain ⟨k, e0, e2, e7, e9, e13, e14, h_⟩ := hI
    clear O e15
    obtain ⟨z, e15, hz, O⟩ := h_
    have mz := e15
    by_cases hlt : z < i
    · skip
      refine wp_seq ?_
      refine wp_seq ?_
      refine wp_region_lit ?_   -- region 17
      have hE := Env.refl a81 [75, 76, 77, 78, 79, 80, 81, 82]
      apply sq_det 75 hE k rfl (by rfl) (by rfl) rfl
      case h =>   -- 0: t75 := Op.move (tmp 15)
        exact x_move rfl (hE.eval 15 (by rfl) e15)
      intro a83 hE e75 kp
      apply sq_det 76 hE k rfl (by rfl) (by rfl) rfl
      case h =>   -- 1: t76 := Op.move (tmp 14)
        exact x_move rfl (hE.eval 14 (by rfl) e14)
      intro a84 hE e76 kp
      replace e75 := (kp 75 rfl).trans e75
      apply sq_det 77 hE k rfl (by rfl) (by rfl) rfl
      case h =>   -- 2: t77 := Op.binOp BinOp.lss 3 (tmp 75) (tmp 76) 3
        exact x_dec (x_lss rfl e75 e76) (decide_eq_true (by omega))
      intro a85 hE e77 kp
      apply sq_det 78 hE k rfl (by rfl) (by rfl) rfl
      case h =>   -- 3: t78 := Op.move (tmp 77)
        exact x_move rfl e77
      intro a86 hE e78 kp
      apply sq_detg 79 hE k rfl (by rfl) (by rfl) rfl rfl e78
      case h =>   -- 4: t79 := Op.move (tmp 15)
        exact x_move rfl (hE.eval 15 (by rfl) e15)
      intro a87 hE e79 kp
      replace e78 := (kp 78 rfl).trans e78
      apply sq_detg 80 hE k rfl (by rfl) (by rfl) rfl rfl e78
      case h =>   -- 5: t80 := Op.move (tmp 9)
        exact x_move rfl (hE.eval 9 (by rfl) e9)
      intro a88 hE e80 kp
      replace e78 := (kp 78 rfl).trans e78
      replace e79 := (kp 79 rfl).trans e79
      apply sq_detg 81 hE k rfl (by rfl) (by rfl) rfl rfl e78
      case h =>   -- 6: t81 := Op.binOp BinOp.lss 3 (tmp 79) (tmp 80) 3
        exact x_dec (x_lss rfl e79 e80) (decide_eq_true (by omega))
      intro a89 hE e81 kp
      replace e78 := (kp 78 rfl).trans e78
      apply sq_det 82 hE k rfl (by rfl) (by rfl) rfl
      case h =>   -- 7: t82 := Op.pick (tmp 78) (tmp 81) (const (Value.bool false))
        exact x_pick_t rfl e78 e81
      intro a90 hE e82 kp
      refine wpList_nil ?_
      replace e0 := hE.eval 0 (by rfl) e0
      replace e2 := hE.eval 2 (by rfl) e2
      replace e7 := hE.eval 7 (by rfl) e7
      replace e9 := hE.eval 9 (by rfl) e9
      replace e13 := hE.eval 13 (by rfl) e13
      replace e14 := hE.eval 14 (by rfl) e14
      replace e15 := hE.eval 15 (by rfl) e15
      replace k := k.env hE
      clear hE
      refine then_n ?_
      refine cond_t e82 rfl ?_
      refine wp_skip ?_
      refine then_n ?_
      refine wp_seq ?_
      refine wp_block ?_
      have hxz : x + z < n := by omega
      obtain ⟨bz, hbz⟩ : ∃ y, b + UInt8.ofNat z = y := ⟨_, rfl⟩
      obtain ⟨sz, hsz⟩ : ∃ y, secB bz = y := ⟨_, rfl⟩
      obtain ⟨i2, hi2⟩ : ∃ y, x + z = y := ⟨_, rfl⟩
      have hsec : ∀ W, Calls Try.prog 40 #[.int .u8 (bz.toNat : Int)] W fun e w' => e = .returned (.string (sB sz)) ∧ Ext W w' := fun W => hsz ▸ sector_any bz W
      obtain ⟨g1, z1, h1, -⟩ := row1_some (OwnT.get O 4 rfl) (by omega)
      injection h1 with h1 _ h1'
      subst h1 h1'
      obtain ⟨g2, z2, h2, -⟩ := row1_some (OwnT.get O 5 rfl) (by omega)
      injection h2 with h2 _ h2'
      subst h2 h2'
      obtain ⟨g3, z3, h3, -⟩ := row1_some (OwnT.get O 6 rfl) (by omega)
      injection h3 with h3 _ h3'
      subst h3 h3'
      
      refine wp_seq ?_
      refine wp_typed (R := Ext) (w0 := w82) [[], [0], [0, 1], [0, 1, 2], [], [4], [], [4, 5, 6], [], [8], [], [10], [8, 9, 10, 11], [8, 9, 10, 11, 12], [0, 1, 2, 3, 4, 5, 6, 7, 8, 9, 10, 11, 12, 13], [0, 1, 2, 3, 4, 5, 6, 7, 8, 9, 10, 11, 12, 13, 14]] [85, 86, 87, 88, 89, 90, 91, 92, 93, 94, 95, 96, 97, 98, 99] Ext.refl (fun _ _ _ => Ext.trans) (Ext.drew _) (by kernel_rfl) ?_   -- region 19
      apply Build.det 85 Ext.refl (by rfl) (by rw [k.size]; rfl) rfl
      case h =>   -- 0: t85 := Op.move (tmp 2)
        intro ax wx hE hR hF
        exact x_move rfl (hE.eval 2 (by rfl) e2)
      apply Build.det 86 Ext.refl (by rfl) (by rw [k.size]; rfl) rfl
      case h =>   -- 1: t86 := Op.nilCheck (tmp 85)
        intro ax wx hE hR hF
        have e85 : ax.eval (.tmp 85) = _ := hF 0 (det 85 _) (by decide) (.head _)
        exact x_nil rfl e85
      apply Build.det 87 Ext.refl (by rfl) (by rw [k.size]; rfl) rfl
      case h =>   -- 2: t87 := Op.fieldAddr 80 (tmp 86) 0
        intro ax wx hE hR hF
        have e86 : ax.eval (.tmp 86) = _ := hF 1 (det 86 _) (by decide) (.head _)
        simp [go_sem, BigFrame.eval_const, BigFrame.eval_global, BigFrame.eval_func, ↓IntWalk.iteOmega, ev e86]
        with_reducible rfl
      apply Build.det 88 Ext.refl (by rfl) (by rw [k.size]; rfl) rfl
      case h =>   -- 3: t88 := Op.load 77 (tmp 87)
        intro ax wx hE hR hF
        have e87 : ax.eval (.tmp 87) = _ := hF 2 (det 87 _) (by decide) (.head _)
        have q0 : wx.cell? ⟨ub, 0, none⟩ = some (.slice (some ⟨g1, 0, none⟩) n c1) := (OwnT.blk (OwnT.ext O hR) 3 rfl).cell 0
        simp [go_sem, BigFrame.eval_const, BigFrame.eval_global, BigFrame.eval_func, ↓IntWalk.iteOmega, ev e87, q0]
        with_reducible rfl
      apply Build.det 89 Ext.refl (by rfl) (by rw [k.size]; rfl) rfl
      case h =>   -- 4: t89 := Op.fieldAddr 74 (tmp 7) 1
        intro ax wx hE hR hF
        simp [go_sem, BigFrame.eval_const, BigFrame.eval_global, BigFrame.eval_func, ↓IntWalk.iteOmega, ev (hE.eval 7 (by rfl) e7)]
        with_reducible rfl
      apply Build.det 90 Ext.refl (by rfl) (by rw [k.size]; rfl) rfl
      case h =>   -- 5: t90 := Op.load 3 (tmp 89)
        intro ax wx hE hR hF
        have e89 : ax.eval (.tmp 89) = _ := hF 4 (det 89 _) (by decide) (.head _)
        have q0 : wx.cell? ⟨xb, 1, none⟩ = some (.int .i64 ↑x) := (OwnT.blk (OwnT.ext O hR) 2 rfl).cell 1
        simp [go_sem, BigFrame.eval_const, BigFrame.eval_global, BigFrame.eval_func, ↓IntWalk.iteOmega, ev e89, q0]
        with_reducible rfl
      apply Build.det 91 Ext.refl (by rfl) (by rw [k.size]; rfl) rfl
      case h =>   -- 6: t91 := Op.move (tmp 15)
        intro ax wx hE hR hF
        exact x_move rfl (hE.eval 15 (by rfl) e15)
      apply Build.det 92 Ext.refl (by rfl) (by rw [k.size]; rfl) rfl
      case h =>   -- 7: t92 := Op.binOp BinOp.add 3 (tmp 90) (tmp 91) 3
        intro ax wx hE hR hF
        have e90 : ax.eval (.tmp 90) = _ := hF 5 (det 90 _) (by decide) (.tail _ (.head _))
        have e91 : ax.eval (.tmp 91) = _ := hF 6 (det 91 _) (by decide) (.head _)
        exact x_val (v := .int .i64 (i2 : Int)) (x_add rfl e90 e91 (by omega)) (int_eq (by omega))
      apply Build.det 93 Ext.refl (by rfl) (by rw [k.size]; rfl) rfl
      case h =>   -- 8: t93 := Op.fieldAddr 74 (tmp 7) 3
        intro ax wx hE hR hF
        simp [go_sem, BigFrame.eval_const, BigFrame.eval_global, BigFrame.eval_func, ↓IntWalk.iteOmega, ev (hE.eval 7 (by rfl) e7)]
        with_reducible rfl
      apply Build.det 94 Ext.refl (by rfl) (by rw [k.size]; rfl) rfl
      case h =>   -- 9: t94 := Op.load 5 (tmp 93)
        intro ax wx hE hR hF
        have e93 : ax.eval (.tmp 93) = _ := hF 8 (det 93 _) (by decide) (.head _)
        have q0 : wx.cell? ⟨xb, 3, none⟩ = some (.int .u8 ↑b.toNat) := (OwnT.blk (OwnT.ext O hR) 2 rfl).cell 3
        simp [go_sem, BigFrame.eval_const, BigFrame.eval_global, BigFrame.eval_func, ↓IntWalk.iteOmega, ev e93, q0]
        with_reducible rfl
      apply Build.det 95 Ext.refl (by rfl) (by rw [k.size]; rfl) rfl
      case h =>   -- 10: t95 := Op.move (tmp 15)
        intro ax wx hE hR hF
        exact x_move rfl (hE.eval 15 (by rfl) e15)
      apply Build.det 96 Ext.refl (by rfl) (by rw [k.size]; rfl) rfl
      case h =>   -- 11: t96 := Op.convert 3 5 (tmp 95)
        intro ax wx hE hR hF
        have e95 : ax.eval (.tmp 95) = _ := hF 10 (det 95 _) (by decide) (.head _)
        exact x_conv rfl e95 (conv_u8 z _ (by omega))
      apply Build.det 97 Ext.refl (by rfl) (by rw [k.size]; rfl) rfl
      case h =>   -- 12: t97 := Op.binOp BinOp.add 5 (tmp 94) (tmp 96) 5
        intro ax wx hE hR hF
        have e94 : ax.eval (.tmp 94) = _ := hF 9 (det 94 _) (by decide) (.tail _ (.tail _ (.head _)))
        have e96 : ax.eval (.tmp 96) = _ := hF 11 (det 96 _) (by decide) (.head _)
        exact x_val (v := .int .u8 (bz.toNat : Int)) (x_add8 rfl e94 e96 (by omega)) (by rw [hbz])
      apply Build.call 98 Ext.refl (by rfl) (by rw [k.size]; rfl) rfl
      case h =>   -- 13: t98 := tierce/tiercelaw04.sector
        intro ax wx hE hR hF
        have e97 : ax.eval (.tmp 97) = _ := hF 12 (det 97 _) (by decide) (.head _)
        simp [go_sem, BigFrame.eval_const, BigFrame.eval_global, BigFrame.eval_func, ↓IntWalk.iteOmega, ev e97]
        with_reducible exact ⟨rfl, rfl⟩
      case hc => intro wx hR; exact hsec wx
      apply Build.det 99 Ext.refl (by rfl) (by rw [k.size]; rfl) rfl
      case h =>   -- 14: t99 := Op.indexAddr 77 (tmp 88) (tmp 92)
        intro ax wx hE hR hF
        have e88 : ax.eval (.tmp 88) = _ := hF 3 (det 88 _) (by decide) (.tail _ (.tail _ (.tail _ (.tail _ (.tail _ (.tail _ (.tail _ (.tail _ (.tail _ (.tail _ (.head _)))))))))))
        have e92 : ax.eval (.tmp 92) = _ := hF 7 (det 92 _) (by decide) (.tail _ (.tail _ (.tail _ (.tail _ (.tail _ (.tail _ (.head _)))))))
        simp [go_sem, BigFrame.eval_const, BigFrame.eval_global, BigFrame.eval_func, ↓IntWalk.iteOmega, ev e88, ev e92]
        with_reducible rfl
      apply Build.stop
      refine ⟨by kernel_rfl, .inr ⟨by kernel_rfl, _, rfl, rfl, ?_⟩⟩
      intro a91 w92 hE R hF
      have e98 : a91.eval (.tmp 98) = _ := hF 13 (det 98 _) (.tail _ (.head _))
      have e99 : a91.eval (.tmp 99) = _ := hF 14 (det 99 _) (.head _)
      clear hF
      replace O := OwnT.ext O R
      clear R
      obtain ⟨hcc, hfz⟩ := row1_cell (OwnT.get O 4 rfl) (i := i2) (List.getElem?_eq_getElem (by simp only [strsV, List.length_map, nowL_len]; omega))
      refine last_skip (w' := w92.setCell ⟨g1, i2, none⟩ (.string (sB sz))) rfl (by simp [go_sem, BigFrame.eval_const, BigFrame.eval_global, BigFrame.eval_func, ↓IntWalk.iteOmega, ev e99, ev e98, hcc, hfz]) ?_
      replace O := OwnT.push (L := _ :: _ :: _ :: _ :: _ :: _ :: _ :: R) 4 rfl ((OwnT.pull O 4 rfl).setRow1 (i := i2) (hi2 ▸ hxz) (.string (sB sz)))
      clear hcc hfz
      generalize (w92.setCell ⟨g1, i2, none⟩ (.string (sB sz))) = w93 at O ⊢
      rw [← strsV_set, ← hi2, ← hsz, ← hbz, ← nowL_put, ← wr_step (by omega)] at O
      replace e0 := hE.eval 0 (by rfl) e0
      replace e2 := hE.eval 2 (by rfl) e2
      replace e7 := hE.eval 7 (by rfl) e7
      replace e9 := hE.eval 9 (by rfl) e9
      replace e13 := hE.eval 13 (by rfl) e13
      replace e14 := hE.eval 14 (by rfl) e14
      replace e15 := hE.eval 15 (by rfl) e15
      replace k := k.env hE
      clear hE e82 e98 e99
      refine then_n ?_
      refine wp_typed (R := Ext) (w0 := w93) [[], [0], [0, 1], [0, 1, 2], [], [4], [], [4, 5, 6], [0, 1, 2, 3, 4, 5, 6, 7], [0, 1, 2, 3, 4, 5, 6, 7, 8]] [100, 101, 102, 103, 104, 105, 106, 107, 108] Ext.refl (fun _ _ _ => Ext.trans) (Ext.drew _) (by kernel_rfl) ?_   -- region 20
      apply Build.det 100 Ext.refl (by rfl) (by rw [k.size]; rfl) rfl
      case h =>   -- 0: t100 := Op.move (tmp 2)
        intro ax wx hE hR hF
        exact x_move rfl (hE.eval 2 (by rfl) e2)
      apply Build.det 101 Ext.refl (by rfl) (by rw [k.size]; rfl) rfl
      case h =>   -- 1: t101 := Op.nilCheck (tmp 100)
        intro ax wx hE hR hF
        have e100 : ax.eval (.tmp 100) = _ := hF 0 (det 100 _) (by decide) (.head _)
        exact x_nil rfl e100
      apply Build.det 102 Ext.refl (by rfl) (by rw [k.size]; rfl) rfl
      case h =>   -- 2: t102 := Op.fieldAddr 80 (tmp 101) 2
        intro ax wx hE hR hF
        have e101 : ax.eval (.tmp 101) = _ := hF 1 (det 101 _) (by decide) (.head _)
        simp [go_sem, BigFrame.eval_const, BigFrame.eval_global, BigFrame.eval_func, ↓IntWalk.iteOmega, ev e101]
        with_reducible rfl
      apply Build.det 103 Ext.refl (by rfl) (by rw [k.size]; rfl) rfl
      case h =>   -- 3: t103 := Op.load 78 (tmp 102)
        intro ax wx hE hR hF
        have e102 : ax.eval (.tmp 102) = _ := hF 2 (det 102 _) (by decide) (.head _)
        have q0 : wx.cell? ⟨ub, 2, none⟩ = some (.slice (some ⟨g3, 0, none⟩) n c3) := (OwnT.blk (OwnT.ext O hR) 3 rfl).cell 2
        simp [go_sem, BigFrame.eval_const, BigFrame.eval_global, BigFrame.eval_func, ↓IntWalk.iteOmega, ev e102, q0]
        with_reducible rfl
      apply Build.det 104 Ext.refl (by rfl) (by rw [k.size]; rfl) rfl
      case h =>   -- 4: t104 := Op.fieldAddr 74 (tmp 7) 1
        intro ax wx hE hR hF
        simp [go_sem, BigFrame.eval_const, BigFrame.eval_global, BigFrame.eval_func, ↓IntWalk.iteOmega, ev (hE.eval 7 (by rfl) e7)]
        with_reducible rfl
      apply Build.det 105 Ext.refl (by rfl) (by rw [k.size]; rfl) rfl
      case h =>   -- 5: t105 := Op.load 3 (tmp 104)
        intro ax wx hE hR hF
        have e104 : ax.eval (.tmp 104) = _ := hF 4 (det 104 _) (by decide) (.head _)
        have q0 : wx.cell? ⟨xb, 1, none⟩ = some (.int .i64 ↑x) := (OwnT.blk (OwnT.ext O hR) 2 rfl).cell 1
        simp [go_sem, BigFrame.eval_const, BigFrame.eval_global, BigFrame.eval_func, ↓IntWalk.iteOmega, ev e104, q0]
        with_reducible rfl
      apply Build.det 106 Ext.refl (by rfl) (by rw [k.size]; rfl) rfl
      case h =>   -- 6: t106 := Op.move (tmp 15)
        intro ax wx hE hR hF
        exact x_move rfl (hE.eval 15 (by rfl) e15)
      apply Build.det 107 Ext.refl (by rfl) (by rw [k.size]; rfl) rfl
      case h =>   -- 7: t107 := Op.binOp BinOp.add 3 (tmp 105) (tmp 106) 3
        intro ax wx hE hR hF
        have e105 : ax.eval (.tmp 105) = _ := hF 5 (det 105 _) (by decide) (.tail _ (.head _))
        have e106 : ax.eval (.tmp 106) = _ := hF 6 (det 106 _) (by decide) (.head _)
        exact x_val (v := .int .i64 (i2 : Int)) (x_add rfl e105 e106 (by omega)) (int_eq (by omega))
      apply Build.det 108 Ext.refl (by rfl) (by rw [k.size]; rfl) rfl
      case h =>   -- 8: t108 := Op.indexAddr 78 (tmp 103) (tmp 107)
        intro ax wx hE hR hF
        have e103 : ax.eval (.tmp 103) = _ := hF 3 (det 103 _) (by decide) (.tail _ (.tail _ (.tail _ (.tail _ (.head _)))))
        have e107 : ax.eval (.tmp 107) = _ := hF 7 (det 107 _) (by decide) (.head _)
        simp [go_sem, BigFrame.eval_const, BigFrame.eval_global, BigFrame.eval_func, ↓IntWalk.iteOmega, ev e103, ev e107]
        with_reducible rfl
      apply Build.stop
      refine ⟨by kernel_rfl, .inr ⟨by kernel_rfl, _, rfl, rfl, ?_⟩⟩
      intro a94 w95 hE R hF
      have e108 : a94.eval (.tmp 108) = _ := hF 8 (det 108 _) (.head _)
      clear hF
      replace O := OwnT.ext O R
      clear R
      obtain ⟨hcc, hfz⟩ := row1_cell (OwnT.get O 6 rfl) (i := i2) (List.getElem?_eq_getElem (by simp only [boolsV, List.length_map, isL_len]; omega))
      refine last_skip (w' := w95.setCell ⟨g3, i2, none⟩ (.bool true)) rfl (by simp [go_sem, BigFrame.eval_const, BigFrame.eval_global, BigFrame.eval_func, ↓IntWalk.iteOmega, ev e108, hcc, hfz]) ?_
      replace O := OwnT.push (L := _ :: _ :: _ :: _ :: _ :: _ :: _ :: R) 6 rfl ((OwnT.pull O 6 rfl).setRow1 (i := i2) (hi2 ▸ hxz) (.bool true))
      clear hcc hfz
      generalize (w95.setCell ⟨g3, i2, none⟩ (.bool true)) = w96 at O ⊢
      rw [show (boolsV (isL n (wrS (wT b j) ↑x L z))).set i2 (.bool true) = boolsV (isL n (wrS (wT b j) ↑x L (z + 1))) by rw [wr_step (by omega), isL_put, hi2]; simp [boolsV, List.map_set]] at O
      replace e0 := hE.eval 0 (by rfl) e0
      replace e2 := hE.eval 2 (by rfl) e2
      replace e7 := hE.eval 7 (by rfl) e7
      replace e9 := hE.eval 9 (by rfl) e9
      replace e13 := hE.eval 13 (by rfl) e13
      replace e14 := hE.eval 14 (by rfl) e14
      replace e15 := hE.eval 15 (by rfl) e15
      replace k := k.env hE
      clear hE e108
      refine block_n ?_
      refine then_n ?_
      refine wp_region_lit ?_   -- region 18
      have hE := Env.refl a94 [83, 84, 15]
      apply sq_det 83 hE k rfl (by rfl) (by rfl) rfl
      case h =>   -- 0: t83 := Op.move (tmp 15)
        exact x_move rfl e15
      intro a97 hE e83 kp
      replace e15 := (kp 15 rfl).trans e15
      apply sq_det 84 hE k rfl (by rfl) (by rfl) rfl
      case h =>   -- 1: t84 := Op.binOp BinOp.add 3 (tmp 83) (const (Value.int IntKind.i64 1)) 3
        exact x_add rfl e83 rfl (by omega)
      intro a98 hE e84 kp
      replace e15 := (kp 15 rfl).trans e15
      apply sq_det 15 hE k rfl (by rfl) (by rfl) rfl
      case h =>   -- 2: t15 := Op.assign (tmp 84)
        exact x_assign rfl e84
      intro a99 hE e15 kp
      refine wpList_nil ?_
      replace e0 := hE.eval 0 (by rfl) e0
      replace e2 := hE.eval 2 (by rfl) e2
      replace e7 := hE.eval 7 (by rfl) e7
      replace e9 := hE.eval 9 (by rfl) e9
      replace e13 := hE.eval 13 (by rfl) e13
      replace e14 := hE.eval 14 (by rfl) e14
      replace k := k.env hE
      clear hE
      refine then_n ?_
      refine ⟨⟨k, e0, e2, e7, e9, e13, e14, z + 1, e15, by omega, O⟩, ?_⟩
      rw [e15, mz]; simp only [intOf]; omega
    · obtain rfl : z = i := by omega
      refine wp_seq ?_
      refine wp_seq ?_
      refine wp_region_lit ?_   -- region 17
      have hE := Env.refl a81 [75, 76, 77, 78, 79, 80, 81, 82]
      apply sq_det 75 hE k rfl (by rfl) (by rfl) rfl
      case h =>   -- 0: t75 := Op.move (tmp 15)
        exact x_move rfl (hE.eval 15 (by rfl) e15)
      intro a100 hE e75 kp
      apply sq_det 76 hE k rfl (by rfl) (by rfl) rfl
      case h =>   -- 1: t76 := Op.move (tmp 14)
        exact x_move rfl (hE.eval 14 (by rfl) e14)
      intro a101 hE e76 kp
      replace e75 := (kp 75 rfl).trans e75
      apply sq_det 77 hE k rfl (by rfl) (by rfl) rfl
      case h =>   -- 2: t77 := Op.binOp BinOp.lss 3 (tmp 75) (tmp 76) 3
        exact x_dec (x_lss rfl e75 e76) (decide_eq_false (by omega))
      intro a102 hE e77 kp
      apply sq_det 78 hE k rfl (by rfl) (by rfl) rfl
      case h =>   -- 3: t78 := Op.move (tmp 77)
        exact x_move rfl e77
      intro a103 hE e78 kp
      refine sq_skipg 79 hE k rfl (by rfl) (by rfl) rfl rfl (.inl e78) ?_
      intro a104 hE e79 kp
      replace e78 := (kp 78 rfl).trans e78
      refine sq_skipg 80 hE k rfl (by rfl) (by rfl) rfl rfl (.inl e78) ?_
      intro a105 hE e80 kp
      replace e78 := (kp 78 rfl).trans e78
      replace e79 := (kp 79 rfl).trans e79
      refine sq_skipg 81 hE k rfl (by rfl) (by rfl) rfl rfl (.inl e78) ?_
      intro a106 hE e81 kp
      replace e78 := (kp 78 rfl).trans e78
      apply sq_det 82 hE k rfl (by rfl) (by rfl) rfl
      case h =>   -- 7: t82 := Op.pick (tmp 78) (tmp 81) (const (Value.bool false))
        exact x_pick_f rfl e78 rfl
      intro a107 hE e82 kp
      refine wpList_nil ?_
      replace e0 := hE.eval 0 (by rfl) e0
      replace e2 := hE.eval 2 (by rfl) e2
      replace e7 := hE.eval 7 (by rfl) e7
      replace e9 := hE.eval 9 (by rfl) e9
      replace e13 := hE.eval 13 (by rfl) e13
      replace e14 := hE.eval 14 (by rfl) e14
      replace e15 := hE.eval 15 (by rfl) e15
      replace k := k.env hE
      clear hE
      refine then_n ?_
      refine cond_f e82 rfl ?_
      refine wp_exit ?_
      refine then_x ?_
      refine then_x ?_
      refine block_x ?_
      refine then_n ?_
      by_cases hzj : z = j
      · rw [if_pos hzj] at e13
        refine wp_seq ?_
        refine wp_region_lit ?_   -- region 21
        have hE := Env.refl a107 [109, 110, 111, 112, 113, 114, 115, 116, 117, 118, 119, 120, 121, 122, 123, 124, 125, 126, 127, 128, 129, 130, 131, 132, 8]
        apply sq_det 109 hE k rfl (by rfl) (by rfl) rfl
        case h =>   -- 0: t109 := Op.move (tmp 14)
          exact x_move rfl (hE.eval 14 (by rfl) e14)
        intro a108 hE e109 kp
        apply sq_det 110 hE k rfl (by rfl) (by rfl) rfl
        case h =>   -- 1: t110 := Op.move (tmp 9)
          exact x_move rfl (hE.eval 9 (by rfl) e9)
        intro a109 hE e110 kp
        replace e109 := (kp 109 rfl).trans e109
        apply sq_det 111 hE k rfl (by rfl) (by rfl) rfl
        case h =>   -- 2: t111 := Op.binOp BinOp.leq 3 (tmp 109) (tmp 110) 3
          exact x_dec (x_leq rfl e109 e110) (decide_eq_true (by omega))
        intro a110 hE e111 kp
        apply sq_det 112 hE k rfl (by rfl) (by rfl) rfl
        case h =>   -- 3: t112 := Op.move (tmp 111)
          exact x_move rfl e111
        intro a111 hE e112 kp
        apply sq_detg 113 hE k rfl (by rfl) (by rfl) rfl rfl e112
        case h =>   -- 4: t113 := Op.move (tmp 13)
          exact x_move rfl (hE.eval 13 (by rfl) e13)
        intro a112 hE e113 kp
        replace e112 := (kp 112 rfl).trans e112
        apply sq_detg 114 hE k rfl (by rfl) (by rfl) rfl rfl e112
        case h =>   -- 5: t114 := Op.binOp BinOp.eql 36 (tmp 113) (const (Value.int IntKind.i64 0)) 36
          exact x_eql rfl e113 rfl
        intro a113 hE e114 kp
        replace e112 := (kp 112 rfl).trans e112
        apply sq_detg 115 hE k rfl (by rfl) (by rfl) rfl rfl e112
        case h =>   -- 6: t115 := Op.move (tmp 14)
          exact x_move rfl (hE.eval 14 (by rfl) e14)
        intro a114 hE e115 kp
        replace e112 := (kp 112 rfl).trans e112
        replace e114 := (kp 114 rfl).trans e114
        apply sq_detg 116 hE k rfl (by rfl) (by rfl) rfl rfl e112
        case h =>   -- 7: t116 := Op.move (tmp 9)
          exact x_move rfl (hE.eval 9 (by rfl) e9)
        intro a115 hE e116 kp
        replace e112 := (kp 112 rfl).trans e112
        replace e114 := (kp 114 rfl).trans e114
        replace e115 := (kp 115 rfl).trans e115
        apply sq_detg 117 hE k rfl (by rfl) (by rfl) rfl rfl e112
        case h =>   -- 8: t117 := Op.binOp BinOp.eql 3 (tmp 115) (tmp 116) 3
          exact x_dec (x_eql rfl e115 e116) (decide_eq_true (by omega))
        intro a116 hE e117 kp
        replace e112 := (kp 112 rfl).trans e112
        replace e114 := (kp 114 rfl).trans e114
        apply sq_detg 118 hE k rfl (by rfl) (by rfl) rfl rfl e112
        case h =>   -- 9: t118 := Op.binOp BinOp.eql 4 (tmp 114) (tmp 117) 4
          simp [go_sem, BigFrame.eval_const, BigFrame.eval_global, BigFrame.eval_func, ↓IntWalk.iteOmega, ev e114, ev e117]
          with_reducible rfl
        intro a117 hE e118 kp
        replace e112 := (kp 112 rfl).trans e112
        apply sq_det 119 hE k rfl (by rfl) (by rfl) rfl
        case h =>   -- 10: t119 := Op.pick (tmp 112) (tmp 118) (const (Value.bool false))
          exact x_pick_t rfl e112 e118
        intro a118 hE e119 kp
        apply sq_det 120 hE k rfl (by rfl) (by rfl) rfl
        case h =>   -- 11: t120 := Op.move (tmp 119)
          exact x_move rfl e119
        intro a119 hE e120 kp
        apply sq_detg 121 hE k rfl (by rfl) (by rfl) rfl rfl e120
        case h =>   -- 12: t121 := Op.move (tmp 13)
          exact x_move rfl (hE.eval 13 (by rfl) e13)
        intro a120 hE e121 kp
        replace e120 := (kp 120 rfl).trans e120
        apply sq_detg 122 hE k rfl (by rfl) (by rfl) rfl rfl e120
        case h =>   -- 13: t122 := Op.binOp BinOp.eql 36 (tmp 121) (const (Value.int IntKind.i64 0)) 36
          exact x_eql rfl e121 rfl
        intro a121 hE e122 kp
        replace e120 := (kp 120 rfl).trans e120
        apply sq_detg 123 hE k rfl (by rfl) (by rfl) rfl rfl e120
        case h =>   -- 14: t123 := Op.move (tmp 122)
          exact x_move rfl e122
        intro a122 hE e123 kp
        replace e120 := (kp 120 rfl).trans e120
        refine sq_skipg 124 hE k rfl (by rfl) (by rfl) rfl rfl (.inl e123) ?_
        intro a123 hE e124 kp
        replace e120 := (kp 120 rfl).trans e120
        replace e123 := (kp 123 rfl).trans e123
        refine sq_skipg 125 hE k rfl (by rfl) (by rfl) rfl rfl (.inl e123) ?_
        intro a124 hE e125 kp
        replace e120 := (kp 120 rfl).trans e120
        replace e123 := (kp 123 rfl).trans e123
        refine sq_skipg 126 hE k rfl (by rfl) (by rfl) rfl rfl (.inl e123) ?_
        intro a125 hE e126 kp
        replace e120 := (kp 120 rfl).trans e120
        replace e123 := (kp 123 rfl).trans e123
        refine sq_skipg 127 hE k rfl (by rfl) (by rfl) rfl rfl (.inr e126) ?_
        intro a126 hE e127 kp
        replace e120 := (kp 120 rfl).trans e120
        replace e123 := (kp 123 rfl).trans e123
        replace e126 := (kp 126 rfl).trans e126
        refine sq_skipg 128 hE k rfl (by rfl) (by rfl) rfl rfl (.inr e126) ?_
        intro a127 hE e128 kp
        replace e120 := (kp 120 rfl).trans e120
        replace e123 := (kp 123 rfl).trans e123
        replace e126 := (kp 126 rfl).trans e126
        refine sq_skipg 129 hE k rfl (by rfl) (by rfl) rfl rfl (.inr e126) ?_
        intro a128 hE e129 kp
        replace e120 := (kp 120 rfl).trans e120
        replace e123 := (kp 123 rfl).trans e123
        replace e126 := (kp 126 rfl).trans e126
        refine sq_skipg 130 hE k rfl (by rfl) (by rfl) rfl rfl (.inl e123) ?_
        intro a129 hE e130 kp
        replace e120 := (kp 120 rfl).trans e120
        replace e123 := (kp 123 rfl).trans e123
        apply sq_detg 131 hE k rfl (by rfl) (by rfl) rfl rfl e120
        case h =>   -- 22: t131 := Op.pick (tmp 123) (const (Value.bool true)) (tmp 130)
          exact x_pick_t rfl e123 rfl
        intro a130 hE e131 kp
        replace e120 := (kp 120 rfl).trans e120
        apply sq_det 132 hE k rfl (by rfl) (by rfl) rfl
        case h =>   -- 23: t132 := Op.pick (tmp 120) (tmp 131) (const (Value.bool false))
          exact x_pick_t rfl e120 e131
        intro a131 hE e132 kp
        apply sq_det 8 hE k rfl (by rfl) (by rfl) rfl
        case h =>   -- 24: t8 := Op.assign (tmp 132)
          exact x_assign rfl e132
        intro a132 hE e8 kp
        refine wpList_nil ?_
        replace k := k.env hE
        clear hE e0 e2 e7 e9 e13 e14 e15 e82
        refine then_n ?_
        refine wp_ret ?_
        refine block_r ?_
        refine then_r ?_
        replace O := OwnT.drop3 O
        refine ret_F1 rfl k e8 ?_
        exact ⟨rfl, S, wrS (wT b j) ↑x L z, M', hM'.mono (by omega), O⟩
      · rw [if_neg hzj] at e13
        have haw := ha (by omega)
        refine wp_seq ?_
        refine wp_region_lit ?_   -- region 21
        have hE := Env.refl a107 [109, 110, 111, 112, 113, 114, 115, 116, 117, 118, 119, 120, 121, 122, 123, 124, 125, 126, 127, 128, 129, 130, 131, 132, 8]
        apply sq_det 109 hE k rfl (by rfl) (by rfl) rfl
        case h =>   -- 0: t109 := Op.move (tmp 14)
          exact x_move rfl (hE.eval 14 (by rfl) e14)
        intro a133 hE e109 kp
        apply sq_det 110 hE k rfl (by rfl) (by rfl) rfl
        case h =>   -- 1: t110 := Op.move (tmp 9)
          exact x_move rfl (hE.eval 9 (by rfl) e9)
        intro a134 hE e110 kp
        replace e109 := (kp 109 rfl).trans e109
        apply sq_det 111 hE k rfl (by rfl) (by rfl) rfl
        case h =>   -- 2: t111 := Op.binOp BinOp.leq 3 (tmp 109) (tmp 110) 3
          exact x_dec (x_leq rfl e109 e110) (decide_eq_true (by omega))
        intro a135 hE e111 kp
        apply sq_det 112 hE k rfl (by rfl) (by rfl) rfl
        case h =>   -- 3: t112 := Op.move (tmp 111)
          exact x_move rfl e111
        intro a136 hE e112 kp
        apply sq_detg 113 hE k rfl (by rfl) (by rfl) rfl rfl e112
        case h =>   -- 4: t113 := Op.move (tmp 13)
          exact x_move rfl (hE.eval 13 (by rfl) e13)
        intro a137 hE e113 kp
        replace e112 := (kp 112 rfl).trans e112
        apply sq_detg 114 hE k rfl (by rfl) (by rfl) rfl rfl e112
        case h =>   -- 5: t114 := Op.binOp BinOp.eql 36 (tmp 113) (const (Value.int IntKind.i64 0)) 36
          exact x_eql rfl e113 rfl
        intro a138 hE e114 kp
        replace e112 := (kp 112 rfl).trans e112
        apply sq_detg 115 hE k rfl (by rfl) (by rfl) rfl rfl e112
        case h =>   -- 6: t115 := Op.move (tmp 14)
          exact x_move rfl (hE.eval 14 (by rfl) e14)
        intro a139 hE e115 kp
        replace e112 := (kp 112 rfl).trans e112
        replace e114 := (kp 114 rfl).trans e114
        apply sq_detg 116 hE k rfl (by rfl) (by rfl) rfl rfl e112
        case h =>   -- 7: t116 := Op.move (tmp 9)
          exact x_move rfl (hE.eval 9 (by rfl) e9)
        intro a140 hE e116 kp
        replace e112 := (kp 112 rfl).trans e112
        replace e114 := (kp 114 rfl).trans e114
        replace e115 := (kp 115 rfl).trans e115
        apply sq_detg 117 hE k rfl (by rfl) (by rfl) rfl rfl e112
        case h =>   -- 8: t117 := Op.binOp BinOp.eql 3 (tmp 115) (tmp 116) 3
          exact x_dec (x_eql rfl e115 e116) (decide_eq_false (by omega))
        intro a141 hE e117 kp
        replace e112 := (kp 112 rfl).trans e112
        replace e114 := (kp 114 rfl).trans e114
        apply sq_detg 118 hE k rfl (by rfl) (by rfl) rfl rfl e112
        case h =>   -- 9: t118 := Op.binOp BinOp.eql 4 (tmp 114) (tmp 117) 4
          simp [go_sem, BigFrame.eval_const, BigFrame.eval_global, BigFrame.eval_func, ↓IntWalk.iteOmega, ev e114, ev e117]
          with_reducible rfl
        intro a142 hE e118 kp
        replace e112 := (kp 112 rfl).trans e112
        apply sq_det 119 hE k rfl (by rfl) (by rfl) rfl
        case h =>   -- 10: t119 := Op.pick (tmp 112) (tmp 118) (const (Value.bool false))
          exact x_pick_t rfl e112 e118
        intro a143 hE e119 kp
        apply sq_det 120 hE k rfl (by rfl) (by rfl) rfl
        case h =>   -- 11: t120 := Op.move (tmp 119)
          exact x_move rfl e119
        intro a144 hE e120 kp
        apply sq_detg 121 hE k rfl (by rfl) (by rfl) rfl rfl e120
        case h =>   -- 12: t121 := Op.move (tmp 13)
          exact x_move rfl (hE.eval 13 (by rfl) e13)
        intro a145 hE e121 kp
        replace e120 := (kp 120 rfl).trans e120
        apply sq_detg 122 hE k rfl (by rfl) (by rfl) rfl rfl e120
        case h =>   -- 13: t122 := Op.binOp BinOp.eql 36 (tmp 121) (const (Value.int IntKind.i64 0)) 36
          exact x_eql rfl e121 rfl
        intro a146 hE e122 kp
        replace e120 := (kp 120 rfl).trans e120
        apply sq_detg 123 hE k rfl (by rfl) (by rfl) rfl rfl e120
        case h =>   -- 14: t123 := Op.move (tmp 122)
          exact x_move rfl e122
        intro a147 hE e123 kp
        replace e120 := (kp 120 rfl).trans e120
        apply sq_detg 124 hE k rfl (by rfl) (by rfl) rfl rfl e123
        case h =>   -- 15: t124 := Op.move (tmp 13)
          exact x_move rfl (hE.eval 13 (by rfl) e13)
        intro a148 hE e124 kp
        replace e120 := (kp 120 rfl).trans e120
        replace e123 := (kp 123 rfl).trans e123
        apply sq_detg 125 hE k rfl (by rfl) (by rfl) rfl rfl e123
        case h =>   -- 16: t125 := Op.binOp BinOp.eql 36 (tmp 124) (const (Value.int IntKind.i64 4)) 36
          exact x_eql rfl e124 rfl
        intro a149 hE e125 kp
        replace e120 := (kp 120 rfl).trans e120
        replace e123 := (kp 123 rfl).trans e123
        apply sq_detg 126 hE k rfl (by rfl) (by rfl) rfl rfl e123
        case h =>   -- 17: t126 := Op.move (tmp 125)
          exact x_move rfl e125
        intro a150 hE e126 kp
        replace e120 := (kp 120 rfl).trans e120
        replace e123 := (kp 123 rfl).trans e123
        apply sq_detg 127 hE k rfl (by rfl) (by rfl) rfl rfl e126
        case h =>   -- 18: t127 := Op.move (tmp 0)
          exact x_move rfl (hE.eval 0 (by rfl) e0)
        intro a151 hE e127 kp
        replace e120 := (kp 120 rfl).trans e120
        replace e123 := (kp 123 rfl).trans e123
        replace e126 := (kp 126 rfl).trans e126
        apply sq_callg 128 hE k rfl (by rfl) (by rfl) rfl rfl e126
        case h =>   -- (*tierce/mains.Mains).On
          simp [go_sem, BigFrame.eval_const, BigFrame.eval_global, BigFrame.eval_func, ↓IntWalk.iteOmega, ev e127]
          with_reducible exact ⟨rfl, rfl⟩
        case hc => exact on_mn (OwnT.get O 1 rfl)
        rintro e _ ⟨rfl, rfl⟩
        refine ⟨_, congrArg (fun b => Ending.returned (.bool !b)) haw, ?_⟩
        intro a152 hE e128 kp
        replace e120 := (kp 120 rfl).trans e120
        replace e123 := (kp 123 rfl).trans e123
        replace e126 := (kp 126 rfl).trans e126
        apply sq_detg 129 hE k rfl (by rfl) (by rfl) rfl rfl e126
        case h =>   -- 20: t129 := Op.unOp UnOp.not 4 (tmp 128)
          exact x_not rfl e128
        intro a153 hE e129 kp
        replace e120 := (kp 120 rfl).trans e120
        replace e123 := (kp 123 rfl).trans e123
        replace e126 := (kp 126 rfl).trans e126
        apply sq_detg 130 hE k rfl (by rfl) (by rfl) rfl rfl e123
        case h =>   -- 21: t130 := Op.pick (tmp 126) (tmp 129) (const (Value.bool false))
          exact x_pick_t rfl e126 e129
        intro a154 hE e130 kp
        replace e120 := (kp 120 rfl).trans e120
        replace e123 := (kp 123 rfl).trans e123
        apply sq_detg 131 hE k rfl (by rfl) (by rfl) rfl rfl e120
        case h =>   -- 22: t131 := Op.pick (tmp 123) (const (Value.bool true)) (tmp 130)
          exact x_pick_f rfl e123 e130
        intro a155 hE e131 kp
        replace e120 := (kp 120 rfl).trans e120
        apply sq_det 132 hE k rfl (by rfl) (by rfl) rfl
        case h =>   -- 23: t132 := Op.pick (tmp 120) (tmp 131) (const (Value.bool false))
          exact x_pick_t rfl e120 e131
        intro a156 hE e132 kp
        apply sq_det 8 hE k rfl (by rfl) (by rfl) rfl
        case h =>   -- 24: t8 := Op.assign (tmp 132)
          exact x_assign rfl e132
        intro a157 hE e8 kp
        refine wpList_nil ?_
        replace k := k.env hE
        clear hE e0 e2 e7 e9 e13 e14 e15 e82
        refine then_n ?_
        refine wp_ret ?_
        refine block_r ?_
        refine then_r ?_
        replace O := OwnT.drop3 O
        refine ret_F1 rfl k e8 ?_
        exact ⟨rfl, S, wrS (wT b j) ↑x L z, M', hM'.mono (by omega), O⟩
set_option maxRecDepth 100000 in
set_option maxHeartbeats 4000000 in
theorem do_read {H : Nat} {A0 : World} {R : List Thing} {p mb ub n cap bm c1 c2 c3 : Nat} {B B1 B2 B3 : Option Addr} {S : List Sec} {L : Int → Option Sec} {M : Mn} {c : Int} {x N : Int} {b : UInt8} {q : List UInt8} (w : World) (O : OwnT H A0 ((tDisc p mb B n cap bm S L) :: (tMn mb M) :: (tBlk ub 80 #[.slice B1 n c1, .slice B2 n c2, .slice B3 n c3]) :: (tRow 9 1 (.slice B1 n c1) n (strsV (nowL S L))) :: (tRow 9 1 (.slice B2 n c2) n (strsV S)) :: (tRow 4 1 (.slice B3 n c3) n (boolsV (isL n L))) :: R) w) (hM : M.Ok c) (hc : c ≤ 1000000) (hc1 : n ≤ c1)  : Calls Try.prog 45 #[.pointer (some ⟨mb, 0, none⟩), .pointer (some ⟨p, 0, none⟩), .pointer (some ⟨ub, 0, none⟩), .agg #[.int .i64 3, .int .i64 x, .int .i64 N, .int .u8 (b.toNat : Int), .string (sB q)]] w fun e w' => e = .returned (.bool true) ∧ ∃ S' L' M', M'.Ok (c + 20) ∧ OwnT H A0 ((tDisc p mb B n cap bm S' L') :: (tMn mb M') :: (tBlk ub 80 #[.slice B1 n c1, .slice B2 n c2, .slice B3 n c3]) :: (tRow 9 1 (.slice B1 n c1) n (strsV (nowL S' L'))) :: (tRow 9 1 (.slice B2 n c2) n (strsV S')) :: (tRow 4 1 (.slice B3 n c3) n (boolsV (isL n L'))) :: R) w' := by
  have hk := O.dok
  have hnl := hk.le
  have hSn := hk.len
  refine calls_F Try.func45 rfl 232 rfl (by rfl) ?_
  intro a1 k hargs
  have e0 : a1.eval (.tmp 0) = .pointer (some ⟨mb, 0, none⟩) := hargs 0 _ rfl
  have e1 : a1.eval (.tmp 1) = .pointer (some ⟨p, 0, none⟩) := hargs 1 _ rfl
  have e2 : a1.eval (.tmp 2) = .pointer (some ⟨ub, 0, none⟩) := hargs 2 _ rfl
  have e3 : a1.eval (.tmp 3) = .agg #[.int .i64 3, .int .i64 x, .int .i64 N, .int .u8 ↑b.toNat, .string (sB q)] := hargs 3 _ rfl
  clear hargs
  refine wp_seq ?_
  refine wp_region_lit ?_   -- region 0
  have hE := Env.refl a1 [7, 8]
  refine sq_new O (cs := #[.int .i64 3, .int .i64 x, .int .i64 N, .int .u8 ↑b.toNat, .string (sB q)]) (t := 74) 7 hE k rfl (by rfl) (by rfl) rfl (by simp [go_sem, BigFrame.eval_const, BigFrame.eval_global, BigFrame.eval_func, ↓IntWalk.iteOmega, ev (hE.eval 3 (by rfl) e3)]) ?_
  clear O
  intro xb a2 w3 O hE e7 kp
  apply sq_det 8 hE k rfl (by rfl) (by rfl) rfl
  case h =>   -- 1: t8 := Op.assign (const (Value.bool false))
    exact x_assign rfl rfl
  intro a4 hE e8 kp
  replace e7 := (kp 7 rfl).trans e7
  refine wpList_nil ?_
  replace e0 := hE.eval 0 (by rfl) e0
  replace e1 := hE.eval 1 (by rfl) e1
  replace e2 := hE.eval 2 (by rfl) e2
  replace k := k.env hE
  clear hE e3 e8
  refine then_n ?_
  replace O := OwnT.turn3 O
  replace O : OwnT _ _ ((tDisc p mb B n cap bm S L) :: (tMn mb M) :: (tBlk xb 74 #[.int .i64 3, .int .i64 x, .int .i64 N, .int .u8 ↑b.toNat, .string (sB q)]) :: (tBlk ub 80 #[.slice B1 n c1, .slice B2 n c2, .slice B3 n c3]) :: (tRow 9 1 (.slice B1 n c1) n (strsV (nowL S L))) :: (tRow 9 1 (.slice B2 n c2) n (strsV S)) :: (tRow 4 1 (.slice B3 n c3) n (boolsV (isL n L))) :: R) w3 := O
  refine wp_seq ?_
  refine wp_seq ?_
  refine wp_region_lit ?_   -- region 1
  have hE := Env.refl a4 [20, 21]
  apply sq_det 20 hE k rfl (by rfl) (by rfl) rfl
  case h =>   -- 0: t20 := Op.fieldAddr 74 (tmp 7) 0
    simp [go_sem, BigFrame.eval_const, BigFrame.eval_global, BigFrame.eval_func, ↓IntWalk.iteOmega, ev (hE.eval 7 (by rfl) e7)]
    with_reducible rfl
  intro a5 hE e20 kp
  apply sq_det 21 hE k rfl (by rfl) (by rfl) rfl
  case h =>   -- 1: t21 := Op.load 3 (tmp 20)
    have q0 : w3.cell? ⟨xb, 0, none⟩ = some (.int .i64 3) := (OwnT.blk O 2 rfl).cell 0
    simp [go_sem, BigFrame.eval_const, BigFrame.eval_global, BigFrame.eval_func, ↓IntWalk.iteOmega, ev e20, q0]
    with_reducible rfl
  intro a6 hE e21 kp
  refine wpList_nil ?_
  replace e0 := hE.eval 0 (by rfl) e0
  replace e1 := hE.eval 1 (by rfl) e1
  replace e2 := hE.eval 2 (by rfl) e2
  replace e7 := hE.eval 7 (by rfl) e7
  replace k := k.env hE
  clear hE
  refine then_n ?_
  refine wp_block ?_
  refine wp_seq ?_
  refine wp_seq ?_
  refine wp_region_lit ?_   -- region 3
  have hE := Env.refl a6 [30, 29]
  apply sq_det 30 hE k rfl (by rfl) (by rfl) rfl
  case h =>   -- 0: t30 := Op.binOp BinOp.eql 3 (tmp 21) (const (Value.int IntKind.i64 1)) 3
    exact x_eql rfl (hE.eval 21 (by rfl) e21) rfl
  intro a7 hE e30 kp
  apply sq_det 29 hE k rfl (by rfl) (by rfl) rfl
  case h =>   -- 1: t29 := Op.assign (tmp 30)
    exact x_assign rfl e30
  intro a8 hE e29 kp
  refine wpList_nil ?_
  replace e0 := hE.eval 0 (by rfl) e0
  replace e1 := hE.eval 1 (by rfl) e1
  replace e2 := hE.eval 2 (by rfl) e2
  replace e7 := hE.eval 7 (by rfl) e7
  replace e21 := hE.eval 21 (by rfl) e21
  replace k := k.env hE
  clear hE
  refine then_n ?_
  refine cond_f e29 rfl ?_
  refine wp_region_lit ?_   -- region 4
  have hE := Env.refl a8 [31, 29]
  apply sq_det 31 hE k rfl (by rfl) (by rfl) rfl
  case h =>   -- 0: t31 := Op.binOp BinOp.eql 3 (tmp 21) (const (Value.int IntKind.i64 2)) 3
    exact x_eql rfl (hE.eval 21 (by rfl) e21) rfl
  intro a9 hE e31 kp
  apply sq_det 29 hE k rfl (by rfl) (by rfl) rfl
  case h =>   -- 1: t29 := Op.assign (tmp 31)
    exact x_assign rfl e31
  intro a10 hE e29 kp
  refine wpList_nil ?_
  replace e0 := hE.eval 0 (by rfl) e0
  replace e1 := hE.eval 1 (by rfl) e1
  replace e2 := hE.eval 2 (by rfl) e2
  replace e7 := hE.eval 7 (by rfl) e7
  replace e21 := hE.eval 21 (by rfl) e21
  replace k := k.env hE
  clear hE
  refine then_n ?_
  refine cond_f e29 rfl ?_
  refine wp_seq ?_
  refine wp_region_lit ?_   -- region 22
  have hE := Env.refl a10 [134, 133]
  apply sq_det 134 hE k rfl (by rfl) (by rfl) rfl
  case h =>   -- 0: t134 := Op.binOp BinOp.eql 3 (tmp 21) (const (Value.int IntKind.i64 3)) 3
    exact x_eql rfl (hE.eval 21 (by rfl) e21) rfl
  intro a11 hE e134 kp
  apply sq_det 133 hE k rfl (by rfl) (by rfl) rfl
  case h =>   -- 1: t133 := Op.assign (tmp 134)
    exact x_assign rfl e134
  intro a12 hE e133 kp
  refine wpList_nil ?_
  replace e0 := hE.eval 0 (by rfl) e0
  replace e1 := hE.eval 1 (by rfl) e1
  replace e2 := hE.eval 2 (by rfl) e2
  replace e7 := hE.eval 7 (by rfl) e7
  replace e21 := hE.eval 21 (by rfl) e21
  replace k := k.env hE
  clear hE e29
  refine then_n ?_
  refine cond_t e133 rfl ?_
  by_cases hf : fitsB n x N = true
  rotate_left
  · replace hf := Bool.eq_false_iff.2 hf
    refine wp_seq ?_
    refine wp_region_lit ?_   -- region 23
    have hE := Env.refl a12 [136, 137, 138, 139, 140, 141, 135, 142, 143, 16, 17]
    apply sq_det 136 hE k rfl (by rfl) (by rfl) rfl
    case h =>   -- 0: t136 := Op.move (tmp 1)
      exact x_move rfl (hE.eval 1 (by rfl) e1)
    intro a13 hE e136 kp
    apply sq_det 137 hE k rfl (by rfl) (by rfl) rfl
    case h =>   -- 1: t137 := Op.fieldAddr 74 (tmp 7) 1
      simp [go_sem, BigFrame.eval_const, BigFrame.eval_global, BigFrame.eval_func, ↓IntWalk.iteOmega, ev (hE.eval 7 (by rfl) e7)]
      with_reducible rfl
    intro a14 hE e137 kp
    replace e136 := (kp 136 rfl).trans e136
    apply sq_det 138 hE k rfl (by rfl) (by rfl) rfl
    case h =>   -- 2: t138 := Op.load 3 (tmp 137)
      have q0 : w3.cell? ⟨xb, 1, none⟩ = some (.int .i64 x) := (OwnT.blk O 2 rfl).cell 1
      simp [go_sem, BigFrame.eval_const, BigFrame.eval_global, BigFrame.eval_func, ↓IntWalk.iteOmega, ev e137, q0]
      with_reducible rfl
    intro a15 hE e138 kp
    replace e136 := (kp 136 rfl).trans e136
    apply sq_det 139 hE k rfl (by rfl) (by rfl) rfl
    case h =>   -- 3: t139 := Op.fieldAddr 74 (tmp 7) 2
      simp [go_sem, BigFrame.eval_const, BigFrame.eval_global, BigFrame.eval_func, ↓IntWalk.iteOmega, ev (hE.eval 7 (by rfl) e7)]
      with_reducible rfl
    intro a16 hE e139 kp
    replace e136 := (kp 136 rfl).trans e136
    replace e138 := (kp 138 rfl).trans e138
    apply sq_det 140 hE k rfl (by rfl) (by rfl) rfl
    case h =>   -- 4: t140 := Op.load 3 (tmp 139)
      have q0 : w3.cell? ⟨xb, 2, none⟩ = some (.int .i64 N) := (OwnT.blk O 2 rfl).cell 2
      simp [go_sem, BigFrame.eval_const, BigFrame.eval_global, BigFrame.eval_func, ↓IntWalk.iteOmega, ev e139, q0]
      with_reducible rfl
    intro a17 hE e140 kp
    replace e136 := (kp 136 rfl).trans e136
    replace e138 := (kp 138 rfl).trans e138
    apply sq_call 141 hE k rfl (by rfl) (by rfl) rfl
    case h =>   -- (*tierce/disc.Disc).Read
      simp [go_sem, BigFrame.eval_const, BigFrame.eval_global, BigFrame.eval_func, ↓IntWalk.iteOmega, ev e136, ev e138, ev e140]
      with_reducible exact ⟨rfl, rfl⟩
    case hc => exact dread_range x N _ (OwnT.disc O) (OwnT.get O 1 rfl) hf
    rintro e w19 ⟨rfl, R⟩
    replace O := OwnT.ext O R
    refine ⟨_, rfl, ?_⟩
    intro a18 hE e141 kp
    apply sq_det 135 hE k rfl (by rfl) (by rfl) rfl
    case h =>   -- 6: t135 := Op.move (tmp 141)
      exact x_move rfl e141
    intro a20 hE e135 kp
    apply sq_det 142 hE k rfl (by rfl) (by rfl) rfl
    case h =>   -- 7: t142 := Op.extract (tmp 135) 0
      simp [go_sem, BigFrame.eval_const, BigFrame.eval_global, BigFrame.eval_func, ↓IntWalk.iteOmega, ev e135]
      with_reducible rfl
    intro a21 hE e142 kp
    replace e135 := (kp 135 rfl).trans e135
    apply sq_det 143 hE k rfl (by rfl) (by rfl) rfl
    case h =>   -- 8: t143 := Op.extract (tmp 135) 1
      simp [go_sem, BigFrame.eval_const, BigFrame.eval_global, BigFrame.eval_func, ↓IntWalk.iteOmega, ev e135]
      with_reducible rfl
    intro a22 hE e143 kp
    replace e142 := (kp 142 rfl).trans e142
    apply sq_det 16 hE k rfl (by rfl) (by rfl) rfl
    case h =>   -- 9: t16 := Op.assign (tmp 142)
      exact x_assign rfl e142
    intro a23 hE e16 kp
    replace e143 := (kp 143 rfl).trans e143
    apply sq_det 17 hE k rfl (by rfl) (by rfl) rfl
    case h =>   -- 10: t17 := Op.assign (tmp 143)
      exact x_assign rfl e143
    intro a24 hE e17 kp
    replace e16 := (kp 16 rfl).trans e16
    refine wpList_nil ?_
    replace e0 := hE.eval 0 (by rfl) e0
    replace e2 := hE.eval 2 (by rfl) e2
    replace e7 := hE.eval 7 (by rfl) e7
    replace k := k.env hE
    clear hE e1 e21 e133
    refine then_n ?_
    refine wp_seq ?_
    refine wp_seq ?_
    refine wp_region_lit ?_   -- region 24
    have hE := Env.refl a24 [144, 145, 146, 147, 148, 149, 150]
    apply sq_det 144 hE k rfl (by rfl) (by rfl) rfl
    case h =>   -- 0: t144 := Op.move (tmp 2)
      exact x_move rfl (hE.eval 2 (by rfl) e2)
    intro a25 hE e144 kp
    apply sq_det 145 hE k rfl (by rfl) (by rfl) rfl
    case h =>   -- 1: t145 := Op.fieldAddr 74 (tmp 7) 1
      simp [go_sem, BigFrame.eval_const, BigFrame.eval_global, BigFrame.eval_func, ↓IntWalk.iteOmega, ev (hE.eval 7 (by rfl) e7)]
      with_reducible rfl
    intro a26 hE e145 kp
    replace e144 := (kp 144 rfl).trans e144
    apply sq_det 146 hE k rfl (by rfl) (by rfl) rfl
    case h =>   -- 2: t146 := Op.load 3 (tmp 145)
      have q0 : w19.cell? ⟨xb, 1, none⟩ = some (.int .i64 x) := (OwnT.blk O 2 rfl).cell 1
      simp [go_sem, BigFrame.eval_const, BigFrame.eval_global, BigFrame.eval_func, ↓IntWalk.iteOmega, ev e145, q0]
      with_reducible rfl
    intro a27 hE e146 kp
    replace e144 := (kp 144 rfl).trans e144
    apply sq_det 147 hE k rfl (by rfl) (by rfl) rfl
    case h =>   -- 3: t147 := Op.fieldAddr 74 (tmp 7) 2
      simp [go_sem, BigFrame.eval_const, BigFrame.eval_global, BigFrame.eval_func, ↓IntWalk.iteOmega, ev (hE.eval 7 (by rfl) e7)]
      with_reducible rfl
    intro a28 hE e147 kp
    replace e144 := (kp 144 rfl).trans e144
    replace e146 := (kp 146 rfl).trans e146
    apply sq_det 148 hE k rfl (by rfl) (by rfl) rfl
    case h =>   -- 4: t148 := Op.load 3 (tmp 147)
      have q0 : w19.cell? ⟨xb, 2, none⟩ = some (.int .i64 N) := (OwnT.blk O 2 rfl).cell 2
      simp [go_sem, BigFrame.eval_const, BigFrame.eval_global, BigFrame.eval_func, ↓IntWalk.iteOmega, ev e147, q0]
      with_reducible rfl
    intro a29 hE e148 kp
    replace e144 := (kp 144 rfl).trans e144
    replace e146 := (kp 146 rfl).trans e146
    apply sq_call 149 hE k rfl (by rfl) (by rfl) rfl
    case h =>   -- (*tierce/tierceref04.Disc).Fits
      simp [go_sem, BigFrame.eval_const, BigFrame.eval_global, BigFrame.eval_func, ↓IntWalk.iteOmega, ev e144, ev e146, ev e148]
      with_reducible exact ⟨rfl, rfl⟩
    case hc => exact fits4_any x N _ ((OwnT.blk O 3 rfl).cell 0) hnl
    rintro e _ ⟨rfl, rfl⟩
    refine ⟨_, congrArg (fun b => Ending.returned (.bool b)) hf, ?_⟩
    intro a30 hE e149 kp
    apply sq_det 150 hE k rfl (by rfl) (by rfl) rfl
    case h =>   -- 6: t150 := Op.unOp UnOp.not 4 (tmp 149)
      exact x_not rfl e149
    intro a31 hE e150 kp
    refine wpList_nil ?_
    replace e0 := hE.eval 0 (by rfl) e0
    replace e2 := hE.eval 2 (by rfl) e2
    replace e7 := hE.eval 7 (by rfl) e7
    replace e16 := hE.eval 16 (by rfl) e16
    replace e17 := hE.eval 17 (by rfl) e17
    replace k := k.env hE
    clear hE
    refine then_n ?_
    refine cond_t e150 rfl ?_
    refine wp_seq ?_
    refine wp_region_lit ?_   -- region 25
    have hE := Env.refl a31 [151, 152, 153, 154, 155, 156, 8]
    apply sq_det 151 hE k rfl (by rfl) (by rfl) rfl
    case h =>   -- 0: t151 := Op.move (tmp 17)
      exact x_move rfl (hE.eval 17 (by rfl) e17)
    intro a32 hE e151 kp
    apply sq_det 152 hE k rfl (by rfl) (by rfl) rfl
    case h =>   -- 1: t152 := Op.binOp BinOp.eql 36 (tmp 151) (const (Value.int IntKind.i64 9)) 36
      exact x_eql rfl e151 rfl
    intro a33 hE e152 kp
    apply sq_det 153 hE k rfl (by rfl) (by rfl) rfl
    case h =>   -- 2: t153 := Op.move (tmp 152)
      exact x_move rfl e152
    intro a34 hE e153 kp
    apply sq_detg 154 hE k rfl (by rfl) (by rfl) rfl rfl e153
    case h =>   -- 3: t154 := Op.move (tmp 16)
      exact x_move rfl (hE.eval 16 (by rfl) e16)
    intro a35 hE e154 kp
    replace e153 := (kp 153 rfl).trans e153
    apply sq_detg 155 hE k rfl (by rfl) (by rfl) rfl rfl e153
    case h =>   -- 4: t155 := Op.binOp BinOp.eql 9 (tmp 154) (const (Value.string {data := #[]})) 9
      exact x_dec (x_eqs (l := []) (m := []) rfl e154 rfl) (decide_eq_true rfl)
    intro a36 hE e155 kp
    replace e153 := (kp 153 rfl).trans e153
    apply sq_det 156 hE k rfl (by rfl) (by rfl) rfl
    case h =>   -- 5: t156 := Op.pick (tmp 153) (tmp 155) (const (Value.bool false))
      exact x_pick_t rfl e153 e155
    intro a37 hE e156 kp
    apply sq_det 8 hE k rfl (by rfl) (by rfl) rfl
    case h =>   -- 6: t8 := Op.assign (tmp 156)
      exact x_assign rfl e156
    intro a38 hE e8 kp
    refine wpList_nil ?_
    replace k := k.env hE
    clear hE e0 e2 e7 e16 e17 e150
    refine then_n ?_
    refine wp_ret ?_
    refine then_r ?_
    refine block_r ?_
    refine then_r ?_
    replace O := OwnT.drop3 O
    refine ret_F1 rfl k e8 ?_
    exact ⟨rfl, S, L, M, hM.mono (by omega), O⟩
  cases ha : M.away with
  | true =>
    refine wp_seq ?_
    refine wp_region_lit ?_   -- region 23
    have hE := Env.refl a12 [136, 137, 138, 139, 140, 141, 135, 142, 143, 16, 17]
    apply sq_det 136 hE k rfl (by rfl) (by rfl) rfl
    case h =>   -- 0: t136 := Op.move (tmp 1)
      exact x_move rfl (hE.eval 1 (by rfl) e1)
    intro a39 hE e136 kp
    apply sq_det 137 hE k rfl (by rfl) (by rfl) rfl
    case h =>   -- 1: t137 := Op.fieldAddr 74 (tmp 7) 1
      simp [go_sem, BigFrame.eval_const, BigFrame.eval_global, BigFrame.eval_func, ↓IntWalk.iteOmega, ev (hE.eval 7 (by rfl) e7)]
      with_reducible rfl
    intro a40 hE e137 kp
    replace e136 := (kp 136 rfl).trans e136
    apply sq_det 138 hE k rfl (by rfl) (by rfl) rfl
    case h =>   -- 2: t138 := Op.load 3 (tmp 137)
      have q0 : w3.cell? ⟨xb, 1, none⟩ = some (.int .i64 x) := (OwnT.blk O 2 rfl).cell 1
      simp [go_sem, BigFrame.eval_const, BigFrame.eval_global, BigFrame.eval_func, ↓IntWalk.iteOmega, ev e137, q0]
      with_reducible rfl
    intro a41 hE e138 kp
    replace e136 := (kp 136 rfl).trans e136
    apply sq_det 139 hE k rfl (by rfl) (by rfl) rfl
    case h =>   -- 3: t139 := Op.fieldAddr 74 (tmp 7) 2
      simp [go_sem, BigFrame.eval_const, BigFrame.eval_global, BigFrame.eval_func, ↓IntWalk.iteOmega, ev (hE.eval 7 (by rfl) e7)]
      with_reducible rfl
    intro a42 hE e139 kp
    replace e136 := (kp 136 rfl).trans e136
    replace e138 := (kp 138 rfl).trans e138
    apply sq_det 140 hE k rfl (by rfl) (by rfl) rfl
    case h =>   -- 4: t140 := Op.load 3 (tmp 139)
      have q0 : w3.cell? ⟨xb, 2, none⟩ = some (.int .i64 N) := (OwnT.blk O 2 rfl).cell 2
      simp [go_sem, BigFrame.eval_const, BigFrame.eval_global, BigFrame.eval_func, ↓IntWalk.iteOmega, ev e139, q0]
      with_reducible rfl
    intro a43 hE e140 kp
    replace e136 := (kp 136 rfl).trans e136
    replace e138 := (kp 138 rfl).trans e138
    apply sq_call 141 hE k rfl (by rfl) (by rfl) rfl
    case h =>   -- (*tierce/disc.Disc).Read
      simp [go_sem, BigFrame.eval_const, BigFrame.eval_global, BigFrame.eval_func, ↓IntWalk.iteOmega, ev e136, ev e138, ev e140]
      with_reducible exact ⟨rfl, rfl⟩
    case hc => exact dread_down x N _ (OwnT.disc O) (OwnT.get O 1 rfl) hf ha
    rintro e w45 ⟨rfl, R⟩
    replace O := OwnT.ext O R
    refine ⟨_, rfl, ?_⟩
    intro a44 hE e141 kp
    apply sq_det 135 hE k rfl (by rfl) (by rfl) rfl
    case h =>   -- 6: t135 := Op.move (tmp 141)
      exact x_move rfl e141
    intro a46 hE e135 kp
    apply sq_det 142 hE k rfl (by rfl) (by rfl) rfl
    case h =>   -- 7: t142 := Op.extract (tmp 135) 0
      simp [go_sem, BigFrame.eval_const, BigFrame.eval_global, BigFrame.eval_func, ↓IntWalk.iteOmega, ev e135]
      with_reducible rfl
    intro a47 hE e142 kp
    replace e135 := (kp 135 rfl).trans e135
    apply sq_det 143 hE k rfl (by rfl) (by rfl) rfl
    case h =>   -- 8: t143 := Op.extract (tmp 135) 1
      simp [go_sem, BigFrame.eval_const, BigFrame.eval_global, BigFrame.eval_func, ↓IntWalk.iteOmega, ev e135]
      with_reducible rfl
    intro a48 hE e143 kp
    replace e142 := (kp 142 rfl).trans e142
    apply sq_det 16 hE k rfl (by rfl) (by rfl) rfl
    case h =>   -- 9: t16 := Op.assign (tmp 142)
      exact x_assign rfl e142
    intro a49 hE e16 kp
    replace e143 := (kp 143 rfl).trans e143
    apply sq_det 17 hE k rfl (by rfl) (by rfl) rfl
    case h =>   -- 10: t17 := Op.assign (tmp 143)
      exact x_assign rfl e143
    intro a50 hE e17 kp
    replace e16 := (kp 16 rfl).trans e16
    refine wpList_nil ?_
    replace e0 := hE.eval 0 (by rfl) e0
    replace e2 := hE.eval 2 (by rfl) e2
    replace e7 := hE.eval 7 (by rfl) e7
    replace k := k.env hE
    clear hE e1 e21 e133
    refine then_n ?_
    refine wp_seq ?_
    refine wp_seq ?_
    refine wp_region_lit ?_   -- region 24
    have hE := Env.refl a50 [144, 145, 146, 147, 148, 149, 150]
    apply sq_det 144 hE k rfl (by rfl) (by rfl) rfl
    case h =>   -- 0: t144 := Op.move (tmp 2)
      exact x_move rfl (hE.eval 2 (by rfl) e2)
    intro a51 hE e144 kp
    apply sq_det 145 hE k rfl (by rfl) (by rfl) rfl
    case h =>   -- 1: t145 := Op.fieldAddr 74 (tmp 7) 1
      simp [go_sem, BigFrame.eval_const, BigFrame.eval_global, BigFrame.eval_func, ↓IntWalk.iteOmega, ev (hE.eval 7 (by rfl) e7)]
      with_reducible rfl
    intro a52 hE e145 kp
    replace e144 := (kp 144 rfl).trans e144
    apply sq_det 146 hE k rfl (by rfl) (by rfl) rfl
    case h =>   -- 2: t146 := Op.load 3 (tmp 145)
      have q0 : w45.cell? ⟨xb, 1, none⟩ = some (.int .i64 x) := (OwnT.blk O 2 rfl).cell 1
      simp [go_sem, BigFrame.eval_const, BigFrame.eval_global, BigFrame.eval_func, ↓IntWalk.iteOmega, ev e145, q0]
      with_reducible rfl
    intro a53 hE e146 kp
    replace e144 := (kp 144 rfl).trans e144
    apply sq_det 147 hE k rfl (by rfl) (by rfl) rfl
    case h =>   -- 3: t147 := Op.fieldAddr 74 (tmp 7) 2
      simp [go_sem, BigFrame.eval_const, BigFrame.eval_global, BigFrame.eval_func, ↓IntWalk.iteOmega, ev (hE.eval 7 (by rfl) e7)]
      with_reducible rfl
    intro a54 hE e147 kp
    replace e144 := (kp 144 rfl).trans e144
    replace e146 := (kp 146 rfl).trans e146
    apply sq_det 148 hE k rfl (by rfl) (by rfl) rfl
    case h =>   -- 4: t148 := Op.load 3 (tmp 147)
      have q0 : w45.cell? ⟨xb, 2, none⟩ = some (.int .i64 N) := (OwnT.blk O 2 rfl).cell 2
      simp [go_sem, BigFrame.eval_const, BigFrame.eval_global, BigFrame.eval_func, ↓IntWalk.iteOmega, ev e147, q0]
      with_reducible rfl
    intro a55 hE e148 kp
    replace e144 := (kp 144 rfl).trans e144
    replace e146 := (kp 146 rfl).trans e146
    apply sq_call 149 hE k rfl (by rfl) (by rfl) rfl
    case h =>   -- (*tierce/tierceref04.Disc).Fits
      simp [go_sem, BigFrame.eval_const, BigFrame.eval_global, BigFrame.eval_func, ↓IntWalk.iteOmega, ev e144, ev e146, ev e148]
      with_reducible exact ⟨rfl, rfl⟩
    case hc => exact fits4_any x N _ ((OwnT.blk O 3 rfl).cell 0) hnl
    rintro e _ ⟨rfl, rfl⟩
    refine ⟨_, congrArg (fun b => Ending.returned (.bool b)) hf, ?_⟩
    intro a56 hE e149 kp
    apply sq_det 150 hE k rfl (by rfl) (by rfl) rfl
    case h =>   -- 6: t150 := Op.unOp UnOp.not 4 (tmp 149)
      exact x_not rfl e149
    intro a57 hE e150 kp
    refine wpList_nil ?_
    replace e0 := hE.eval 0 (by rfl) e0
    replace e2 := hE.eval 2 (by rfl) e2
    replace e7 := hE.eval 7 (by rfl) e7
    replace e16 := hE.eval 16 (by rfl) e16
    replace e17 := hE.eval 17 (by rfl) e17
    replace k := k.env hE
    clear hE
    refine then_n ?_
    refine cond_f e150 rfl ?_
    refine wp_skip ?_
    refine then_n ?_
    refine wp_seq ?_
    refine wp_seq ?_
    refine wp_region_lit ?_   -- region 26
    have hE := Env.refl a57 [157, 158, 159]
    apply sq_det 157 hE k rfl (by rfl) (by rfl) rfl
    case h =>   -- 0: t157 := Op.move (tmp 0)
      exact x_move rfl (hE.eval 0 (by rfl) e0)
    intro a58 hE e157 kp
    apply sq_call 158 hE k rfl (by rfl) (by rfl) rfl
    case h =>   -- (*tierce/mains.Mains).On
      simp [go_sem, BigFrame.eval_const, BigFrame.eval_global, BigFrame.eval_func, ↓IntWalk.iteOmega, ev e157]
      with_reducible exact ⟨rfl, rfl⟩
    case hc => exact on_mn (OwnT.get O 1 rfl)
    rintro e _ ⟨rfl, rfl⟩
    refine ⟨_, congrArg (fun b => Ending.returned (.bool !b)) ha, ?_⟩
    intro a59 hE e158 kp
    apply sq_det 159 hE k rfl (by rfl) (by rfl) rfl
    case h =>   -- 2: t159 := Op.unOp UnOp.not 4 (tmp 158)
      exact x_not rfl e158
    intro a60 hE e159 kp
    refine wpList_nil ?_
    replace e2 := hE.eval 2 (by rfl) e2
    replace e7 := hE.eval 7 (by rfl) e7
    replace e16 := hE.eval 16 (by rfl) e16
    replace e17 := hE.eval 17 (by rfl) e17
    replace k := k.env hE
    clear hE e0 e150
    refine then_n ?_
    refine cond_t e159 rfl ?_
    refine wp_seq ?_
    refine wp_region_lit ?_   -- region 27
    have hE := Env.refl a60 [160, 161, 162, 163, 164, 165, 8]
    apply sq_det 160 hE k rfl (by rfl) (by rfl) rfl
    case h =>   -- 0: t160 := Op.move (tmp 17)
      exact x_move rfl (hE.eval 17 (by rfl) e17)
    intro a61 hE e160 kp
    apply sq_det 161 hE k rfl (by rfl) (by rfl) rfl
    case h =>   -- 1: t161 := Op.binOp BinOp.eql 36 (tmp 160) (const (Value.int IntKind.i64 4)) 36
      exact x_eql rfl e160 rfl
    intro a62 hE e161 kp
    apply sq_det 162 hE k rfl (by rfl) (by rfl) rfl
    case h =>   -- 2: t162 := Op.move (tmp 161)
      exact x_move rfl e161
    intro a63 hE e162 kp
    apply sq_detg 163 hE k rfl (by rfl) (by rfl) rfl rfl e162
    case h =>   -- 3: t163 := Op.move (tmp 16)
      exact x_move rfl (hE.eval 16 (by rfl) e16)
    intro a64 hE e163 kp
    replace e162 := (kp 162 rfl).trans e162
    apply sq_detg 164 hE k rfl (by rfl) (by rfl) rfl rfl e162
    case h =>   -- 4: t164 := Op.binOp BinOp.eql 9 (tmp 163) (const (Value.string {data := #[]})) 9
      exact x_dec (x_eqs (l := []) (m := []) rfl e163 rfl) (decide_eq_true rfl)
    intro a65 hE e164 kp
    replace e162 := (kp 162 rfl).trans e162
    apply sq_det 165 hE k rfl (by rfl) (by rfl) rfl
    case h =>   -- 5: t165 := Op.pick (tmp 162) (tmp 164) (const (Value.bool false))
      exact x_pick_t rfl e162 e164
    intro a66 hE e165 kp
    apply sq_det 8 hE k rfl (by rfl) (by rfl) rfl
    case h =>   -- 6: t8 := Op.assign (tmp 165)
      exact x_assign rfl e165
    intro a67 hE e8 kp
    refine wpList_nil ?_
    replace k := k.env hE
    clear hE e2 e7 e16 e17 e159
    refine then_n ?_
    refine wp_ret ?_
    refine then_r ?_
    refine block_r ?_
    refine then_r ?_
    replace O := OwnT.drop3 O
    refine ret_F1 rfl k e8 ?_
    exact ⟨rfl, S, L, M, hM.mono (by omega), O⟩
  | false =>
    have hf' := of_decide_eq_true hf
    obtain ⟨hx0, hy0, hx1, hx2⟩ := hf'
    obtain ⟨x, rfl⟩ := Int.eq_ofNat_of_zero_le hx0
    obtain ⟨y, rfl⟩ := Int.eq_ofNat_of_zero_le hy0
    obtain ⟨A', hsl, hst⟩ := slice_strs (a := x) (y := y) (OwnT.get O 4 rfl : World.ownsRow _ 0 9 1 (.slice B1 n c1) n (strsV (nowL S L))) hc1 (by omega)
    
    refine wp_seq ?_
    refine wp_region_lit ?_   -- region 23
    have hE := Env.refl a12 [136, 137, 138, 139, 140, 141, 135, 142, 143, 16, 17]
    apply sq_det 136 hE k rfl (by rfl) (by rfl) rfl
    case h =>   -- 0: t136 := Op.move (tmp 1)
      exact x_move rfl (hE.eval 1 (by rfl) e1)
    intro a68 hE e136 kp
    apply sq_det 137 hE k rfl (by rfl) (by rfl) rfl
    case h =>   -- 1: t137 := Op.fieldAddr 74 (tmp 7) 1
      simp [go_sem, BigFrame.eval_const, BigFrame.eval_global, BigFrame.eval_func, ↓IntWalk.iteOmega, ev (hE.eval 7 (by rfl) e7)]
      with_reducible rfl
    intro a69 hE e137 kp
    replace e136 := (kp 136 rfl).trans e136
    apply sq_det 138 hE k rfl (by rfl) (by rfl) rfl
    case h =>   -- 2: t138 := Op.load 3 (tmp 137)
      have q0 : w3.cell? ⟨xb, 1, none⟩ = some (.int .i64 ↑x) := (OwnT.blk O 2 rfl).cell 1
      simp [go_sem, BigFrame.eval_const, BigFrame.eval_global, BigFrame.eval_func, ↓IntWalk.iteOmega, ev e137, q0]
      with_reducible rfl
    intro a70 hE e138 kp
    replace e136 := (kp 136 rfl).trans e136
    apply sq_det 139 hE k rfl (by rfl) (by rfl) rfl
    case h =>   -- 3: t139 := Op.fieldAddr 74 (tmp 7) 2
      simp [go_sem, BigFrame.eval_const, BigFrame.eval_global, BigFrame.eval_func, ↓IntWalk.iteOmega, ev (hE.eval 7 (by rfl) e7)]
      with_reducible rfl
    intro a71 hE e139 kp
    replace e136 := (kp 136 rfl).trans e136
    replace e138 := (kp 138 rfl).trans e138
    apply sq_det 140 hE k rfl (by rfl) (by rfl) rfl
    case h =>   -- 4: t140 := Op.load 3 (tmp 139)
      have q0 : w3.cell? ⟨xb, 2, none⟩ = some (.int .i64 ↑y) := (OwnT.blk O 2 rfl).cell 2
      simp [go_sem, BigFrame.eval_const, BigFrame.eval_global, BigFrame.eval_func, ↓IntWalk.iteOmega, ev e139, q0]
      with_reducible rfl
    intro a72 hE e140 kp
    replace e136 := (kp 136 rfl).trans e136
    replace e138 := (kp 138 rfl).trans e138
    apply sq_call 141 hE k rfl (by rfl) (by rfl) rfl
    case h =>   -- (*tierce/disc.Disc).Read
      simp [go_sem, BigFrame.eval_const, BigFrame.eval_global, BigFrame.eval_func, ↓IntWalk.iteOmega, ev e136, ev e138, ev e140]
      with_reducible exact ⟨rfl, rfl⟩
    case hc => exact dread_ok x y _ (OwnT.disc O) (OwnT.get O 1 rfl) (by omega) ha
    rintro e w74 ⟨rfl, R⟩
    replace hst := hst.ext R
    replace O := OwnT.ext O R
    refine ⟨_, rfl, ?_⟩
    intro a73 hE e141 kp
    apply sq_det 135 hE k rfl (by rfl) (by rfl) rfl
    case h =>   -- 6: t135 := Op.move (tmp 141)
      exact x_move rfl e141
    intro a75 hE e135 kp
    apply sq_det 142 hE k rfl (by rfl) (by rfl) rfl
    case h =>   -- 7: t142 := Op.extract (tmp 135) 0
      simp [go_sem, BigFrame.eval_const, BigFrame.eval_global, BigFrame.eval_func, ↓IntWalk.iteOmega, ev e135]
      with_reducible rfl
    intro a76 hE e142 kp
    replace e135 := (kp 135 rfl).trans e135
    apply sq_det 143 hE k rfl (by rfl) (by rfl) rfl
    case h =>   -- 8: t143 := Op.extract (tmp 135) 1
      simp [go_sem, BigFrame.eval_const, BigFrame.eval_global, BigFrame.eval_func, ↓IntWalk.iteOmega, ev e135]
      with_reducible rfl
    intro a77 hE e143 kp
    replace e142 := (kp 142 rfl).trans e142
    apply sq_det 16 hE k rfl (by rfl) (by rfl) rfl
    case h =>   -- 9: t16 := Op.assign (tmp 142)
      exact x_assign rfl e142
    intro a78 hE e16 kp
    replace e143 := (kp 143 rfl).trans e143
    apply sq_det 17 hE k rfl (by rfl) (by rfl) rfl
    case h =>   -- 10: t17 := Op.assign (tmp 143)
      exact x_assign rfl e143
    intro a79 hE e17 kp
    replace e16 := (kp 16 rfl).trans e16
    refine wpList_nil ?_
    replace e0 := hE.eval 0 (by rfl) e0
    replace e2 := hE.eval 2 (by rfl) e2
    replace e7 := hE.eval 7 (by rfl) e7
    replace k := k.env hE
    clear hE e1 e21 e133
    refine then_n ?_
    refine wp_seq ?_
    refine wp_seq ?_
    refine wp_region_lit ?_   -- region 24
    have hE := Env.refl a79 [144, 145, 146, 147, 148, 149, 150]
    apply sq_det 144 hE k rfl (by rfl) (by rfl) rfl
    case h =>   -- 0: t144 := Op.move (tmp 2)
      exact x_move rfl (hE.eval 2 (by rfl) e2)
    intro a80 hE e144 kp
    apply sq_det 145 hE k rfl (by rfl) (by rfl) rfl
    case h =>   -- 1: t145 := Op.fieldAddr 74 (tmp 7) 1
      simp [go_sem, BigFrame.eval_const, BigFrame.eval_global, BigFrame.eval_func, ↓IntWalk.iteOmega, ev (hE.eval 7 (by rfl) e7)]
      with_reducible rfl
    intro a81 hE e145 kp
    replace e144 := (kp 144 rfl).trans e144
    apply sq_det 146 hE k rfl (by rfl) (by rfl) rfl
    case h =>   -- 2: t146 := Op.load 3 (tmp 145)
      have q0 : w74.cell? ⟨xb, 1, none⟩ = some (.int .i64 ↑x) := (OwnT.blk O 2 rfl).cell 1
      simp [go_sem, BigFrame.eval_const, BigFrame.eval_global, BigFrame.eval_func, ↓IntWalk.iteOmega, ev e145, q0]
      with_reducible rfl
    intro a82 hE e146 kp
    replace e144 := (kp 144 rfl).trans e144
    apply sq_det 147 hE k rfl (by rfl) (by rfl) rfl
    case h =>   -- 3: t147 := Op.fieldAddr 74 (tmp 7) 2
      simp [go_sem, BigFrame.eval_const, BigFrame.eval_global, BigFrame.eval_func, ↓IntWalk.iteOmega, ev (hE.eval 7 (by rfl) e7)]
      with_reducible rfl
    intro a83 hE e147 kp
    replace e144 := (kp 144 rfl).trans e144
    replace e146 := (kp 146 rfl).trans e146
    apply sq_det 148 hE k rfl (by rfl) (by rfl) rfl
    case h =>   -- 4: t148 := Op.load 3 (tmp 147)
      have q0 : w74.cell? ⟨xb, 2, none⟩ = some (.int .i64 ↑y) := (OwnT.blk O 2 rfl).cell 2
      simp [go_sem, BigFrame.eval_const, BigFrame.eval_global, BigFrame.eval_func, ↓IntWalk.iteOmega, ev e147, q0]
      with_reducible rfl
    intro a84 hE e148 kp
    replace e144 := (kp 144 rfl).trans e144
    replace e146 := (kp 146 rfl).trans e146
    apply sq_call 149 hE k rfl (by rfl) (by rfl) rfl
    case h =>   -- (*tierce/tierceref04.Disc).Fits
      simp [go_sem, BigFrame.eval_const, BigFrame.eval_global, BigFrame.eval_func, ↓IntWalk.iteOmega, ev e144, ev e146, ev e148]
      with_reducible exact ⟨rfl, rfl⟩
    case hc => exact fits4_any ↑x ↑y _ ((OwnT.blk O 3 rfl).cell 0) hnl
    rintro e _ ⟨rfl, rfl⟩
    refine ⟨_, congrArg (fun b => Ending.returned (.bool b)) hf, ?_⟩
    intro a85 hE e149 kp
    apply sq_det 150 hE k rfl (by rfl) (by rfl) rfl
    case h =>   -- 6: t150 := Op.unOp UnOp.not 4 (tmp 149)
      exact x_not rfl e149
    intro a86 hE e150 kp
    refine wpList_nil ?_
    replace e0 := hE.eval 0 (by rfl) e0
    replace e2 := hE.eval 2 (by rfl) e2
    replace e7 := hE.eval 7 (by rfl) e7
    replace e16 := hE.eval 16 (by rfl) e16
    replace e17 := hE.eval 17 (by rfl) e17
    replace k := k.env hE
    clear hE
    refine then_n ?_
    refine cond_f e150 rfl ?_
    refine wp_skip ?_
    refine then_n ?_
    refine wp_seq ?_
    refine wp_seq ?_
    refine wp_region_lit ?_   -- region 26
    have hE := Env.refl a86 [157, 158, 159]
    apply sq_det 157 hE k rfl (by rfl) (by rfl) rfl
    case h =>   -- 0: t157 := Op.move (tmp 0)
      exact x_move rfl (hE.eval 0 (by rfl) e0)
    intro a87 hE e157 kp
    apply sq_call 158 hE k rfl (by rfl) (by rfl) rfl
    case h =>   -- (*tierce/mains.Mains).On
      simp [go_sem, BigFrame.eval_const, BigFrame.eval_global, BigFrame.eval_func, ↓IntWalk.iteOmega, ev e157]
      with_reducible exact ⟨rfl, rfl⟩
    case hc => exact on_mn (OwnT.get O 1 rfl)
    rintro e _ ⟨rfl, rfl⟩
    refine ⟨_, congrArg (fun b => Ending.returned (.bool !b)) ha, ?_⟩
    intro a88 hE e158 kp
    apply sq_det 159 hE k rfl (by rfl) (by rfl) rfl
    case h =>   -- 2: t159 := Op.unOp UnOp.not 4 (tmp 158)
      exact x_not rfl e158
    intro a89 hE e159 kp
    refine wpList_nil ?_
    replace e2 := hE.eval 2 (by rfl) e2
    replace e7 := hE.eval 7 (by rfl) e7
    replace e16 := hE.eval 16 (by rfl) e16
    replace e17 := hE.eval 17 (by rfl) e17
    replace k := k.env hE
    clear hE e0 e150
    refine then_n ?_
    refine cond_f e159 rfl ?_
    refine wp_skip ?_
    refine then_n ?_
    have hylen : (((nowL S L).drop x).take y).length = y := by rw [List.length_take, List.length_drop, nowL_len]; omega
    have htx : ∀ wx, Ext w74 wx → Calls Try.prog 47 #[.slice A' y (c1 - x)] wx fun e w' => e = .returned (.string (sB (readL S L x y))) ∧ Ext wx w' := by
      intro wx hR
      have h := text4_any A' (c1 - x) (((nowL S L).drop x).take y) wx (hst.ext hR) (fun s hs => by
        have h1 := List.mem_of_mem_drop (List.mem_of_mem_take hs)
        obtain ⟨i, hi, rfl⟩ := List.mem_map.1 h1
        exact nowAt_len hk (by simpa [hSn] using hi)) (by omega)
      rw [hylen, read_now (by omega)] at h
      exact h.mono (fun e w' h => ⟨h.1, h.2 ▸ Ext.refl _⟩)
    
    refine wp_seq ?_
    refine wp_typed (R := Ext) (w0 := w74) [[], [0], [0, 1], [0, 1, 2], [0, 1, 2], [0, 1, 2, 4], [0, 1, 2, 4, 5], [0, 1, 2, 4, 5, 6], [0, 1, 2], [0, 1, 2, 8], [0, 1, 2], [0, 1, 2, 10], [0, 1, 2], [0, 1, 2, 12], [0, 1, 2, 10, 11, 12, 13], [0, 1, 2, 4, 5, 6, 7, 8, 9, 10, 11, 12, 13, 14], [0, 1, 2, 4, 5, 6, 7, 8, 9, 10, 11, 12, 13, 14, 15], [0, 1, 2, 3, 4, 5, 6, 7, 8, 9, 10, 11, 12, 13, 14, 15, 16], [0, 1, 2, 3, 4, 5, 6, 7, 8, 9, 10, 11, 12, 13, 14, 15, 16, 17], [0, 1, 2, 3, 4, 5, 6, 7, 8, 9, 10, 11, 12, 13, 14, 15, 16, 17, 18]] [166, 167, 168, 169, 170, 171, 172, 173, 174, 175, 176, 177, 178, 179, 180, 181, 182, 183, 184, 8] Ext.refl (fun _ _ _ => Ext.trans) (Ext.drew _) (by kernel_rfl) ?_   -- region 28
    apply Build.det 166 Ext.refl (by rfl) (by rw [k.size]; rfl) rfl
    case h =>   -- 0: t166 := Op.move (tmp 17)
      intro ax wx hE hR hF
      exact x_move rfl (hE.eval 17 (by rfl) e17)
    apply Build.det 167 Ext.refl (by rfl) (by rw [k.size]; rfl) rfl
    case h =>   -- 1: t167 := Op.binOp BinOp.eql 36 (tmp 166) (const (Value.int IntKind.i64 0)) 36
      intro ax wx hE hR hF
      have e166 : ax.eval (.tmp 166) = _ := hF 0 (det 166 _) (by decide) (.head _)
      exact x_eql rfl e166 rfl
    apply Build.det 168 Ext.refl (by rfl) (by rw [k.size]; rfl) rfl
    case h =>   -- 2: t168 := Op.move (tmp 167)
      intro ax wx hE hR hF
      have e167 : ax.eval (.tmp 167) = _ := hF 1 (det 167 _) (by decide) (.head _)
      exact x_move rfl e167
    apply Build.detg 169 Ext.refl (by rfl) (by rw [k.size]; rfl) rfl rfl
    case h =>   -- 3: t169 := Op.move (tmp 16)
      intro ax wx hE hR hF
      have e168 : ax.eval (.tmp 168) = _ := hF 2 (det 168 _) (by decide) (.head _)
      refine ⟨e168, ?_⟩
      exact x_move rfl (hE.eval 16 (by rfl) e16)
    apply Build.detg 170 Ext.refl (by rfl) (by rw [k.size]; rfl) rfl rfl
    case h =>   -- 4: t170 := Op.move (tmp 2)
      intro ax wx hE hR hF
      have e168 : ax.eval (.tmp 168) = _ := hF 2 (det 168 _) (by decide) (.tail _ (.head _))
      refine ⟨e168, ?_⟩
      exact x_move rfl (hE.eval 2 (by rfl) e2)
    apply Build.detg 171 Ext.refl (by rfl) (by rw [k.size]; rfl) rfl rfl
    case h =>   -- 5: t171 := Op.nilCheck (tmp 170)
      intro ax wx hE hR hF
      have e170 : ax.eval (.tmp 170) = _ := hF 4 (det 170 _) (by decide) (.head _)
      have e168 : ax.eval (.tmp 168) = _ := hF 2 (det 168 _) (by decide) (.tail _ (.tail _ (.head _)))
      refine ⟨e168, ?_⟩
      exact x_nil rfl e170
    apply Build.detg 172 Ext.refl (by rfl) (by rw [k.size]; rfl) rfl rfl
    case h =>   -- 6: t172 := Op.fieldAddr 80 (tmp 171) 0
      intro ax wx hE hR hF
      have e171 : ax.eval (.tmp 171) = _ := hF 5 (det 171 _) (by decide) (.head _)
      have e168 : ax.eval (.tmp 168) = _ := hF 2 (det 168 _) (by decide) (.tail _ (.tail _ (.tail _ (.head _))))
      refine ⟨e168, ?_⟩
      simp [go_sem, BigFrame.eval_const, BigFrame.eval_global, BigFrame.eval_func, ↓IntWalk.iteOmega, ev e171]
      with_reducible rfl
    apply Build.detg 173 Ext.refl (by rfl) (by rw [k.size]; rfl) rfl rfl
    case h =>   -- 7: t173 := Op.load 77 (tmp 172)
      intro ax wx hE hR hF
      have e172 : ax.eval (.tmp 172) = _ := hF 6 (det 172 _) (by decide) (.head _)
      have e168 : ax.eval (.tmp 168) = _ := hF 2 (det 168 _) (by decide) (.tail _ (.tail _ (.tail _ (.tail _ (.head _)))))
      refine ⟨e168, ?_⟩
      have q0 : wx.cell? ⟨ub, 0, none⟩ = some (.slice B1 n c1) := (OwnT.blk (OwnT.ext O hR) 3 rfl).cell 0
      simp [go_sem, BigFrame.eval_const, BigFrame.eval_global, BigFrame.eval_func, ↓IntWalk.iteOmega, ev e172, q0]
      with_reducible rfl
    apply Build.detg 174 Ext.refl (by rfl) (by rw [k.size]; rfl) rfl rfl
    case h =>   -- 8: t174 := Op.fieldAddr 74 (tmp 7) 1
      intro ax wx hE hR hF
      have e168 : ax.eval (.tmp 168) = _ := hF 2 (det 168 _) (by decide) (.tail _ (.tail _ (.tail _ (.tail _ (.tail _ (.head _))))))
      refine ⟨e168, ?_⟩
      simp [go_sem, BigFrame.eval_const, BigFrame.eval_global, BigFrame.eval_func, ↓IntWalk.iteOmega, ev (hE.eval 7 (by rfl) e7)]
      with_reducible rfl
    apply Build.detg 175 Ext.refl (by rfl) (by rw [k.size]; rfl) rfl rfl
    case h =>   -- 9: t175 := Op.load 3 (tmp 174)
      intro ax wx hE hR hF
      have e174 : ax.eval (.tmp 174) = _ := hF 8 (det 174 _) (by decide) (.head _)
      have e168 : ax.eval (.tmp 168) = _ := hF 2 (det 168 _) (by decide) (.tail _ (.tail _ (.tail _ (.tail _ (.tail _ (.tail _ (.head _)))))))
      refine ⟨e168, ?_⟩
      have q0 : wx.cell? ⟨xb, 1, none⟩ = some (.int .i64 ↑x) := (OwnT.blk (OwnT.ext O hR) 2 rfl).cell 1
      simp [go_sem, BigFrame.eval_const, BigFrame.eval_global, BigFrame.eval_func, ↓IntWalk.iteOmega, ev e174, q0]
      with_reducible rfl
    apply Build.detg 176 Ext.refl (by rfl) (by rw [k.size]; rfl) rfl rfl
    case h =>   -- 10: t176 := Op.fieldAddr 74 (tmp 7) 1
      intro ax wx hE hR hF
      have e168 : ax.eval (.tmp 168) = _ := hF 2 (det 168 _) (by decide) (.tail _ (.tail _ (.tail _ (.tail _ (.tail _ (.tail _ (.tail _ (.head _))))))))
      refine ⟨e168, ?_⟩
      simp [go_sem, BigFrame.eval_const, BigFrame.eval_global, BigFrame.eval_func, ↓IntWalk.iteOmega, ev (hE.eval 7 (by rfl) e7)]
      with_reducible rfl
    apply Build.detg 177 Ext.refl (by rfl) (by rw [k.size]; rfl) rfl rfl
    case h =>   -- 11: t177 := Op.load 3 (tmp 176)
      intro ax wx hE hR hF
      have e176 : ax.eval (.tmp 176) = _ := hF 10 (det 176 _) (by decide) (.head _)
      have e168 : ax.eval (.tmp 168) = _ := hF 2 (det 168 _) (by decide) (.tail _ (.tail _ (.tail _ (.tail _ (.tail _ (.tail _ (.tail _ (.tail _ (.head _)))))))))
      refine ⟨e168, ?_⟩
      have q0 : wx.cell? ⟨xb, 1, none⟩ = some (.int .i64 ↑x) := (OwnT.blk (OwnT.ext O hR) 2 rfl).cell 1
      simp [go_sem, BigFrame.eval_const, BigFrame.eval_global, BigFrame.eval_func, ↓IntWalk.iteOmega, ev e176, q0]
      with_reducible rfl
    apply Build.detg 178 Ext.refl (by rfl) (by rw [k.size]; rfl) rfl rfl
    case h =>   -- 12: t178 := Op.fieldAddr 74 (tmp 7) 2
      intro ax wx hE hR hF
      have e168 : ax.eval (.tmp 168) = _ := hF 2 (det 168 _) (by decide) (.tail _ (.tail _ (.tail _ (.tail _ (.tail _ (.tail _ (.tail _ (.tail _ (.tail _ (.head _))))))))))
      refine ⟨e168, ?_⟩
      simp [go_sem, BigFrame.eval_const, BigFrame.eval_global, BigFrame.eval_func, ↓IntWalk.iteOmega, ev (hE.eval 7 (by rfl) e7)]
      with_reducible rfl
    apply Build.detg 179 Ext.refl (by rfl) (by rw [k.size]; rfl) rfl rfl
    case h =>   -- 13: t179 := Op.load 3 (tmp 178)
      intro ax wx hE hR hF
      have e178 : ax.eval (.tmp 178) = _ := hF 12 (det 178 _) (by decide) (.head _)
      have e168 : ax.eval (.tmp 168) = _ := hF 2 (det 168 _) (by decide) (.tail _ (.tail _ (.tail _ (.tail _ (.tail _ (.tail _ (.tail _ (.tail _ (.tail _ (.tail _ (.head _)))))))))))
      refine ⟨e168, ?_⟩
      have q0 : wx.cell? ⟨xb, 2, none⟩ = some (.int .i64 ↑y) := (OwnT.blk (OwnT.ext O hR) 2 rfl).cell 2
      simp [go_sem, BigFrame.eval_const, BigFrame.eval_global, BigFrame.eval_func, ↓IntWalk.iteOmega, ev e178, q0]
      with_reducible rfl
    apply Build.detg 180 Ext.refl (by rfl) (by rw [k.size]; rfl) rfl rfl
    case h =>   -- 14: t180 := Op.binOp BinOp.add 3 (tmp 177) (tmp 179) 3
      intro ax wx hE hR hF
      have e177 : ax.eval (.tmp 177) = _ := hF 11 (det 177 _) (by decide) (.tail _ (.tail _ (.head _)))
      have e179 : ax.eval (.tmp 179) = _ := hF 13 (det 179 _) (by decide) (.head _)
      have e168 : ax.eval (.tmp 168) = _ := hF 2 (det 168 _) (by decide) (.tail _ (.tail _ (.tail _ (.tail _ (.tail _ (.tail _ (.tail _ (.tail _ (.tail _ (.tail _ (.tail _ (.head _))))))))))))
      refine ⟨e168, ?_⟩
      exact x_val (v := .int .i64 ((x + y : Nat) : Int)) (x_add rfl e177 e179 (by omega)) (int_eq (by omega))
    apply Build.detg 181 Ext.refl (by rfl) (by rw [k.size]; rfl) rfl rfl
    case h =>   -- 15: t181 := Op.slice 77 (tmp 173) (some (tmp 175)) (some (tmp 180)) none
      intro ax wx hE hR hF
      have e173 : ax.eval (.tmp 173) = _ := hF 7 (det 173 _) (by decide) (.tail _ (.tail _ (.tail _ (.tail _ (.tail _ (.tail _ (.tail _ (.head _))))))))
      have e175 : ax.eval (.tmp 175) = _ := hF 9 (det 175 _) (by decide) (.tail _ (.tail _ (.tail _ (.tail _ (.tail _ (.head _))))))
      have e180 : ax.eval (.tmp 180) = _ := hF 14 (det 180 _) (by decide) (.head _)
      have e168 : ax.eval (.tmp 168) = _ := hF 2 (det 168 _) (by decide) (.tail _ (.tail _ (.tail _ (.tail _ (.tail _ (.tail _ (.tail _ (.tail _ (.tail _ (.tail _ (.tail _ (.tail _ (.head _)))))))))))))
      refine ⟨e168, ?_⟩
      exact x_sliceg rfl e173 e175 e180 (hsl _)
    apply Build.callg 182 Ext.refl (by rfl) (by rw [k.size]; rfl) rfl rfl
    case h =>   -- 16: t182 := tierce/tierceref04.Text
      intro ax wx hE hR hF
      have e181 : ax.eval (.tmp 181) = _ := hF 15 (det 181 _) (by decide) (.head _)
      have e168 : ax.eval (.tmp 168) = _ := hF 2 (det 168 _) (by decide) (.tail _ (.tail _ (.tail _ (.tail _ (.tail _ (.tail _ (.tail _ (.tail _ (.tail _ (.tail _ (.tail _ (.tail _ (.tail _ (.head _))))))))))))))
      refine ⟨e168, ?_⟩
      simp [go_sem, BigFrame.eval_const, BigFrame.eval_global, BigFrame.eval_func, ↓IntWalk.iteOmega, ev e181]
      with_reducible exact ⟨rfl, rfl⟩
    case hc => intro wx hR; exact (htx wx hR)
    apply Build.detg 183 Ext.refl (by rfl) (by rw [k.size]; rfl) rfl rfl
    case h =>   -- 17: t183 := Op.binOp BinOp.eql 9 (tmp 169) (tmp 182) 9
      intro ax wx hE hR hF
      have e169 : ax.eval (.tmp 169) = _ := hF 3 (det 169 _) (by decide) (.tail _ (.tail _ (.tail _ (.tail _ (.tail _ (.tail _ (.tail _ (.tail _ (.tail _ (.tail _ (.tail _ (.tail _ (.tail _ (.head _))))))))))))))
      have e182 : ax.eval (.tmp 182) = _ := hF 16 (det 182 _) (by decide) (.head _)
      have e168 : ax.eval (.tmp 168) = _ := hF 2 (det 168 _) (by decide) (.tail _ (.tail _ (.tail _ (.tail _ (.tail _ (.tail _ (.tail _ (.tail _ (.tail _ (.tail _ (.tail _ (.tail _ (.tail _ (.tail _ (.head _)))))))))))))))
      refine ⟨e168, ?_⟩
      exact x_dec (x_eqs (l := readL S L x y) (m := readL S L x y) rfl e169 e182) (decide_eq_true rfl)
    apply Build.det 184 Ext.refl (by rfl) (by rw [k.size]; rfl) rfl
    case h =>   -- 18: t184 := Op.pick (tmp 168) (tmp 183) (const (Value.bool false))
      intro ax wx hE hR hF
      have e168 : ax.eval (.tmp 168) = _ := hF 2 (det 168 _) (by decide) (.tail _ (.tail _ (.tail _ (.tail _ (.tail _ (.tail _ (.tail _ (.tail _ (.tail _ (.tail _ (.tail _ (.tail _ (.tail _ (.tail _ (.tail _ (.head _))))))))))))))))
      have e183 : ax.eval (.tmp 183) = _ := hF 17 (det 183 _) (by decide) (.head _)
      exact x_pick_t rfl e168 e183
    apply Build.det 8 Ext.refl (by rfl) (by rw [k.size]; rfl) rfl
    case h =>   -- 19: t8 := Op.assign (tmp 184)
      intro ax wx hE hR hF
      have e184 : ax.eval (.tmp 184) = _ := hF 18 (det 184 _) (by decide) (.head _)
      exact x_assign rfl e184
    apply Build.stop
    refine ⟨by kernel_rfl, .inl ⟨rfl, ?_⟩⟩
    intro a90 w91 hE R hF
    have e8 : a90.eval (.tmp 8) = _ := hF 19 (det 8 _) (.head _)
    clear hF
    replace O := OwnT.ext O R
    clear R
    replace k := k.env hE
    clear hE e2 e7 e16 e17 e159
    refine then_n ?_
    refine wp_ret ?_
    refine block_r ?_
    refine then_r ?_
    replace O := OwnT.drop3 O
    refine ret_F1 rfl k e8 ?_
    exact ⟨rfl, S, L, M, hM.mono (by omega), O⟩
set_option maxRecDepth 100000 in
set_option maxHeartbeats 4000000 in
theorem do_flush {H : Nat} {A0 : World} {R : List Thing} {p mb ub n cap bm c1 c2 c3 : Nat} {B B1 B2 B3 : Option Addr} {S : List Sec} {L : Int → Option Sec} {M : Mn} {c : Int} {x N : Int} {b : UInt8} {q : List UInt8} (w : World) (O : OwnT H A0 ((tDisc p mb B n cap bm S L) :: (tMn mb M) :: (tBlk ub 80 #[.slice B1 n c1, .slice B2 n c2, .slice B3 n c3]) :: (tRow 9 1 (.slice B1 n c1) n (strsV (nowL S L))) :: (tRow 9 1 (.slice B2 n c2) n (strsV S)) :: (tRow 4 1 (.slice B3 n c3) n (boolsV (isL n L))) :: R) w) (hM : M.Ok c) (hc : c ≤ 1000000) (hc1 : n ≤ c1)  : Calls Try.prog 45 #[.pointer (some ⟨mb, 0, none⟩), .pointer (some ⟨p, 0, none⟩), .pointer (some ⟨ub, 0, none⟩), .agg #[.int .i64 4, .int .i64 x, .int .i64 N, .int .u8 (b.toNat : Int), .string (sB q)]] w fun e w' => e = .returned (.bool true) ∧ ∃ S' L' M', M'.Ok (c + 20) ∧ OwnT H A0 ((tDisc p mb B n cap bm S' L') :: (tMn mb M') :: (tBlk ub 80 #[.slice B1 n c1, .slice B2 n c2, .slice B3 n c3]) :: (tRow 9 1 (.slice B1 n c1) n (strsV (nowL S' L'))) :: (tRow 9 1 (.slice B2 n c2) n (strsV S')) :: (tRow 4 1 (.slice B3 n c3) n (boolsV (isL n L'))) :: R) w' := by
  have hk := O.dok
  have hnl := hk.le
  have hSn := hk.len
  refine calls_F Try.func45 rfl 232 rfl (by rfl) ?_
  intro a1 k hargs
  have e0 : a1.eval (.tmp 0) = .pointer (some ⟨mb, 0, none⟩) := hargs 0 _ rfl
  have e1 : a1.eval (.tmp 1) = .pointer (some ⟨p, 0, none⟩) := hargs 1 _ rfl
  have e2 : a1.eval (.tmp 2) = .pointer (some ⟨ub, 0, none⟩) := hargs 2 _ rfl
  have e3 : a1.eval (.tmp 3) = .agg #[.int .i64 4, .int .i64 x, .int .i64 N, .int .u8 ↑b.toNat, .string (sB q)] := hargs 3 _ rfl
  clear hargs
  refine wp_seq ?_
  refine wp_region_lit ?_   -- region 0
  have hE := Env.refl a1 [7, 8]
  refine sq_new O (cs := #[.int .i64 4, .int .i64 x, .int .i64 N, .int .u8 ↑b.toNat, .string (sB q)]) (t := 74) 7 hE k rfl (by rfl) (by rfl) rfl (by simp [go_sem, BigFrame.eval_const, BigFrame.eval_global, BigFrame.eval_func, ↓IntWalk.iteOmega, ev (hE.eval 3 (by rfl) e3)]) ?_
  clear O
  intro xb a2 w3 O hE e7 kp
  apply sq_det 8 hE k rfl (by rfl) (by rfl) rfl
  case h =>   -- 1: t8 := Op.assign (const (Value.bool false))
    exact x_assign rfl rfl
  intro a4 hE e8 kp
  replace e7 := (kp 7 rfl).trans e7
  refine wpList_nil ?_
  replace e0 := hE.eval 0 (by rfl) e0
  replace e1 := hE.eval 1 (by rfl) e1
  replace e2 := hE.eval 2 (by rfl) e2
  replace k := k.env hE
  clear hE e3 e8
  refine then_n ?_
  replace O := OwnT.turn3 O
  replace O : OwnT _ _ ((tDisc p mb B n cap bm S L) :: (tMn mb M) :: (tBlk xb 74 #[.int .i64 4, .int .i64 x, .int .i64 N, .int .u8 ↑b.toNat, .string (sB q)]) :: (tBlk ub 80 #[.slice B1 n c1, .slice B2 n c2, .slice B3 n c3]) :: (tRow 9 1 (.slice B1 n c1) n (strsV (nowL S L))) :: (tRow 9 1 (.slice B2 n c2) n (strsV S)) :: (tRow 4 1 (.slice B3 n c3) n (boolsV (isL n L))) :: R) w3 := O
  refine wp_seq ?_
  refine wp_seq ?_
  refine wp_region_lit ?_   -- region 1
  have hE := Env.refl a4 [20, 21]
  apply sq_det 20 hE k rfl (by rfl) (by rfl) rfl
  case h =>   -- 0: t20 := Op.fieldAddr 74 (tmp 7) 0
    simp [go_sem, BigFrame.eval_const, BigFrame.eval_global, BigFrame.eval_func, ↓IntWalk.iteOmega, ev (hE.eval 7 (by rfl) e7)]
    with_reducible rfl
  intro a5 hE e20 kp
  apply sq_det 21 hE k rfl (by rfl) (by rfl) rfl
  case h =>   -- 1: t21 := Op.load 3 (tmp 20)
    have q0 : w3.cell? ⟨xb, 0, none⟩ = some (.int .i64 4) := (OwnT.blk O 2 rfl).cell 0
    simp [go_sem, BigFrame.eval_const, BigFrame.eval_global, BigFrame.eval_func, ↓IntWalk.iteOmega, ev e20, q0]
    with_reducible rfl
  intro a6 hE e21 kp
  refine wpList_nil ?_
  replace e0 := hE.eval 0 (by rfl) e0
  replace e1 := hE.eval 1 (by rfl) e1
  replace e2 := hE.eval 2 (by rfl) e2
  replace e7 := hE.eval 7 (by rfl) e7
  replace k := k.env hE
  clear hE
  refine then_n ?_
  refine wp_block ?_
  refine wp_seq ?_
  refine wp_seq ?_
  refine wp_region_lit ?_   -- region 3
  have hE := Env.refl a6 [30, 29]
  apply sq_det 30 hE k rfl (by rfl) (by rfl) rfl
  case h =>   -- 0: t30 := Op.binOp BinOp.eql 3 (tmp 21) (const (Value.int IntKind.i64 1)) 3
    exact x_eql rfl (hE.eval 21 (by rfl) e21) rfl
  intro a7 hE e30 kp
  apply sq_det 29 hE k rfl (by rfl) (by rfl) rfl
  case h =>   -- 1: t29 := Op.assign (tmp 30)
    exact x_assign rfl e30
  intro a8 hE e29 kp
  refine wpList_nil ?_
  replace e0 := hE.eval 0 (by rfl) e0
  replace e1 := hE.eval 1 (by rfl) e1
  replace e2 := hE.eval 2 (by rfl) e2
  replace e7 := hE.eval 7 (by rfl) e7
  replace e21 := hE.eval 21 (by rfl) e21
  replace k := k.env hE
  clear hE
  refine then_n ?_
  refine cond_f e29 rfl ?_
  refine wp_region_lit ?_   -- region 4
  have hE := Env.refl a8 [31, 29]
  apply sq_det 31 hE k rfl (by rfl) (by rfl) rfl
  case h =>   -- 0: t31 := Op.binOp BinOp.eql 3 (tmp 21) (const (Value.int IntKind.i64 2)) 3
    exact x_eql rfl (hE.eval 21 (by rfl) e21) rfl
  intro a9 hE e31 kp
  apply sq_det 29 hE k rfl (by rfl) (by rfl) rfl
  case h =>   -- 1: t29 := Op.assign (tmp 31)
    exact x_assign rfl e31
  intro a10 hE e29 kp
  refine wpList_nil ?_
  replace e0 := hE.eval 0 (by rfl) e0
  replace e1 := hE.eval 1 (by rfl) e1
  replace e2 := hE.eval 2 (by rfl) e2
  replace e7 := hE.eval 7 (by rfl) e7
  replace e21 := hE.eval 21 (by rfl) e21
  replace k := k.env hE
  clear hE
  refine then_n ?_
  refine cond_f e29 rfl ?_
  refine wp_seq ?_
  refine wp_region_lit ?_   -- region 22
  have hE := Env.refl a10 [134, 133]
  apply sq_det 134 hE k rfl (by rfl) (by rfl) rfl
  case h =>   -- 0: t134 := Op.binOp BinOp.eql 3 (tmp 21) (const (Value.int IntKind.i64 3)) 3
    exact x_eql rfl (hE.eval 21 (by rfl) e21) rfl
  intro a11 hE e134 kp
  apply sq_det 133 hE k rfl (by rfl) (by rfl) rfl
  case h =>   -- 1: t133 := Op.assign (tmp 134)
    exact x_assign rfl e134
  intro a12 hE e133 kp
  refine wpList_nil ?_
  replace e0 := hE.eval 0 (by rfl) e0
  replace e1 := hE.eval 1 (by rfl) e1
  replace e2 := hE.eval 2 (by rfl) e2
  replace e7 := hE.eval 7 (by rfl) e7
  replace e21 := hE.eval 21 (by rfl) e21
  replace k := k.env hE
  clear hE e29
  refine then_n ?_
  refine cond_f e133 rfl ?_
  refine wp_seq ?_
  refine wp_region_lit ?_   -- region 29
  have hE := Env.refl a12 [186, 185]
  apply sq_det 186 hE k rfl (by rfl) (by rfl) rfl
  case h =>   -- 0: t186 := Op.binOp BinOp.eql 3 (tmp 21) (const (Value.int IntKind.i64 4)) 3
    exact x_eql rfl (hE.eval 21 (by rfl) e21) rfl
  intro a13 hE e186 kp
  apply sq_det 185 hE k rfl (by rfl) (by rfl) rfl
  case h =>   -- 1: t185 := Op.assign (tmp 186)
    exact x_assign rfl e186
  intro a14 hE e185 kp
  refine wpList_nil ?_
  replace e0 := hE.eval 0 (by rfl) e0
  replace e1 := hE.eval 1 (by rfl) e1
  replace e2 := hE.eval 2 (by rfl) e2
  replace e7 := hE.eval 7 (by rfl) e7
  replace e21 := hE.eval 21 (by rfl) e21
  replace k := k.env hE
  clear hE e133
  refine then_n ?_
  refine cond_t e185 rfl ?_
  cases hu : M.up with
  | true =>
    have haw : M.use.away = false := by unfold Mn.use; rw [hu]; rfl
    refine wp_seq ?_
    refine wp_region_lit ?_   -- region 30
    have hE := Env.refl a14 [187, 188, 18]
    apply sq_det 187 hE k rfl (by rfl) (by rfl) rfl
    case h =>   -- 0: t187 := Op.move (tmp 1)
      exact x_move rfl (hE.eval 1 (by rfl) e1)
    intro a15 hE e187 kp
    apply sq_call 188 hE k rfl (by rfl) (by rfl) rfl
    case h =>   -- (*tierce/disc.Disc).Flush
      simp [go_sem, BigFrame.eval_const, BigFrame.eval_global, BigFrame.eval_func, ↓IntWalk.iteOmega, ev e187]
      with_reducible exact ⟨rfl, rfl⟩
    case hc => exact dflush_ok _ O hM (by omega) hu
    clear O
    rintro e w17 ⟨rfl, O⟩
    refine ⟨_, rfl, ?_⟩
    intro a16 hE e188 kp
    apply sq_det 18 hE k rfl (by rfl) (by rfl) rfl
    case h =>   -- 2: t18 := Op.assign (tmp 188)
      exact x_assign rfl e188
    intro a18 hE e18 kp
    refine wpList_nil ?_
    replace e0 := hE.eval 0 (by rfl) e0
    replace e2 := hE.eval 2 (by rfl) e2
    replace k := k.env hE
    clear hE e1 e7 e21 e185
    refine then_n ?_
    refine wp_seq ?_
    refine wp_seq ?_
    refine wp_region_lit ?_   -- region 31
    have hE := Env.refl a18 [189, 190]
    apply sq_det 189 hE k rfl (by rfl) (by rfl) rfl
    case h =>   -- 0: t189 := Op.move (tmp 18)
      exact x_move rfl (hE.eval 18 (by rfl) e18)
    intro a19 hE e189 kp
    apply sq_det 190 hE k rfl (by rfl) (by rfl) rfl
    case h =>   -- 1: t190 := Op.binOp BinOp.eql 36 (tmp 189) (const (Value.int IntKind.i64 0)) 36
      exact x_eql rfl e189 rfl
    intro a20 hE e190 kp
    refine wpList_nil ?_
    replace e0 := hE.eval 0 (by rfl) e0
    replace e2 := hE.eval 2 (by rfl) e2
    replace e18 := hE.eval 18 (by rfl) e18
    replace k := k.env hE
    clear hE
    refine then_n ?_
    refine cond_t e190 rfl ?_
    replace O := OwnT.rot34 O
    replace O : OwnT _ _ ((tBlk ub 80 #[.slice B1 n c1, .slice B2 n c2, .slice B3 n c3]) :: (tRow 9 1 (.slice B1 n c1) n (strsV (nowL S L))) :: (tRow 9 1 (.slice B2 n c2) n (strsV S)) :: (tRow 4 1 (.slice B3 n c3) n (boolsV (isL n L))) :: (tDisc p mb B n cap bm (nowL S L) (fun _ => none)) :: (tMn mb M.use) :: (tBlk xb 74 #[.int .i64 4, .int .i64 x, .int .i64 N, .int .u8 ↑b.toNat, .string (sB q)]) :: R) w17 := O
    refine wp_region_lit ?_   -- region 32
    have hE := Env.refl a20 [191, 192]
    apply sq_det 191 hE k rfl (by rfl) (by rfl) rfl
    case h =>   -- 0: t191 := Op.move (tmp 2)
      exact x_move rfl (hE.eval 2 (by rfl) e2)
    intro a21 hE e191 kp
    apply sq_call 192 hE k rfl (by rfl) (by rfl) rfl
    case h =>   -- (*tierce/tierceref04.Disc).Flush
      simp [go_sem, BigFrame.eval_const, BigFrame.eval_global, BigFrame.eval_func, ↓IntWalk.iteOmega, ev e191]
      with_reducible exact ⟨rfl, rfl⟩
    case hc => exact rflush4_any (nowL S L) S (isL n L) _ O (by rw [nowL_len]; exact hSn) hSn (isL_len n L) hnl
    clear O
    rintro e w23 ⟨rfl, O⟩
    refine ⟨_, rfl, ?_⟩
    intro a22 hE e192 kp
    refine wpList_nil ?_
    replace e0 := hE.eval 0 (by rfl) e0
    replace e18 := hE.eval 18 (by rfl) e18
    replace k := k.env hE
    clear hE e2 e190 e192
    refine then_n ?_
    replace O := OwnT.rot43 O
    replace O : OwnT _ _ ((tDisc p mb B n cap bm (nowL S L) (fun _ => none)) :: (tMn mb M.use) :: (tBlk xb 74 #[.int .i64 4, .int .i64 x, .int .i64 N, .int .u8 ↑b.toNat, .string (sB q)]) :: (tBlk ub 80 #[.slice B1 n c1, .slice B2 n c2, .slice B3 n c3]) :: (tRow 9 1 (.slice B1 n c1) n (strsV (nowL S L))) :: (tRow 9 1 (.slice B2 n c2) n (strsV (nowL S L))) :: (tRow 4 1 (.slice B3 n c3) n (boolsV (List.replicate n false))) :: R) w23 := O
    have hO2 : OwnT H A0 ((tDisc p mb B n cap bm (nowL S L) (fun _ => none)) :: (tMn mb M.use) :: (tBlk xb 74 #[.int .i64 4, .int .i64 x, .int .i64 N, .int .u8 ↑b.toNat, .string (sB q)]) :: (tBlk ub 80 #[.slice B1 n c1, .slice B2 n c2, .slice B3 n c3]) :: (tRow 9 1 (.slice B1 n c1) n (strsV (nowL (nowL S L) (fun _ => none)))) :: (tRow 9 1 (.slice B2 n c2) n (strsV (nowL S L))) :: (tRow 4 1 (.slice B3 n c3) n (boolsV (isL n (fun _ => none)))) :: R) w23 := by rw [nowL_none, isL_none]; exact O
    clear O
    have O := hO2
    clear hO2
    refine wp_seq ?_
    refine wp_region_lit ?_   -- region 33
    have hE := Env.refl a22 [193, 194, 195, 196, 197, 198, 199, 200, 201, 202, 203, 204, 205, 206, 207, 8]
    apply sq_det 193 hE k rfl (by rfl) (by rfl) rfl
    case h =>   -- 0: t193 := Op.move (tmp 18)
      exact x_move rfl (hE.eval 18 (by rfl) e18)
    intro a24 hE e193 kp
    apply sq_det 194 hE k rfl (by rfl) (by rfl) rfl
    case h =>   -- 1: t194 := Op.binOp BinOp.eql 36 (tmp 193) (const (Value.int IntKind.i64 0)) 36
      exact x_eql rfl e193 rfl
    intro a25 hE e194 kp
    apply sq_det 195 hE k rfl (by rfl) (by rfl) rfl
    case h =>   -- 2: t195 := Op.move (tmp 194)
      exact x_move rfl e194
    intro a26 hE e195 kp
    apply sq_detg 196 hE k rfl (by rfl) (by rfl) rfl rfl e195
    case h =>   -- 3: t196 := Op.move (tmp 0)
      exact x_move rfl (hE.eval 0 (by rfl) e0)
    intro a27 hE e196 kp
    replace e195 := (kp 195 rfl).trans e195
    apply sq_callg 197 hE k rfl (by rfl) (by rfl) rfl rfl e195
    case h =>   -- (*tierce/mains.Mains).On
      simp [go_sem, BigFrame.eval_const, BigFrame.eval_global, BigFrame.eval_func, ↓IntWalk.iteOmega, ev e196]
      with_reducible exact ⟨rfl, rfl⟩
    case hc => exact on_mn (OwnT.get O 1 rfl)
    rintro e _ ⟨rfl, rfl⟩
    refine ⟨_, congrArg (fun b => Ending.returned (.bool !b)) haw, ?_⟩
    intro a28 hE e197 kp
    replace e195 := (kp 195 rfl).trans e195
    apply sq_det 198 hE k rfl (by rfl) (by rfl) rfl
    case h =>   -- 5: t198 := Op.pick (tmp 195) (tmp 197) (const (Value.bool false))
      exact x_pick_t rfl e195 e197
    intro a29 hE e198 kp
    apply sq_det 199 hE k rfl (by rfl) (by rfl) rfl
    case h =>   -- 6: t199 := Op.move (tmp 198)
      exact x_move rfl e198
    intro a30 hE e199 kp
    refine sq_skipg 200 hE k rfl (by rfl) (by rfl) rfl rfl (.inl e199) ?_
    intro a31 hE e200 kp
    replace e199 := (kp 199 rfl).trans e199
    refine sq_skipg 201 hE k rfl (by rfl) (by rfl) rfl rfl (.inl e199) ?_
    intro a32 hE e201 kp
    replace e199 := (kp 199 rfl).trans e199
    refine sq_skipg 202 hE k rfl (by rfl) (by rfl) rfl rfl (.inl e199) ?_
    intro a33 hE e202 kp
    replace e199 := (kp 199 rfl).trans e199
    refine sq_skipg 203 hE k rfl (by rfl) (by rfl) rfl rfl (.inr e202) ?_
    intro a34 hE e203 kp
    replace e199 := (kp 199 rfl).trans e199
    replace e202 := (kp 202 rfl).trans e202
    refine sq_skipg 204 hE k rfl (by rfl) (by rfl) rfl rfl (.inr e202) ?_
    intro a35 hE e204 kp
    replace e199 := (kp 199 rfl).trans e199
    replace e202 := (kp 202 rfl).trans e202
    refine sq_skipg 205 hE k rfl (by rfl) (by rfl) rfl rfl (.inr e202) ?_
    intro a36 hE e205 kp
    replace e199 := (kp 199 rfl).trans e199
    replace e202 := (kp 202 rfl).trans e202
    refine sq_skipg 206 hE k rfl (by rfl) (by rfl) rfl rfl (.inl e199) ?_
    intro a37 hE e206 kp
    replace e199 := (kp 199 rfl).trans e199
    apply sq_det 207 hE k rfl (by rfl) (by rfl) rfl
    case h =>   -- 14: t207 := Op.pick (tmp 199) (const (Value.bool true)) (tmp 206)
      exact x_pick_t rfl e199 rfl
    intro a38 hE e207 kp
    apply sq_det 8 hE k rfl (by rfl) (by rfl) rfl
    case h =>   -- 15: t8 := Op.assign (tmp 207)
      exact x_assign rfl e207
    intro a39 hE e8 kp
    refine wpList_nil ?_
    replace k := k.env hE
    clear hE e0 e18
    refine then_n ?_
    refine wp_ret ?_
    refine block_r ?_
    refine then_r ?_
    replace O := OwnT.drop3 O
    refine ret_F1 rfl k e8 ?_
    exact ⟨rfl, nowL S L, fun _ => none, M.use, hM.use.mono (by omega), O⟩
  | false =>
    have haw := (use_dn hu).2
    refine wp_seq ?_
    refine wp_region_lit ?_   -- region 30
    have hE := Env.refl a14 [187, 188, 18]
    apply sq_det 187 hE k rfl (by rfl) (by rfl) rfl
    case h =>   -- 0: t187 := Op.move (tmp 1)
      exact x_move rfl (hE.eval 1 (by rfl) e1)
    intro a40 hE e187 kp
    apply sq_call 188 hE k rfl (by rfl) (by rfl) rfl
    case h =>   -- (*tierce/disc.Disc).Flush
      simp [go_sem, BigFrame.eval_const, BigFrame.eval_global, BigFrame.eval_func, ↓IntWalk.iteOmega, ev e187]
      with_reducible exact ⟨rfl, rfl⟩
    case hc => exact dflush_down _ O hM (by omega) hu
    clear O
    rintro e w42 ⟨rfl, O⟩
    refine ⟨_, rfl, ?_⟩
    intro a41 hE e188 kp
    apply sq_det 18 hE k rfl (by rfl) (by rfl) rfl
    case h =>   -- 2: t18 := Op.assign (tmp 188)
      exact x_assign rfl e188
    intro a43 hE e18 kp
    refine wpList_nil ?_
    replace e0 := hE.eval 0 (by rfl) e0
    replace e2 := hE.eval 2 (by rfl) e2
    replace k := k.env hE
    clear hE e1 e7 e21 e185
    refine then_n ?_
    refine wp_seq ?_
    refine wp_seq ?_
    refine wp_region_lit ?_   -- region 31
    have hE := Env.refl a43 [189, 190]
    apply sq_det 189 hE k rfl (by rfl) (by rfl) rfl
    case h =>   -- 0: t189 := Op.move (tmp 18)
      exact x_move rfl (hE.eval 18 (by rfl) e18)
    intro a44 hE e189 kp
    apply sq_det 190 hE k rfl (by rfl) (by rfl) rfl
    case h =>   -- 1: t190 := Op.binOp BinOp.eql 36 (tmp 189) (const (Value.int IntKind.i64 0)) 36
      exact x_eql rfl e189 rfl
    intro a45 hE e190 kp
    refine wpList_nil ?_
    replace e0 := hE.eval 0 (by rfl) e0
    replace e2 := hE.eval 2 (by rfl) e2
    replace e18 := hE.eval 18 (by rfl) e18
    replace k := k.env hE
    clear hE
    refine then_n ?_
    refine cond_f e190 rfl ?_
    refine wp_skip ?_
    refine then_n ?_
    refine wp_seq ?_
    refine wp_region_lit ?_   -- region 33
    have hE := Env.refl a45 [193, 194, 195, 196, 197, 198, 199, 200, 201, 202, 203, 204, 205, 206, 207, 8]
    apply sq_det 193 hE k rfl (by rfl) (by rfl) rfl
    case h =>   -- 0: t193 := Op.move (tmp 18)
      exact x_move rfl (hE.eval 18 (by rfl) e18)
    intro a46 hE e193 kp
    apply sq_det 194 hE k rfl (by rfl) (by rfl) rfl
    case h =>   -- 1: t194 := Op.binOp BinOp.eql 36 (tmp 193) (const (Value.int IntKind.i64 0)) 36
      exact x_eql rfl e193 rfl
    intro a47 hE e194 kp
    apply sq_det 195 hE k rfl (by rfl) (by rfl) rfl
    case h =>   -- 2: t195 := Op.move (tmp 194)
      exact x_move rfl e194
    intro a48 hE e195 kp
    refine sq_skipg 196 hE k rfl (by rfl) (by rfl) rfl rfl (.inl e195) ?_
    intro a49 hE e196 kp
    replace e195 := (kp 195 rfl).trans e195
    refine sq_skipg 197 hE k rfl (by rfl) (by rfl) rfl rfl (.inl e195) ?_
    intro a50 hE e197 kp
    replace e195 := (kp 195 rfl).trans e195
    apply sq_det 198 hE k rfl (by rfl) (by rfl) rfl
    case h =>   -- 5: t198 := Op.pick (tmp 195) (tmp 197) (const (Value.bool false))
      exact x_pick_f rfl e195 rfl
    intro a51 hE e198 kp
    apply sq_det 199 hE k rfl (by rfl) (by rfl) rfl
    case h =>   -- 6: t199 := Op.move (tmp 198)
      exact x_move rfl e198
    intro a52 hE e199 kp
    apply sq_detg 200 hE k rfl (by rfl) (by rfl) rfl rfl e199
    case h =>   -- 7: t200 := Op.move (tmp 18)
      exact x_move rfl (hE.eval 18 (by rfl) e18)
    intro a53 hE e200 kp
    replace e199 := (kp 199 rfl).trans e199
    apply sq_detg 201 hE k rfl (by rfl) (by rfl) rfl rfl e199
    case h =>   -- 8: t201 := Op.binOp BinOp.eql 36 (tmp 200) (const (Value.int IntKind.i64 4)) 36
      exact x_eql rfl e200 rfl
    intro a54 hE e201 kp
    replace e199 := (kp 199 rfl).trans e199
    apply sq_detg 202 hE k rfl (by rfl) (by rfl) rfl rfl e199
    case h =>   -- 9: t202 := Op.move (tmp 201)
      exact x_move rfl e201
    intro a55 hE e202 kp
    replace e199 := (kp 199 rfl).trans e199
    apply sq_detg 203 hE k rfl (by rfl) (by rfl) rfl rfl e202
    case h =>   -- 10: t203 := Op.move (tmp 0)
      exact x_move rfl (hE.eval 0 (by rfl) e0)
    intro a56 hE e203 kp
    replace e199 := (kp 199 rfl).trans e199
    replace e202 := (kp 202 rfl).trans e202
    apply sq_callg 204 hE k rfl (by rfl) (by rfl) rfl rfl e202
    case h =>   -- (*tierce/mains.Mains).On
      simp [go_sem, BigFrame.eval_const, BigFrame.eval_global, BigFrame.eval_func, ↓IntWalk.iteOmega, ev e203]
      with_reducible exact ⟨rfl, rfl⟩
    case hc => exact on_mn (OwnT.get O 1 rfl)
    rintro e _ ⟨rfl, rfl⟩
    refine ⟨_, congrArg (fun b => Ending.returned (.bool !b)) haw, ?_⟩
    intro a57 hE e204 kp
    replace e199 := (kp 199 rfl).trans e199
    replace e202 := (kp 202 rfl).trans e202
    apply sq_detg 205 hE k rfl (by rfl) (by rfl) rfl rfl e202
    case h =>   -- 12: t205 := Op.unOp UnOp.not 4 (tmp 204)
      exact x_not rfl e204
    intro a58 hE e205 kp
    replace e199 := (kp 199 rfl).trans e199
    replace e202 := (kp 202 rfl).trans e202
    apply sq_detg 206 hE k rfl (by rfl) (by rfl) rfl rfl e199
    case h =>   -- 13: t206 := Op.pick (tmp 202) (tmp 205) (const (Value.bool false))
      exact x_pick_t rfl e202 e205
    intro a59 hE e206 kp
    replace e199 := (kp 199 rfl).trans e199
    apply sq_det 207 hE k rfl (by rfl) (by rfl) rfl
    case h =>   -- 14: t207 := Op.pick (tmp 199) (const (Value.bool true)) (tmp 206)
      exact x_pick_f rfl e199 e206
    intro a60 hE e207 kp
    apply sq_det 8 hE k rfl (by rfl) (by rfl) rfl
    case h =>   -- 15: t8 := Op.assign (tmp 207)
      exact x_assign rfl e207
    intro a61 hE e8 kp
    refine wpList_nil ?_
    replace k := k.env hE
    clear hE e0 e2 e18 e190
    refine then_n ?_
    refine wp_ret ?_
    refine block_r ?_
    refine then_r ?_
    replace O := OwnT.drop3 O
    refine ret_F1 rfl k e8 ?_
    exact ⟨rfl, S, L, M.use, hM.use.mono (by omega), O⟩
set_option maxRecDepth 100000 in
set_option maxHeartbeats 4000000 in
theorem do_cut {H : Nat} {A0 : World} {R : List Thing} {p mb ub n cap bm c1 c2 c3 : Nat} {B B1 B2 B3 : Option Addr} {S : List Sec} {L : Int → Option Sec} {M : Mn} {c : Int} {x N : Int} {b : UInt8} {q : List UInt8} (w : World) (O : OwnT H A0 ((tDisc p mb B n cap bm S L) :: (tMn mb M) :: (tBlk ub 80 #[.slice B1 n c1, .slice B2 n c2, .slice B3 n c3]) :: (tRow 9 1 (.slice B1 n c1) n (strsV (nowL S L))) :: (tRow 9 1 (.slice B2 n c2) n (strsV S)) :: (tRow 4 1 (.slice B3 n c3) n (boolsV (isL n L))) :: R) w) (hM : M.Ok c) (hc : c ≤ 1000000) (hc1 : n ≤ c1)  : Calls Try.prog 45 #[.pointer (some ⟨mb, 0, none⟩), .pointer (some ⟨p, 0, none⟩), .pointer (some ⟨ub, 0, none⟩), .agg #[.int .i64 5, .int .i64 x, .int .i64 N, .int .u8 (b.toNat : Int), .string (sB q)]] w fun e w' => e = .returned (.bool true) ∧ ∃ S' L' M', M'.Ok (c + 20) ∧ OwnT H A0 ((tDisc p mb B n cap bm S' L') :: (tMn mb M') :: (tBlk ub 80 #[.slice B1 n c1, .slice B2 n c2, .slice B3 n c3]) :: (tRow 9 1 (.slice B1 n c1) n (strsV (nowL S' L'))) :: (tRow 9 1 (.slice B2 n c2) n (strsV S')) :: (tRow 4 1 (.slice B3 n c3) n (boolsV (isL n L'))) :: R) w' := by
  have hk := O.dok
  have hnl := hk.le
  have hSn := hk.len
  refine calls_F Try.func45 rfl 232 rfl (by rfl) ?_
  intro a1 k hargs
  have e0 : a1.eval (.tmp 0) = .pointer (some ⟨mb, 0, none⟩) := hargs 0 _ rfl
  have e1 : a1.eval (.tmp 1) = .pointer (some ⟨p, 0, none⟩) := hargs 1 _ rfl
  have e2 : a1.eval (.tmp 2) = .pointer (some ⟨ub, 0, none⟩) := hargs 2 _ rfl
  have e3 : a1.eval (.tmp 3) = .agg #[.int .i64 5, .int .i64 x, .int .i64 N, .int .u8 ↑b.toNat, .string (sB q)] := hargs 3 _ rfl
  clear hargs
  refine wp_seq ?_
  refine wp_region_lit ?_   -- region 0
  have hE := Env.refl a1 [7, 8]
  refine sq_new O (cs := #[.int .i64 5, .int .i64 x, .int .i64 N, .int .u8 ↑b.toNat, .string (sB q)]) (t := 74) 7 hE k rfl (by rfl) (by rfl) rfl (by simp [go_sem, BigFrame.eval_const, BigFrame.eval_global, BigFrame.eval_func, ↓IntWalk.iteOmega, ev (hE.eval 3 (by rfl) e3)]) ?_
  clear O
  intro xb a2 w3 O hE e7 kp
  apply sq_det 8 hE k rfl (by rfl) (by rfl) rfl
  case h =>   -- 1: t8 := Op.assign (const (Value.bool false))
    exact x_assign rfl rfl
  intro a4 hE e8 kp
  replace e7 := (kp 7 rfl).trans e7
  refine wpList_nil ?_
  replace e0 := hE.eval 0 (by rfl) e0
  replace e1 := hE.eval 1 (by rfl) e1
  replace e2 := hE.eval 2 (by rfl) e2
  replace k := k.env hE
  clear hE e3 e8
  refine then_n ?_
  replace O := OwnT.turn3 O
  replace O : OwnT _ _ ((tDisc p mb B n cap bm S L) :: (tMn mb M) :: (tBlk xb 74 #[.int .i64 5, .int .i64 x, .int .i64 N, .int .u8 ↑b.toNat, .string (sB q)]) :: (tBlk ub 80 #[.slice B1 n c1, .slice B2 n c2, .slice B3 n c3]) :: (tRow 9 1 (.slice B1 n c1) n (strsV (nowL S L))) :: (tRow 9 1 (.slice B2 n c2) n (strsV S)) :: (tRow 4 1 (.slice B3 n c3) n (boolsV (isL n L))) :: R) w3 := O
  refine wp_seq ?_
  refine wp_seq ?_
  refine wp_region_lit ?_   -- region 1
  have hE := Env.refl a4 [20, 21]
  apply sq_det 20 hE k rfl (by rfl) (by rfl) rfl
  case h =>   -- 0: t20 := Op.fieldAddr 74 (tmp 7) 0
    simp [go_sem, BigFrame.eval_const, BigFrame.eval_global, BigFrame.eval_func, ↓IntWalk.iteOmega, ev (hE.eval 7 (by rfl) e7)]
    with_reducible rfl
  intro a5 hE e20 kp
  apply sq_det 21 hE k rfl (by rfl) (by rfl) rfl
  case h =>   -- 1: t21 := Op.load 3 (tmp 20)
    have q0 : w3.cell? ⟨xb, 0, none⟩ = some (.int .i64 5) := (OwnT.blk O 2 rfl).cell 0
    simp [go_sem, BigFrame.eval_const, BigFrame.eval_global, BigFrame.eval_func, ↓IntWalk.iteOmega, ev e20, q0]
    with_reducible rfl
  intro a6 hE e21 kp
  refine wpList_nil ?_
  replace e0 := hE.eval 0 (by rfl) e0
  replace e1 := hE.eval 1 (by rfl) e1
  replace e2 := hE.eval 2 (by rfl) e2
  replace e7 := hE.eval 7 (by rfl) e7
  replace k := k.env hE
  clear hE
  refine then_n ?_
  refine wp_block ?_
  refine wp_seq ?_
  refine wp_seq ?_
  refine wp_region_lit ?_   -- region 3
  have hE := Env.refl a6 [30, 29]
  apply sq_det 30 hE k rfl (by rfl) (by rfl) rfl
  case h =>   -- 0: t30 := Op.binOp BinOp.eql 3 (tmp 21) (const (Value.int IntKind.i64 1)) 3
    exact x_eql rfl (hE.eval 21 (by rfl) e21) rfl
  intro a7 hE e30 kp
  apply sq_det 29 hE k rfl (by rfl) (by rfl) rfl
  case h =>   -- 1: t29 := Op.assign (tmp 30)
    exact x_assign rfl e30
  intro a8 hE e29 kp
  refine wpList_nil ?_
  replace e0 := hE.eval 0 (by rfl) e0
  replace e1 := hE.eval 1 (by rfl) e1
  replace e2 := hE.eval 2 (by rfl) e2
  replace e7 := hE.eval 7 (by rfl) e7
  replace e21 := hE.eval 21 (by rfl) e21
  replace k := k.env hE
  clear hE
  refine then_n ?_
  refine cond_f e29 rfl ?_
  refine wp_region_lit ?_   -- region 4
  have hE := Env.refl a8 [31, 29]
  apply sq_det 31 hE k rfl (by rfl) (by rfl) rfl
  case h =>   -- 0: t31 := Op.binOp BinOp.eql 3 (tmp 21) (const (Value.int IntKind.i64 2)) 3
    exact x_eql rfl (hE.eval 21 (by rfl) e21) rfl
  intro a9 hE e31 kp
  apply sq_det 29 hE k rfl (by rfl) (by rfl) rfl
  case h =>   -- 1: t29 := Op.assign (tmp 31)
    exact x_assign rfl e31
  intro a10 hE e29 kp
  refine wpList_nil ?_
  replace e0 := hE.eval 0 (by rfl) e0
  replace e1 := hE.eval 1 (by rfl) e1
  replace e2 := hE.eval 2 (by rfl) e2
  replace e7 := hE.eval 7 (by rfl) e7
  replace e21 := hE.eval 21 (by rfl) e21
  replace k := k.env hE
  clear hE
  refine then_n ?_
  refine cond_f e29 rfl ?_
  refine wp_seq ?_
  refine wp_region_lit ?_   -- region 22
  have hE := Env.refl a10 [134, 133]
  apply sq_det 134 hE k rfl (by rfl) (by rfl) rfl
  case h =>   -- 0: t134 := Op.binOp BinOp.eql 3 (tmp 21) (const (Value.int IntKind.i64 3)) 3
    exact x_eql rfl (hE.eval 21 (by rfl) e21) rfl
  intro a11 hE e134 kp
  apply sq_det 133 hE k rfl (by rfl) (by rfl) rfl
  case h =>   -- 1: t133 := Op.assign (tmp 134)
    exact x_assign rfl e134
  intro a12 hE e133 kp
  refine wpList_nil ?_
  replace e0 := hE.eval 0 (by rfl) e0
  replace e1 := hE.eval 1 (by rfl) e1
  replace e2 := hE.eval 2 (by rfl) e2
  replace e7 := hE.eval 7 (by rfl) e7
  replace e21 := hE.eval 21 (by rfl) e21
  replace k := k.env hE
  clear hE e29
  refine then_n ?_
  refine cond_f e133 rfl ?_
  refine wp_seq ?_
  refine wp_region_lit ?_   -- region 29
  have hE := Env.refl a12 [186, 185]
  apply sq_det 186 hE k rfl (by rfl) (by rfl) rfl
  case h =>   -- 0: t186 := Op.binOp BinOp.eql 3 (tmp 21) (const (Value.int IntKind.i64 4)) 3
    exact x_eql rfl (hE.eval 21 (by rfl) e21) rfl
  intro a13 hE e186 kp
  apply sq_det 185 hE k rfl (by rfl) (by rfl) rfl
  case h =>   -- 1: t185 := Op.assign (tmp 186)
    exact x_assign rfl e186
  intro a14 hE e185 kp
  refine wpList_nil ?_
  replace e0 := hE.eval 0 (by rfl) e0
  replace e1 := hE.eval 1 (by rfl) e1
  replace e2 := hE.eval 2 (by rfl) e2
  replace e7 := hE.eval 7 (by rfl) e7
  replace e21 := hE.eval 21 (by rfl) e21
  replace k := k.env hE
  clear hE e133
  refine then_n ?_
  refine cond_f e185 rfl ?_
  refine wp_seq ?_
  refine wp_region_lit ?_   -- region 34
  have hE := Env.refl a14 [209, 208]
  apply sq_det 209 hE k rfl (by rfl) (by rfl) rfl
  case h =>   -- 0: t209 := Op.binOp BinOp.eql 3 (tmp 21) (const (Value.int IntKind.i64 5)) 3
    exact x_eql rfl (hE.eval 21 (by rfl) e21) rfl
  intro a15 hE e209 kp
  apply sq_det 208 hE k rfl (by rfl) (by rfl) rfl
  case h =>   -- 1: t208 := Op.assign (tmp 209)
    exact x_assign rfl e209
  intro a16 hE e208 kp
  refine wpList_nil ?_
  replace e0 := hE.eval 0 (by rfl) e0
  replace e1 := hE.eval 1 (by rfl) e1
  replace e2 := hE.eval 2 (by rfl) e2
  replace e7 := hE.eval 7 (by rfl) e7
  replace e21 := hE.eval 21 (by rfl) e21
  replace k := k.env hE
  clear hE e185
  refine then_n ?_
  refine cond_t e208 rfl ?_
  refine wp_region_lit ?_   -- region 35
  have hE := Env.refl a16 [210, 211]
  apply sq_det 210 hE k rfl (by rfl) (by rfl) rfl
  case h =>   -- 0: t210 := Op.move (tmp 0)
    exact x_move rfl (hE.eval 0 (by rfl) e0)
  intro a17 hE e210 kp
  apply sq_call 211 hE k rfl (by rfl) (by rfl) rfl
  case h =>   -- (*tierce/mains.Mains).Cut
    simp [go_sem, BigFrame.eval_const, BigFrame.eval_global, BigFrame.eval_func, ↓IntWalk.iteOmega, ev e210]
    with_reducible exact ⟨rfl, rfl⟩
  case hc => exact cut_mn (OwnT.perm O (.swap _ _ _))
  clear O
  rintro e w19 ⟨rfl, O⟩
  replace O := O.perm (.swap _ _ _)
  refine ⟨_, rfl, ?_⟩
  intro a18 hE e211 kp
  refine wpList_nil ?_
  replace k := k.env hE
  clear hE e0 e1 e2 e7 e21 e208 e211
  refine block_n ?_
  refine then_n ?_
  refine wp_seq ?_
  refine wp_region_lit ?_   -- region 44
  have hE := Env.refl a18 [8]
  apply sq_det 8 hE k rfl (by rfl) (by rfl) rfl
  case h =>   -- 0: t8 := Op.assign (const (Value.bool true))
    exact x_assign rfl rfl
  intro a20 hE e8 kp
  refine wpList_nil ?_
  replace k := k.env hE
  clear hE
  refine then_n ?_
  refine wp_ret ?_
  replace O := OwnT.drop3 O
  refine ret_F1 rfl k e8 ?_
  exact ⟨rfl, S, L, M.cut, hM.cut.mono (by omega), O⟩
set_option maxRecDepth 100000 in
set_option maxHeartbeats 4000000 in
theorem do_come {H : Nat} {A0 : World} {R : List Thing} {p mb ub n cap bm c1 c2 c3 : Nat} {B B1 B2 B3 : Option Addr} {S : List Sec} {L : Int → Option Sec} {M : Mn} {c : Int} {x N : Int} {b : UInt8} {q : List UInt8} (w : World) (O : OwnT H A0 ((tDisc p mb B n cap bm S L) :: (tMn mb M) :: (tBlk ub 80 #[.slice B1 n c1, .slice B2 n c2, .slice B3 n c3]) :: (tRow 9 1 (.slice B1 n c1) n (strsV (nowL S L))) :: (tRow 9 1 (.slice B2 n c2) n (strsV S)) :: (tRow 4 1 (.slice B3 n c3) n (boolsV (isL n L))) :: R) w) (hM : M.Ok c) (hc : c ≤ 1000000) (hc1 : n ≤ c1)  : Calls Try.prog 45 #[.pointer (some ⟨mb, 0, none⟩), .pointer (some ⟨p, 0, none⟩), .pointer (some ⟨ub, 0, none⟩), .agg #[.int .i64 7, .int .i64 x, .int .i64 N, .int .u8 (b.toNat : Int), .string (sB q)]] w fun e w' => e = .returned (.bool true) ∧ ∃ S' L' M', M'.Ok (c + 20) ∧ OwnT H A0 ((tDisc p mb B n cap bm S' L') :: (tMn mb M') :: (tBlk ub 80 #[.slice B1 n c1, .slice B2 n c2, .slice B3 n c3]) :: (tRow 9 1 (.slice B1 n c1) n (strsV (nowL S' L'))) :: (tRow 9 1 (.slice B2 n c2) n (strsV S')) :: (tRow 4 1 (.slice B3 n c3) n (boolsV (isL n L'))) :: R) w' := by
  have hk := O.dok
  have hnl := hk.le
  have hSn := hk.len
  refine calls_F Try.func45 rfl 232 rfl (by rfl) ?_
  intro a1 k hargs
  have e0 : a1.eval (.tmp 0) = .pointer (some ⟨mb, 0, none⟩) := hargs 0 _ rfl
  have e1 : a1.eval (.tmp 1) = .pointer (some ⟨p, 0, none⟩) := hargs 1 _ rfl
  have e2 : a1.eval (.tmp 2) = .pointer (some ⟨ub, 0, none⟩) := hargs 2 _ rfl
  have e3 : a1.eval (.tmp 3) = .agg #[.int .i64 7, .int .i64 x, .int .i64 N, .int .u8 ↑b.toNat, .string (sB q)] := hargs 3 _ rfl
  clear hargs
  refine wp_seq ?_
  refine wp_region_lit ?_   -- region 0
  have hE := Env.refl a1 [7, 8]
  refine sq_new O (cs := #[.int .i64 7, .int .i64 x, .int .i64 N, .int .u8 ↑b.toNat, .string (sB q)]) (t := 74) 7 hE k rfl (by rfl) (by rfl) rfl (by simp [go_sem, BigFrame.eval_const, BigFrame.eval_global, BigFrame.eval_func, ↓IntWalk.iteOmega, ev (hE.eval 3 (by rfl) e3)]) ?_
  clear O
  intro xb a2 w3 O hE e7 kp
  apply sq_det 8 hE k rfl (by rfl) (by rfl) rfl
  case h =>   -- 1: t8 := Op.assign (const (Value.bool false))
    exact x_assign rfl rfl
  intro a4 hE e8 kp
  replace e7 := (kp 7 rfl).trans e7
  refine wpList_nil ?_
  replace e0 := hE.eval 0 (by rfl) e0
  replace e1 := hE.eval 1 (by rfl) e1
  replace e2 := hE.eval 2 (by rfl) e2
  replace k := k.env hE
  clear hE e3 e8
  refine then_n ?_
  replace O := OwnT.turn3 O
  replace O : OwnT _ _ ((tDisc p mb B n cap bm S L) :: (tMn mb M) :: (tBlk xb 74 #[.int .i64 7, .int .i64 x, .int .i64 N, .int .u8 ↑b.toNat, .string (sB q)]) :: (tBlk ub 80 #[.slice B1 n c1, .slice B2 n c2, .slice B3 n c3]) :: (tRow 9 1 (.slice B1 n c1) n (strsV (nowL S L))) :: (tRow 9 1 (.slice B2 n c2) n (strsV S)) :: (tRow 4 1 (.slice B3 n c3) n (boolsV (isL n L))) :: R) w3 := O
  refine wp_seq ?_
  refine wp_seq ?_
  refine wp_region_lit ?_   -- region 1
  have hE := Env.refl a4 [20, 21]
  apply sq_det 20 hE k rfl (by rfl) (by rfl) rfl
  case h =>   -- 0: t20 := Op.fieldAddr 74 (tmp 7) 0
    simp [go_sem, BigFrame.eval_const, BigFrame.eval_global, BigFrame.eval_func, ↓IntWalk.iteOmega, ev (hE.eval 7 (by rfl) e7)]
    with_reducible rfl
  intro a5 hE e20 kp
  apply sq_det 21 hE k rfl (by rfl) (by rfl) rfl
  case h =>   -- 1: t21 := Op.load 3 (tmp 20)
    have q0 : w3.cell? ⟨xb, 0, none⟩ = some (.int .i64 7) := (OwnT.blk O 2 rfl).cell 0
    simp [go_sem, BigFrame.eval_const, BigFrame.eval_global, BigFrame.eval_func, ↓IntWalk.iteOmega, ev e20, q0]
    with_reducible rfl
  intro a6 hE e21 kp
  refine wpList_nil ?_
  replace e0 := hE.eval 0 (by rfl) e0
  replace e1 := hE.eval 1 (by rfl) e1
  replace e2 := hE.eval 2 (by rfl) e2
  replace e7 := hE.eval 7 (by rfl) e7
  replace k := k.env hE
  clear hE
  refine then_n ?_
  refine wp_block ?_
  refine wp_seq ?_
  refine wp_seq ?_
  refine wp_region_lit ?_   -- region 3
  have hE := Env.refl a6 [30, 29]
  apply sq_det 30 hE k rfl (by rfl) (by rfl) rfl
  case h =>   -- 0: t30 := Op.binOp BinOp.eql 3 (tmp 21) (const (Value.int IntKind.i64 1)) 3
    exact x_eql rfl (hE.eval 21 (by rfl) e21) rfl
  intro a7 hE e30 kp
  apply sq_det 29 hE k rfl (by rfl) (by rfl) rfl
  case h =>   -- 1: t29 := Op.assign (tmp 30)
    exact x_assign rfl e30
  intro a8 hE e29 kp
  refine wpList_nil ?_
  replace e0 := hE.eval 0 (by rfl) e0
  replace e1 := hE.eval 1 (by rfl) e1
  replace e2 := hE.eval 2 (by rfl) e2
  replace e7 := hE.eval 7 (by rfl) e7
  replace e21 := hE.eval 21 (by rfl) e21
  replace k := k.env hE
  clear hE
  refine then_n ?_
  refine cond_f e29 rfl ?_
  refine wp_region_lit ?_   -- region 4
  have hE := Env.refl a8 [31, 29]
  apply sq_det 31 hE k rfl (by rfl) (by rfl) rfl
  case h =>   -- 0: t31 := Op.binOp BinOp.eql 3 (tmp 21) (const (Value.int IntKind.i64 2)) 3
    exact x_eql rfl (hE.eval 21 (by rfl) e21) rfl
  intro a9 hE e31 kp
  apply sq_det 29 hE k rfl (by rfl) (by rfl) rfl
  case h =>   -- 1: t29 := Op.assign (tmp 31)
    exact x_assign rfl e31
  intro a10 hE e29 kp
  refine wpList_nil ?_
  replace e0 := hE.eval 0 (by rfl) e0
  replace e1 := hE.eval 1 (by rfl) e1
  replace e2 := hE.eval 2 (by rfl) e2
  replace e7 := hE.eval 7 (by rfl) e7
  replace e21 := hE.eval 21 (by rfl) e21
  replace k := k.env hE
  clear hE
  refine then_n ?_
  refine cond_f e29 rfl ?_
  refine wp_seq ?_
  refine wp_region_lit ?_   -- region 22
  have hE := Env.refl a10 [134, 133]
  apply sq_det 134 hE k rfl (by rfl) (by rfl) rfl
  case h =>   -- 0: t134 := Op.binOp BinOp.eql 3 (tmp 21) (const (Value.int IntKind.i64 3)) 3
    exact x_eql rfl (hE.eval 21 (by rfl) e21) rfl
  intro a11 hE e134 kp
  apply sq_det 133 hE k rfl (by rfl) (by rfl) rfl
  case h =>   -- 1: t133 := Op.assign (tmp 134)
    exact x_assign rfl e134
  intro a12 hE e133 kp
  refine wpList_nil ?_
  replace e0 := hE.eval 0 (by rfl) e0
  replace e1 := hE.eval 1 (by rfl) e1
  replace e2 := hE.eval 2 (by rfl) e2
  replace e7 := hE.eval 7 (by rfl) e7
  replace e21 := hE.eval 21 (by rfl) e21
  replace k := k.env hE
  clear hE e29
  refine then_n ?_
  refine cond_f e133 rfl ?_
  refine wp_seq ?_
  refine wp_region_lit ?_   -- region 29
  have hE := Env.refl a12 [186, 185]
  apply sq_det 186 hE k rfl (by rfl) (by rfl) rfl
  case h =>   -- 0: t186 := Op.binOp BinOp.eql 3 (tmp 21) (const (Value.int IntKind.i64 4)) 3
    exact x_eql rfl (hE.eval 21 (by rfl) e21) rfl
  intro a13 hE e186 kp
  apply sq_det 185 hE k rfl (by rfl) (by rfl) rfl
  case h =>   -- 1: t185 := Op.assign (tmp 186)
    exact x_assign rfl e186
  intro a14 hE e185 kp
  refine wpList_nil ?_
  replace e0 := hE.eval 0 (by rfl) e0
  replace e1 := hE.eval 1 (by rfl) e1
  replace e2 := hE.eval 2 (by rfl) e2
  replace e7 := hE.eval 7 (by rfl) e7
  replace e21 := hE.eval 21 (by rfl) e21
  replace k := k.env hE
  clear hE e133
  refine then_n ?_
  refine cond_f e185 rfl ?_
  refine wp_seq ?_
  refine wp_region_lit ?_   -- region 34
  have hE := Env.refl a14 [209, 208]
  apply sq_det 209 hE k rfl (by rfl) (by rfl) rfl
  case h =>   -- 0: t209 := Op.binOp BinOp.eql 3 (tmp 21) (const (Value.int IntKind.i64 5)) 3
    exact x_eql rfl (hE.eval 21 (by rfl) e21) rfl
  intro a15 hE e209 kp
  apply sq_det 208 hE k rfl (by rfl) (by rfl) rfl
  case h =>   -- 1: t208 := Op.assign (tmp 209)
    exact x_assign rfl e209
  intro a16 hE e208 kp
  refine wpList_nil ?_
  replace e0 := hE.eval 0 (by rfl) e0
  replace e1 := hE.eval 1 (by rfl) e1
  replace e2 := hE.eval 2 (by rfl) e2
  replace e7 := hE.eval 7 (by rfl) e7
  replace e21 := hE.eval 21 (by rfl) e21
  replace k := k.env hE
  clear hE e185
  refine then_n ?_
  refine cond_f e208 rfl ?_
  refine wp_seq ?_
  refine wp_region_lit ?_   -- region 36
  have hE := Env.refl a16 [213, 212]
  apply sq_det 213 hE k rfl (by rfl) (by rfl) rfl
  case h =>   -- 0: t213 := Op.binOp BinOp.eql 3 (tmp 21) (const (Value.int IntKind.i64 6)) 3
    exact x_eql rfl (hE.eval 21 (by rfl) e21) rfl
  intro a17 hE e213 kp
  apply sq_det 212 hE k rfl (by rfl) (by rfl) rfl
  case h =>   -- 1: t212 := Op.assign (tmp 213)
    exact x_assign rfl e213
  intro a18 hE e212 kp
  refine wpList_nil ?_
  replace e0 := hE.eval 0 (by rfl) e0
  replace e1 := hE.eval 1 (by rfl) e1
  replace e2 := hE.eval 2 (by rfl) e2
  replace e7 := hE.eval 7 (by rfl) e7
  replace e21 := hE.eval 21 (by rfl) e21
  replace k := k.env hE
  clear hE e208
  refine then_n ?_
  refine cond_f e212 rfl ?_
  refine wp_seq ?_
  refine wp_region_lit ?_   -- region 42
  have hE := Env.refl a18 [229, 228]
  apply sq_det 229 hE k rfl (by rfl) (by rfl) rfl
  case h =>   -- 0: t229 := Op.binOp BinOp.eql 3 (tmp 21) (const (Value.int IntKind.i64 7)) 3
    exact x_eql rfl (hE.eval 21 (by rfl) e21) rfl
  intro a19 hE e229 kp
  apply sq_det 228 hE k rfl (by rfl) (by rfl) rfl
  case h =>   -- 1: t228 := Op.assign (tmp 229)
    exact x_assign rfl e229
  intro a20 hE e228 kp
  refine wpList_nil ?_
  replace e0 := hE.eval 0 (by rfl) e0
  replace e7 := hE.eval 7 (by rfl) e7
  replace k := k.env hE
  clear hE e1 e2 e21 e212
  refine then_n ?_
  refine cond_t e228 rfl ?_
  refine wp_region_lit ?_   -- region 43
  have hE := Env.refl a20 [230, 231]
  apply sq_det 230 hE k rfl (by rfl) (by rfl) rfl
  case h =>   -- 0: t230 := Op.move (tmp 0)
    exact x_move rfl (hE.eval 0 (by rfl) e0)
  intro a21 hE e230 kp
  apply sq_call 231 hE k rfl (by rfl) (by rfl) rfl
  case h =>   -- (*tierce/mains.Mains).Come
    simp [go_sem, BigFrame.eval_const, BigFrame.eval_global, BigFrame.eval_func, ↓IntWalk.iteOmega, ev e230]
    with_reducible exact ⟨rfl, rfl⟩
  case hc => exact come_mn (OwnT.perm O (.swap _ _ _)) hM (by omega)
  clear O
  rintro e w23 ⟨rfl, O⟩
  replace O := O.perm (.swap _ _ _)
  refine ⟨_, rfl, ?_⟩
  intro a22 hE e231 kp
  refine wpList_nil ?_
  replace k := k.env hE
  clear hE e0 e7 e228 e231
  refine block_n ?_
  refine then_n ?_
  refine wp_seq ?_
  refine wp_region_lit ?_   -- region 44
  have hE := Env.refl a22 [8]
  apply sq_det 8 hE k rfl (by rfl) (by rfl) rfl
  case h =>   -- 0: t8 := Op.assign (const (Value.bool true))
    exact x_assign rfl rfl
  intro a24 hE e8 kp
  refine wpList_nil ?_
  replace k := k.env hE
  clear hE
  refine then_n ?_
  refine wp_ret ?_
  replace O := OwnT.drop3 O
  refine ret_F1 rfl k e8 ?_
  exact ⟨rfl, S, L, M.come, hM.come.mono (by omega), O⟩
set_option maxRecDepth 100000 in
set_option maxHeartbeats 4000000 in
theorem do_fuse {H : Nat} {A0 : World} {R : List Thing} {p mb ub n cap bm c1 c2 c3 : Nat} {B B1 B2 B3 : Option Addr} {S : List Sec} {L : Int → Option Sec} {M : Mn} {c : Int} {K x N : Int} {b : UInt8} {q : List UInt8} (w : World) (O : OwnT H A0 ((tDisc p mb B n cap bm S L) :: (tMn mb M) :: (tBlk ub 80 #[.slice B1 n c1, .slice B2 n c2, .slice B3 n c3]) :: (tRow 9 1 (.slice B1 n c1) n (strsV (nowL S L))) :: (tRow 9 1 (.slice B2 n c2) n (strsV S)) :: (tRow 4 1 (.slice B3 n c3) n (boolsV (isL n L))) :: R) w) (hM : M.Ok c) (hc : c ≤ 1000000) (hc1 : n ≤ c1) (k1 : K ≠ 1) (k2 : K ≠ 2) (k3 : K ≠ 3) (k4 : K ≠ 4) (k5 : K ≠ 5) (k6 : K ≠ 6) (k7 : K ≠ 7) : Calls Try.prog 45 #[.pointer (some ⟨mb, 0, none⟩), .pointer (some ⟨p, 0, none⟩), .pointer (some ⟨ub, 0, none⟩), .agg #[.int .i64 K, .int .i64 x, .int .i64 N, .int .u8 (b.toNat : Int), .string (sB q)]] w fun e w' => e = .returned (.bool true) ∧ ∃ S' L' M', M'.Ok (c + 20) ∧ OwnT H A0 ((tDisc p mb B n cap bm S' L') :: (tMn mb M') :: (tBlk ub 80 #[.slice B1 n c1, .slice B2 n c2, .slice B3 n c3]) :: (tRow 9 1 (.slice B1 n c1) n (strsV (nowL S' L'))) :: (tRow 9 1 (.slice B2 n c2) n (strsV S')) :: (tRow 4 1 (.slice B3 n c3) n (boolsV (isL n L'))) :: R) w' := by
  have hk := O.dok
  have hnl := hk.le
  have hSn := hk.len
  refine calls_F Try.func45 rfl 232 rfl (by rfl) ?_
  intro a1 k hargs
  have e0 : a1.eval (.tmp 0) = .pointer (some ⟨mb, 0, none⟩) := hargs 0 _ rfl
  have e1 : a1.eval (.tmp 1) = .pointer (some ⟨p, 0, none⟩) := hargs 1 _ rfl
  have e2 : a1.eval (.tmp 2) = .pointer (some ⟨ub, 0, none⟩) := hargs 2 _ rfl
  have e3 : a1.eval (.tmp 3) = .agg #[.int .i64 K, .int .i64 x, .int .i64 N, .int .u8 ↑b.toNat, .string (sB q)] := hargs 3 _ rfl
  clear hargs
  refine wp_seq ?_
  refine wp_region_lit ?_   -- region 0
  have hE := Env.refl a1 [7, 8]
  refine sq_new O (cs := #[.int .i64 K, .int .i64 x, .int .i64 N, .int .u8 ↑b.toNat, .string (sB q)]) (t := 74) 7 hE k rfl (by rfl) (by rfl) rfl (by simp [go_sem, BigFrame.eval_const, BigFrame.eval_global, BigFrame.eval_func, ↓IntWalk.iteOmega, ev (hE.eval 3 (by rfl) e3)]) ?_
  clear O
  intro xb a2 w3 O hE e7 kp
  apply sq_det 8 hE k rfl (by rfl) (by rfl) rfl
  case h =>   -- 1: t8 := Op.assign (const (Value.bool false))
    exact x_assign rfl rfl
  intro a4 hE e8 kp
  replace e7 := (kp 7 rfl).trans e7
  refine wpList_nil ?_
  replace e0 := hE.eval 0 (by rfl) e0
  replace e1 := hE.eval 1 (by rfl) e1
  replace e2 := hE.eval 2 (by rfl) e2
  replace k := k.env hE
  clear hE e3 e8
  refine then_n ?_
  replace O := OwnT.turn3 O
  replace O : OwnT _ _ ((tDisc p mb B n cap bm S L) :: (tMn mb M) :: (tBlk xb 74 #[.int .i64 K, .int .i64 x, .int .i64 N, .int .u8 ↑b.toNat, .string (sB q)]) :: (tBlk ub 80 #[.slice B1 n c1, .slice B2 n c2, .slice B3 n c3]) :: (tRow 9 1 (.slice B1 n c1) n (strsV (nowL S L))) :: (tRow 9 1 (.slice B2 n c2) n (strsV S)) :: (tRow 4 1 (.slice B3 n c3) n (boolsV (isL n L))) :: R) w3 := O
  obtain ⟨m, hm⟩ : ∃ m, uN N % 9 = m := ⟨_, rfl⟩
  refine wp_seq ?_
  refine wp_seq ?_
  refine wp_region_lit ?_   -- region 1
  have hE := Env.refl a4 [20, 21]
  apply sq_det 20 hE k rfl (by rfl) (by rfl) rfl
  case h =>   -- 0: t20 := Op.fieldAddr 74 (tmp 7) 0
    simp [go_sem, BigFrame.eval_const, BigFrame.eval_global, BigFrame.eval_func, ↓IntWalk.iteOmega, ev (hE.eval 7 (by rfl) e7)]
    with_reducible rfl
  intro a5 hE e20 kp
  apply sq_det 21 hE k rfl (by rfl) (by rfl) rfl
  case h =>   -- 1: t21 := Op.load 3 (tmp 20)
    have q0 : w3.cell? ⟨xb, 0, none⟩ = some (.int .i64 K) := (OwnT.blk O 2 rfl).cell 0
    simp [go_sem, BigFrame.eval_const, BigFrame.eval_global, BigFrame.eval_func, ↓IntWalk.iteOmega, ev e20, q0]
    with_reducible rfl
  intro a6 hE e21 kp
  refine wpList_nil ?_
  replace e0 := hE.eval 0 (by rfl) e0
  replace e1 := hE.eval 1 (by rfl) e1
  replace e2 := hE.eval 2 (by rfl) e2
  replace e7 := hE.eval 7 (by rfl) e7
  replace k := k.env hE
  clear hE
  refine then_n ?_
  refine wp_block ?_
  refine wp_seq ?_
  refine wp_seq ?_
  refine wp_region_lit ?_   -- region 3
  have hE := Env.refl a6 [30, 29]
  apply sq_det 30 hE k rfl (by rfl) (by rfl) rfl
  case h =>   -- 0: t30 := Op.binOp BinOp.eql 3 (tmp 21) (const (Value.int IntKind.i64 1)) 3
    exact x_dec (x_eql rfl (hE.eval 21 (by rfl) e21) rfl) (decide_eq_false k1)
  intro a7 hE e30 kp
  apply sq_det 29 hE k rfl (by rfl) (by rfl) rfl
  case h =>   -- 1: t29 := Op.assign (tmp 30)
    exact x_assign rfl e30
  intro a8 hE e29 kp
  refine wpList_nil ?_
  replace e0 := hE.eval 0 (by rfl) e0
  replace e1 := hE.eval 1 (by rfl) e1
  replace e2 := hE.eval 2 (by rfl) e2
  replace e7 := hE.eval 7 (by rfl) e7
  replace e21 := hE.eval 21 (by rfl) e21
  replace k := k.env hE
  clear hE
  refine then_n ?_
  refine cond_f e29 rfl ?_
  refine wp_region_lit ?_   -- region 4
  have hE := Env.refl a8 [31, 29]
  apply sq_det 31 hE k rfl (by rfl) (by rfl) rfl
  case h =>   -- 0: t31 := Op.binOp BinOp.eql 3 (tmp 21) (const (Value.int IntKind.i64 2)) 3
    exact x_dec (x_eql rfl (hE.eval 21 (by rfl) e21) rfl) (decide_eq_false k2)
  intro a9 hE e31 kp
  apply sq_det 29 hE k rfl (by rfl) (by rfl) rfl
  case h =>   -- 1: t29 := Op.assign (tmp 31)
    exact x_assign rfl e31
  intro a10 hE e29 kp
  refine wpList_nil ?_
  replace e0 := hE.eval 0 (by rfl) e0
  replace e1 := hE.eval 1 (by rfl) e1
  replace e2 := hE.eval 2 (by rfl) e2
  replace e7 := hE.eval 7 (by rfl) e7
  replace e21 := hE.eval 21 (by rfl) e21
  replace k := k.env hE
  clear hE
  refine then_n ?_
  refine cond_f e29 rfl ?_
  refine wp_seq ?_
  refine wp_region_lit ?_   -- region 22
  have hE := Env.refl a10 [134, 133]
  apply sq_det 134 hE k rfl (by rfl) (by rfl) rfl
  case h =>   -- 0: t134 := Op.binOp BinOp.eql 3 (tmp 21) (const (Value.int IntKind.i64 3)) 3
    exact x_dec (x_eql rfl (hE.eval 21 (by rfl) e21) rfl) (decide_eq_false k3)
  intro a11 hE e134 kp
  apply sq_det 133 hE k rfl (by rfl) (by rfl) rfl
  case h =>   -- 1: t133 := Op.assign (tmp 134)
    exact x_assign rfl e134
  intro a12 hE e133 kp
  refine wpList_nil ?_
  replace e0 := hE.eval 0 (by rfl) e0
  replace e1 := hE.eval 1 (by rfl) e1
  replace e2 := hE.eval 2 (by rfl) e2
  replace e7 := hE.eval 7 (by rfl) e7
  replace e21 := hE.eval 21 (by rfl) e21
  replace k := k.env hE
  clear hE e29
  refine then_n ?_
  refine cond_f e133 rfl ?_
  refine wp_seq ?_
  refine wp_region_lit ?_   -- region 29
  have hE := Env.refl a12 [186, 185]
  apply sq_det 186 hE k rfl (by rfl) (by rfl) rfl
  case h =>   -- 0: t186 := Op.binOp BinOp.eql 3 (tmp 21) (const (Value.int IntKind.i64 4)) 3
    exact x_dec (x_eql rfl (hE.eval 21 (by rfl) e21) rfl) (decide_eq_false k4)
  intro a13 hE e186 kp
  apply sq_det 185 hE k rfl (by rfl) (by rfl) rfl
  case h =>   -- 1: t185 := Op.assign (tmp 186)
    exact x_assign rfl e186
  intro a14 hE e185 kp
  refine wpList_nil ?_
  replace e0 := hE.eval 0 (by rfl) e0
  replace e1 := hE.eval 1 (by rfl) e1
  replace e2 := hE.eval 2 (by rfl) e2
  replace e7 := hE.eval 7 (by rfl) e7
  replace e21 := hE.eval 21 (by rfl) e21
  replace k := k.env hE
  clear hE e133
  refine then_n ?_
  refine cond_f e185 rfl ?_
  refine wp_seq ?_
  refine wp_region_lit ?_   -- region 34
  have hE := Env.refl a14 [209, 208]
  apply sq_det 209 hE k rfl (by rfl) (by rfl) rfl
  case h =>   -- 0: t209 := Op.binOp BinOp.eql 3 (tmp 21) (const (Value.int IntKind.i64 5)) 3
    exact x_dec (x_eql rfl (hE.eval 21 (by rfl) e21) rfl) (decide_eq_false k5)
  intro a15 hE e209 kp
  apply sq_det 208 hE k rfl (by rfl) (by rfl) rfl
  case h =>   -- 1: t208 := Op.assign (tmp 209)
    exact x_assign rfl e209
  intro a16 hE e208 kp
  refine wpList_nil ?_
  replace e0 := hE.eval 0 (by rfl) e0
  replace e1 := hE.eval 1 (by rfl) e1
  replace e2 := hE.eval 2 (by rfl) e2
  replace e7 := hE.eval 7 (by rfl) e7
  replace e21 := hE.eval 21 (by rfl) e21
  replace k := k.env hE
  clear hE e185
  refine then_n ?_
  refine cond_f e208 rfl ?_
  refine wp_seq ?_
  refine wp_region_lit ?_   -- region 36
  have hE := Env.refl a16 [213, 212]
  apply sq_det 213 hE k rfl (by rfl) (by rfl) rfl
  case h =>   -- 0: t213 := Op.binOp BinOp.eql 3 (tmp 21) (const (Value.int IntKind.i64 6)) 3
    exact x_dec (x_eql rfl (hE.eval 21 (by rfl) e21) rfl) (decide_eq_false k6)
  intro a17 hE e213 kp
  apply sq_det 212 hE k rfl (by rfl) (by rfl) rfl
  case h =>   -- 1: t212 := Op.assign (tmp 213)
    exact x_assign rfl e213
  intro a18 hE e212 kp
  refine wpList_nil ?_
  replace e0 := hE.eval 0 (by rfl) e0
  replace e1 := hE.eval 1 (by rfl) e1
  replace e2 := hE.eval 2 (by rfl) e2
  replace e7 := hE.eval 7 (by rfl) e7
  replace e21 := hE.eval 21 (by rfl) e21
  replace k := k.env hE
  clear hE e208
  refine then_n ?_
  refine cond_f e212 rfl ?_
  refine wp_seq ?_
  refine wp_region_lit ?_   -- region 42
  have hE := Env.refl a18 [229, 228]
  apply sq_det 229 hE k rfl (by rfl) (by rfl) rfl
  case h =>   -- 0: t229 := Op.binOp BinOp.eql 3 (tmp 21) (const (Value.int IntKind.i64 7)) 3
    exact x_dec (x_eql rfl (hE.eval 21 (by rfl) e21) rfl) (decide_eq_false k7)
  intro a19 hE e229 kp
  apply sq_det 228 hE k rfl (by rfl) (by rfl) rfl
  case h =>   -- 1: t228 := Op.assign (tmp 229)
    exact x_assign rfl e229
  intro a20 hE e228 kp
  refine wpList_nil ?_
  replace e0 := hE.eval 0 (by rfl) e0
  replace e7 := hE.eval 7 (by rfl) e7
  replace k := k.env hE
  clear hE e1 e2 e21 e212
  refine then_n ?_
  refine cond_f e228 rfl ?_
  refine wp_region_lit ?_   -- region 2
  have hE := Env.refl a20 [22, 23, 24, 25, 26, 27, 28]
  apply sq_det 22 hE k rfl (by rfl) (by rfl) rfl
  case h =>   -- 0: t22 := Op.move (tmp 0)
    exact x_move rfl (hE.eval 0 (by rfl) e0)
  intro a21 hE e22 kp
  apply sq_det 23 hE k rfl (by rfl) (by rfl) rfl
  case h =>   -- 1: t23 := Op.fieldAddr 74 (tmp 7) 2
    simp [go_sem, BigFrame.eval_const, BigFrame.eval_global, BigFrame.eval_func, ↓IntWalk.iteOmega, ev (hE.eval 7 (by rfl) e7)]
    with_reducible rfl
  intro a22 hE e23 kp
  replace e22 := (kp 22 rfl).trans e22
  apply sq_det 24 hE k rfl (by rfl) (by rfl) rfl
  case h =>   -- 2: t24 := Op.load 3 (tmp 23)
    have q0 : w3.cell? ⟨xb, 2, none⟩ = some (.int .i64 N) := (OwnT.blk O 2 rfl).cell 2
    simp [go_sem, BigFrame.eval_const, BigFrame.eval_global, BigFrame.eval_func, ↓IntWalk.iteOmega, ev e23, q0]
    with_reducible rfl
  intro a23 hE e24 kp
  replace e22 := (kp 22 rfl).trans e22
  apply sq_det 25 hE k rfl (by rfl) (by rfl) rfl
  case h =>   -- 3: t25 := Op.convert 3 86 (tmp 24)
    exact x_conv rfl e24 (conv_uint N _)
  intro a24 hE e25 kp
  replace e22 := (kp 22 rfl).trans e22
  apply sq_det 26 hE k rfl (by rfl) (by rfl) rfl
  case h =>   -- 4: t26 := Op.binOp BinOp.rem 86 (tmp 25) (const (Value.int IntKind.u64 9)) 86
    exact x_remU (m := uN N) (j := 9) rfl e25 rfl rfl (by decide)
  intro a25 hE e26 kp
  replace e22 := (kp 22 rfl).trans e22
  apply sq_det 27 hE k rfl (by rfl) (by rfl) rfl
  case h =>   -- 5: t27 := Op.convert 86 3 (tmp 26)
    exact x_conv rfl e26 (conv_int _ _ (by omega))
  intro a26 hE e27 kp
  replace e22 := (kp 22 rfl).trans e22
  replace e27 := e27.trans (int_eq (show ((uN N % 9 : Nat) : Int) = (m : Int) by rw [hm]))
  apply sq_call 28 hE k rfl (by rfl) (by rfl) rfl
  case h =>   -- (*tierce/mains.Mains).Fuse
    simp [go_sem, BigFrame.eval_const, BigFrame.eval_global, BigFrame.eval_func, ↓IntWalk.iteOmega, ev e22, ev e27]
    with_reducible exact ⟨rfl, rfl⟩
  case hc => exact fuse_mn ↑m (OwnT.perm O (.swap _ _ _))
  clear O
  rintro e w28 ⟨rfl, O⟩
  replace O := O.perm (.swap _ _ _)
  refine ⟨_, rfl, ?_⟩
  intro a27 hE e28 kp
  refine wpList_nil ?_
  replace k := k.env hE
  clear hE e0 e7 e228 e28
  refine block_n ?_
  refine then_n ?_
  refine wp_seq ?_
  refine wp_region_lit ?_   -- region 44
  have hE := Env.refl a27 [8]
  apply sq_det 8 hE k rfl (by rfl) (by rfl) rfl
  case h =>   -- 0: t8 := Op.assign (const (Value.bool true))
    exact x_assign rfl rfl
  intro a29 hE e8 kp
  refine wpList_nil ?_
  replace k := k.env hE
  clear hE
  refine then_n ?_
  refine wp_ret ?_
  replace O := OwnT.drop3 O
  refine ret_F1 rfl k e8 ?_
  exact ⟨rfl, S, L, M.fused ↑m, (hM.fused (by omega)).mono (by omega), O⟩
set_option maxRecDepth 100000 in
set_option maxHeartbeats 4000000 in
theorem do_settle {H : Nat} {A0 : World} {R : List Thing} {p mb ub n cap bm c1 c2 c3 : Nat} {B B1 B2 B3 : Option Addr} {S : List Sec} {L : Int → Option Sec} {M : Mn} {c : Int} {x N : Int} {b : UInt8} {q : List UInt8} (w : World) (O : OwnT H A0 ((tDisc p mb B n cap bm S L) :: (tMn mb M) :: (tBlk ub 80 #[.slice B1 n c1, .slice B2 n c2, .slice B3 n c3]) :: (tRow 9 1 (.slice B1 n c1) n (strsV (nowL S L))) :: (tRow 9 1 (.slice B2 n c2) n (strsV S)) :: (tRow 4 1 (.slice B3 n c3) n (boolsV (isL n L))) :: R) w) (hM : M.Ok c) (hc : c ≤ 1000000) (hc1 : n ≤ c1) (hq : q.length ≤ 1000000) : Calls Try.prog 45 #[.pointer (some ⟨mb, 0, none⟩), .pointer (some ⟨p, 0, none⟩), .pointer (some ⟨ub, 0, none⟩), .agg #[.int .i64 6, .int .i64 x, .int .i64 N, .int .u8 (b.toNat : Int), .string (sB q)]] w fun e w' => e = .returned (.bool true) ∧ ∃ S' L' M', M'.Ok (c + 20) ∧ OwnT H A0 ((tDisc p mb B n cap bm S' L') :: (tMn mb M') :: (tBlk ub 80 #[.slice B1 n c1, .slice B2 n c2, .slice B3 n c3]) :: (tRow 9 1 (.slice B1 n c1) n (strsV (nowL S' L'))) :: (tRow 9 1 (.slice B2 n c2) n (strsV S')) :: (tRow 4 1 (.slice B3 n c3) n (boolsV (isL n L'))) :: R) w' := by
  have hk := O.dok
  have hnl := hk.le
  have hSn := hk.len
  refine calls_F Try.func45 rfl 232 rfl (by rfl) ?_
  intro a1 k hargs
  have e0 : a1.eval (.tmp 0) = .pointer (some ⟨mb, 0, none⟩) := hargs 0 _ rfl
  have e1 : a1.eval (.tmp 1) = .pointer (some ⟨p, 0, none⟩) := hargs 1 _ rfl
  have e2 : a1.eval (.tmp 2) = .pointer (some ⟨ub, 0, none⟩) := hargs 2 _ rfl
  have e3 : a1.eval (.tmp 3) = .agg #[.int .i64 6, .int .i64 x, .int .i64 N, .int .u8 ↑b.toNat, .string (sB q)] := hargs 3 _ rfl
  clear hargs
  refine wp_seq ?_
  refine wp_region_lit ?_   -- region 0
  have hE := Env.refl a1 [7, 8]
  refine sq_new O (cs := #[.int .i64 6, .int .i64 x, .int .i64 N, .int .u8 ↑b.toNat, .string (sB q)]) (t := 74) 7 hE k rfl (by rfl) (by rfl) rfl (by simp [go_sem, BigFrame.eval_const, BigFrame.eval_global, BigFrame.eval_func, ↓IntWalk.iteOmega, ev (hE.eval 3 (by rfl) e3)]) ?_
  clear O
  intro xb a2 w3 O hE e7 kp
  apply sq_det 8 hE k rfl (by rfl) (by rfl) rfl
  case h =>   -- 1: t8 := Op.assign (const (Value.bool false))
    exact x_assign rfl rfl
  intro a4 hE e8 kp
  replace e7 := (kp 7 rfl).trans e7
  refine wpList_nil ?_
  replace e0 := hE.eval 0 (by rfl) e0
  replace e1 := hE.eval 1 (by rfl) e1
  replace e2 := hE.eval 2 (by rfl) e2
  replace k := k.env hE
  clear hE e3 e8
  refine then_n ?_
  replace O := OwnT.turn3 O
  replace O : OwnT _ _ ((tDisc p mb B n cap bm S L) :: (tMn mb M) :: (tBlk xb 74 #[.int .i64 6, .int .i64 x, .int .i64 N, .int .u8 ↑b.toNat, .string (sB q)]) :: (tBlk ub 80 #[.slice B1 n c1, .slice B2 n c2, .slice B3 n c3]) :: (tRow 9 1 (.slice B1 n c1) n (strsV (nowL S L))) :: (tRow 9 1 (.slice B2 n c2) n (strsV S)) :: (tRow 4 1 (.slice B3 n c3) n (boolsV (isL n L))) :: R) w3 := O
  refine wp_seq ?_
  refine wp_seq ?_
  refine wp_region_lit ?_   -- region 1
  have hE := Env.refl a4 [20, 21]
  apply sq_det 20 hE k rfl (by rfl) (by rfl) rfl
  case h =>   -- 0: t20 := Op.fieldAddr 74 (tmp 7) 0
    simp [go_sem, BigFrame.eval_const, BigFrame.eval_global, BigFrame.eval_func, ↓IntWalk.iteOmega, ev (hE.eval 7 (by rfl) e7)]
    with_reducible rfl
  intro a5 hE e20 kp
  apply sq_det 21 hE k rfl (by rfl) (by rfl) rfl
  case h =>   -- 1: t21 := Op.load 3 (tmp 20)
    have q0 : w3.cell? ⟨xb, 0, none⟩ = some (.int .i64 6) := (OwnT.blk O 2 rfl).cell 0
    simp [go_sem, BigFrame.eval_const, BigFrame.eval_global, BigFrame.eval_func, ↓IntWalk.iteOmega, ev e20, q0]
    with_reducible rfl
  intro a6 hE e21 kp
  refine wpList_nil ?_
  replace e0 := hE.eval 0 (by rfl) e0
  replace e1 := hE.eval 1 (by rfl) e1
  replace e2 := hE.eval 2 (by rfl) e2
  replace e7 := hE.eval 7 (by rfl) e7
  replace k := k.env hE
  clear hE
  refine then_n ?_
  refine wp_block ?_
  refine wp_seq ?_
  refine wp_seq ?_
  refine wp_region_lit ?_   -- region 3
  have hE := Env.refl a6 [30, 29]
  apply sq_det 30 hE k rfl (by rfl) (by rfl) rfl
  case h =>   -- 0: t30 := Op.binOp BinOp.eql 3 (tmp 21) (const (Value.int IntKind.i64 1)) 3
    exact x_eql rfl (hE.eval 21 (by rfl) e21) rfl
  intro a7 hE e30 kp
  apply sq_det 29 hE k rfl (by rfl) (by rfl) rfl
  case h =>   -- 1: t29 := Op.assign (tmp 30)
    exact x_assign rfl e30
  intro a8 hE e29 kp
  refine wpList_nil ?_
  replace e0 := hE.eval 0 (by rfl) e0
  replace e1 := hE.eval 1 (by rfl) e1
  replace e2 := hE.eval 2 (by rfl) e2
  replace e7 := hE.eval 7 (by rfl) e7
  replace e21 := hE.eval 21 (by rfl) e21
  replace k := k.env hE
  clear hE
  refine then_n ?_
  refine cond_f e29 rfl ?_
  refine wp_region_lit ?_   -- region 4
  have hE := Env.refl a8 [31, 29]
  apply sq_det 31 hE k rfl (by rfl) (by rfl) rfl
  case h =>   -- 0: t31 := Op.binOp BinOp.eql 3 (tmp 21) (const (Value.int IntKind.i64 2)) 3
    exact x_eql rfl (hE.eval 21 (by rfl) e21) rfl
  intro a9 hE e31 kp
  apply sq_det 29 hE k rfl (by rfl) (by rfl) rfl
  case h =>   -- 1: t29 := Op.assign (tmp 31)
    exact x_assign rfl e31
  intro a10 hE e29 kp
  refine wpList_nil ?_
  replace e0 := hE.eval 0 (by rfl) e0
  replace e1 := hE.eval 1 (by rfl) e1
  replace e2 := hE.eval 2 (by rfl) e2
  replace e7 := hE.eval 7 (by rfl) e7
  replace e21 := hE.eval 21 (by rfl) e21
  replace k := k.env hE
  clear hE
  refine then_n ?_
  refine cond_f e29 rfl ?_
  refine wp_seq ?_
  refine wp_region_lit ?_   -- region 22
  have hE := Env.refl a10 [134, 133]
  apply sq_det 134 hE k rfl (by rfl) (by rfl) rfl
  case h =>   -- 0: t134 := Op.binOp BinOp.eql 3 (tmp 21) (const (Value.int IntKind.i64 3)) 3
    exact x_eql rfl (hE.eval 21 (by rfl) e21) rfl
  intro a11 hE e134 kp
  apply sq_det 133 hE k rfl (by rfl) (by rfl) rfl
  case h =>   -- 1: t133 := Op.assign (tmp 134)
    exact x_assign rfl e134
  intro a12 hE e133 kp
  refine wpList_nil ?_
  replace e0 := hE.eval 0 (by rfl) e0
  replace e1 := hE.eval 1 (by rfl) e1
  replace e2 := hE.eval 2 (by rfl) e2
  replace e7 := hE.eval 7 (by rfl) e7
  replace e21 := hE.eval 21 (by rfl) e21
  replace k := k.env hE
  clear hE e29
  refine then_n ?_
  refine cond_f e133 rfl ?_
  refine wp_seq ?_
  refine wp_region_lit ?_   -- region 29
  have hE := Env.refl a12 [186, 185]
  apply sq_det 186 hE k rfl (by rfl) (by rfl) rfl
  case h =>   -- 0: t186 := Op.binOp BinOp.eql 3 (tmp 21) (const (Value.int IntKind.i64 4)) 3
    exact x_eql rfl (hE.eval 21 (by rfl) e21) rfl
  intro a13 hE e186 kp
  apply sq_det 185 hE k rfl (by rfl) (by rfl) rfl
  case h =>   -- 1: t185 := Op.assign (tmp 186)
    exact x_assign rfl e186
  intro a14 hE e185 kp
  refine wpList_nil ?_
  replace e0 := hE.eval 0 (by rfl) e0
  replace e1 := hE.eval 1 (by rfl) e1
  replace e2 := hE.eval 2 (by rfl) e2
  replace e7 := hE.eval 7 (by rfl) e7
  replace e21 := hE.eval 21 (by rfl) e21
  replace k := k.env hE
  clear hE e133
  refine then_n ?_
  refine cond_f e185 rfl ?_
  refine wp_seq ?_
  refine wp_region_lit ?_   -- region 34
  have hE := Env.refl a14 [209, 208]
  apply sq_det 209 hE k rfl (by rfl) (by rfl) rfl
  case h =>   -- 0: t209 := Op.binOp BinOp.eql 3 (tmp 21) (const (Value.int IntKind.i64 5)) 3
    exact x_eql rfl (hE.eval 21 (by rfl) e21) rfl
  intro a15 hE e209 kp
  apply sq_det 208 hE k rfl (by rfl) (by rfl) rfl
  case h =>   -- 1: t208 := Op.assign (tmp 209)
    exact x_assign rfl e209
  intro a16 hE e208 kp
  refine wpList_nil ?_
  replace e0 := hE.eval 0 (by rfl) e0
  replace e1 := hE.eval 1 (by rfl) e1
  replace e2 := hE.eval 2 (by rfl) e2
  replace e7 := hE.eval 7 (by rfl) e7
  replace e21 := hE.eval 21 (by rfl) e21
  replace k := k.env hE
  clear hE e185
  refine then_n ?_
  refine cond_f e208 rfl ?_
  refine wp_seq ?_
  refine wp_region_lit ?_   -- region 36
  have hE := Env.refl a16 [213, 212]
  apply sq_det 213 hE k rfl (by rfl) (by rfl) rfl
  case h =>   -- 0: t213 := Op.binOp BinOp.eql 3 (tmp 21) (const (Value.int IntKind.i64 6)) 3
    exact x_eql rfl (hE.eval 21 (by rfl) e21) rfl
  intro a17 hE e213 kp
  apply sq_det 212 hE k rfl (by rfl) (by rfl) rfl
  case h =>   -- 1: t212 := Op.assign (tmp 213)
    exact x_assign rfl e213
  intro a18 hE e212 kp
  refine wpList_nil ?_
  replace e0 := hE.eval 0 (by rfl) e0
  replace e1 := hE.eval 1 (by rfl) e1
  replace e2 := hE.eval 2 (by rfl) e2
  replace e7 := hE.eval 7 (by rfl) e7
  replace e21 := hE.eval 21 (by rfl) e21
  replace k := k.env hE
  clear hE e208
  refine then_n ?_
  refine cond_t e212 rfl ?_
  cases ha : M.away with
  | false =>
    refine wp_seq ?_
    refine wp_region_lit ?_   -- region 37
    have hE := Env.refl a18 [214, 215, 216, 217, 19]
    apply sq_det 214 hE k rfl (by rfl) (by rfl) rfl
    case h =>   -- 0: t214 := Op.move (tmp 1)
      exact x_move rfl (hE.eval 1 (by rfl) e1)
    intro a19 hE e214 kp
    apply sq_det 215 hE k rfl (by rfl) (by rfl) rfl
    case h =>   -- 1: t215 := Op.fieldAddr 74 (tmp 7) 4
      simp [go_sem, BigFrame.eval_const, BigFrame.eval_global, BigFrame.eval_func, ↓IntWalk.iteOmega, ev (hE.eval 7 (by rfl) e7)]
      with_reducible rfl
    intro a20 hE e215 kp
    replace e214 := (kp 214 rfl).trans e214
    apply sq_det 216 hE k rfl (by rfl) (by rfl) rfl
    case h =>   -- 2: t216 := Op.load 9 (tmp 215)
      have q0 : w3.cell? ⟨xb, 4, none⟩ = some (.string (sB q)) := (OwnT.blk O 2 rfl).cell 4
      simp [go_sem, BigFrame.eval_const, BigFrame.eval_global, BigFrame.eval_func, ↓IntWalk.iteOmega, ev e215, q0]
      with_reducible rfl
    intro a21 hE e216 kp
    replace e214 := (kp 214 rfl).trans e214
    apply sq_call 217 hE k rfl (by rfl) (by rfl) rfl
    case h =>   -- (*tierce/disc.Disc).Settle
      simp [go_sem, BigFrame.eval_const, BigFrame.eval_global, BigFrame.eval_func, ↓IntWalk.iteOmega, ev e214, ev e216]
      with_reducible exact ⟨rfl, rfl⟩
    case hc => exact dsettle_on q _ O hq ha
    clear O
    rintro e w23 ⟨rfl, O⟩
    refine ⟨_, rfl, ?_⟩
    intro a22 hE e217 kp
    apply sq_det 19 hE k rfl (by rfl) (by rfl) rfl
    case h =>   -- 4: t19 := Op.assign (tmp 217)
      exact x_assign rfl e217
    intro a24 hE e19 kp
    refine wpList_nil ?_
    replace e0 := hE.eval 0 (by rfl) e0
    replace e2 := hE.eval 2 (by rfl) e2
    replace e7 := hE.eval 7 (by rfl) e7
    replace k := k.env hE
    clear hE e1 e21 e212
    refine then_n ?_
    refine wp_seq ?_
    refine wp_seq ?_
    refine wp_region_lit ?_   -- region 38
    have hE := Env.refl a24 [218, 219]
    apply sq_det 218 hE k rfl (by rfl) (by rfl) rfl
    case h =>   -- 0: t218 := Op.move (tmp 0)
      exact x_move rfl (hE.eval 0 (by rfl) e0)
    intro a25 hE e218 kp
    apply sq_call 219 hE k rfl (by rfl) (by rfl) rfl
    case h =>   -- (*tierce/mains.Mains).On
      simp [go_sem, BigFrame.eval_const, BigFrame.eval_global, BigFrame.eval_func, ↓IntWalk.iteOmega, ev e218]
      with_reducible exact ⟨rfl, rfl⟩
    case hc => exact on_mn (OwnT.get O 1 rfl)
    rintro e _ ⟨rfl, rfl⟩
    refine ⟨_, congrArg (fun b => Ending.returned (.bool !b)) ha, ?_⟩
    intro a26 hE e219 kp
    refine wpList_nil ?_
    replace e2 := hE.eval 2 (by rfl) e2
    replace e7 := hE.eval 7 (by rfl) e7
    replace e19 := hE.eval 19 (by rfl) e19
    replace k := k.env hE
    clear hE e0
    refine then_n ?_
    refine cond_t e219 rfl ?_
    refine wp_seq ?_
    refine wp_region_lit ?_   -- region 39
    have hE := Env.refl a26 [220, 221, 8]
    apply sq_det 220 hE k rfl (by rfl) (by rfl) rfl
    case h =>   -- 0: t220 := Op.move (tmp 19)
      exact x_move rfl (hE.eval 19 (by rfl) e19)
    intro a27 hE e220 kp
    apply sq_det 221 hE k rfl (by rfl) (by rfl) rfl
    case h =>   -- 1: t221 := Op.binOp BinOp.eql 36 (tmp 220) (const (Value.int IntKind.i64 11)) 36
      exact x_eql rfl e220 rfl
    intro a28 hE e221 kp
    apply sq_det 8 hE k rfl (by rfl) (by rfl) rfl
    case h =>   -- 2: t8 := Op.assign (tmp 221)
      exact x_assign rfl e221
    intro a29 hE e8 kp
    refine wpList_nil ?_
    replace k := k.env hE
    clear hE e2 e7 e19 e219
    refine then_n ?_
    refine wp_ret ?_
    refine then_r ?_
    refine block_r ?_
    refine then_r ?_
    replace O := OwnT.drop3 O
    refine ret_F1 rfl k e8 ?_
    exact ⟨rfl, S, L, M, hM.mono (by omega), O⟩
  | true =>
    refine wp_seq ?_
    refine wp_region_lit ?_   -- region 37
    have hE := Env.refl a18 [214, 215, 216, 217, 19]
    apply sq_det 214 hE k rfl (by rfl) (by rfl) rfl
    case h =>   -- 0: t214 := Op.move (tmp 1)
      exact x_move rfl (hE.eval 1 (by rfl) e1)
    intro a30 hE e214 kp
    apply sq_det 215 hE k rfl (by rfl) (by rfl) rfl
    case h =>   -- 1: t215 := Op.fieldAddr 74 (tmp 7) 4
      simp [go_sem, BigFrame.eval_const, BigFrame.eval_global, BigFrame.eval_func, ↓IntWalk.iteOmega, ev (hE.eval 7 (by rfl) e7)]
      with_reducible rfl
    intro a31 hE e215 kp
    replace e214 := (kp 214 rfl).trans e214
    apply sq_det 216 hE k rfl (by rfl) (by rfl) rfl
    case h =>   -- 2: t216 := Op.load 9 (tmp 215)
      have q0 : w3.cell? ⟨xb, 4, none⟩ = some (.string (sB q)) := (OwnT.blk O 2 rfl).cell 4
      simp [go_sem, BigFrame.eval_const, BigFrame.eval_global, BigFrame.eval_func, ↓IntWalk.iteOmega, ev e215, q0]
      with_reducible rfl
    intro a32 hE e216 kp
    replace e214 := (kp 214 rfl).trans e214
    apply sq_call 217 hE k rfl (by rfl) (by rfl) rfl
    case h =>   -- (*tierce/disc.Disc).Settle
      simp [go_sem, BigFrame.eval_const, BigFrame.eval_global, BigFrame.eval_func, ↓IntWalk.iteOmega, ev e214, ev e216]
      with_reducible exact ⟨rfl, rfl⟩
    case hc => exact dsettle_off q _ O hq ha
    clear O
    rintro e w34 ⟨rfl, O⟩
    refine ⟨_, rfl, ?_⟩
    intro a33 hE e217 kp
    apply sq_det 19 hE k rfl (by rfl) (by rfl) rfl
    case h =>   -- 4: t19 := Op.assign (tmp 217)
      exact x_assign rfl e217
    intro a35 hE e19 kp
    refine wpList_nil ?_
    replace e0 := hE.eval 0 (by rfl) e0
    replace e2 := hE.eval 2 (by rfl) e2
    replace e7 := hE.eval 7 (by rfl) e7
    replace k := k.env hE
    clear hE e1 e21 e212
    refine then_n ?_
    refine wp_seq ?_
    refine wp_seq ?_
    refine wp_region_lit ?_   -- region 38
    have hE := Env.refl a35 [218, 219]
    apply sq_det 218 hE k rfl (by rfl) (by rfl) rfl
    case h =>   -- 0: t218 := Op.move (tmp 0)
      exact x_move rfl (hE.eval 0 (by rfl) e0)
    intro a36 hE e218 kp
    apply sq_call 219 hE k rfl (by rfl) (by rfl) rfl
    case h =>   -- (*tierce/mains.Mains).On
      simp [go_sem, BigFrame.eval_const, BigFrame.eval_global, BigFrame.eval_func, ↓IntWalk.iteOmega, ev e218]
      with_reducible exact ⟨rfl, rfl⟩
    case hc => exact on_mn (OwnT.get O 1 rfl)
    rintro e _ ⟨rfl, rfl⟩
    refine ⟨_, congrArg (fun b => Ending.returned (.bool !b)) ha, ?_⟩
    intro a37 hE e219 kp
    refine wpList_nil ?_
    replace e2 := hE.eval 2 (by rfl) e2
    replace e7 := hE.eval 7 (by rfl) e7
    replace e19 := hE.eval 19 (by rfl) e19
    replace k := k.env hE
    clear hE e0
    refine then_n ?_
    refine cond_f e219 rfl ?_
    refine wp_skip ?_
    refine then_n ?_
    replace O := OwnT.rot34 O
    replace O : OwnT _ _ ((tBlk ub 80 #[.slice B1 n c1, .slice B2 n c2, .slice B3 n c3]) :: (tRow 9 1 (.slice B1 n c1) n (strsV (nowL S L))) :: (tRow 9 1 (.slice B2 n c2) n (strsV S)) :: (tRow 4 1 (.slice B3 n c3) n (boolsV (isL n L))) :: (tDisc p mb B n cap bm (seS q L S n) (fun _ => none)) :: (tMn mb M) :: (tBlk xb 74 #[.int .i64 6, .int .i64 x, .int .i64 N, .int .u8 ↑b.toNat, .string (sB q)]) :: R) w34 := O
    refine wp_seq ?_
    refine wp_region_lit ?_   -- region 40
    have hE := Env.refl a37 [222, 223, 224, 225]
    apply sq_det 222 hE k rfl (by rfl) (by rfl) rfl
    case h =>   -- 0: t222 := Op.move (tmp 2)
      exact x_move rfl (hE.eval 2 (by rfl) e2)
    intro a38 hE e222 kp
    apply sq_det 223 hE k rfl (by rfl) (by rfl) rfl
    case h =>   -- 1: t223 := Op.fieldAddr 74 (tmp 7) 4
      simp [go_sem, BigFrame.eval_const, BigFrame.eval_global, BigFrame.eval_func, ↓IntWalk.iteOmega, ev (hE.eval 7 (by rfl) e7)]
      with_reducible rfl
    intro a39 hE e223 kp
    replace e222 := (kp 222 rfl).trans e222
    apply sq_det 224 hE k rfl (by rfl) (by rfl) rfl
    case h =>   -- 2: t224 := Op.load 9 (tmp 223)
      have q0 : w34.cell? ⟨xb, 4, none⟩ = some (.string (sB q)) := (OwnT.blk O 6 rfl).cell 4
      simp [go_sem, BigFrame.eval_const, BigFrame.eval_global, BigFrame.eval_func, ↓IntWalk.iteOmega, ev e223, q0]
      with_reducible rfl
    intro a40 hE e224 kp
    replace e222 := (kp 222 rfl).trans e222
    apply sq_call 225 hE k rfl (by rfl) (by rfl) rfl
    case h =>   -- (*tierce/tierceref04.Disc).Settle
      simp [go_sem, BigFrame.eval_const, BigFrame.eval_global, BigFrame.eval_func, ↓IntWalk.iteOmega, ev e222, ev e224]
      with_reducible exact ⟨rfl, rfl⟩
    case hc => exact rsettle4_any q S L _ O hSn hnl hq
    clear O
    rintro e w42 ⟨rfl, O⟩
    refine ⟨_, rfl, ?_⟩
    intro a41 hE e225 kp
    refine wpList_nil ?_
    replace e19 := hE.eval 19 (by rfl) e19
    replace k := k.env hE
    clear hE e2 e7 e219 e225
    refine then_n ?_
    replace O := OwnT.rot43 O
    replace O : OwnT _ _ ((tDisc p mb B n cap bm (seS q L S n) (fun _ => none)) :: (tMn mb M) :: (tBlk xb 74 #[.int .i64 6, .int .i64 x, .int .i64 N, .int .u8 ↑b.toNat, .string (sB q)]) :: (tBlk ub 80 #[.slice B1 n c1, .slice B2 n c2, .slice B3 n c3]) :: (tRow 9 1 (.slice B1 n c1) n (strsV (seS q L S n))) :: (tRow 9 1 (.slice B2 n c2) n (strsV (seS q L S n))) :: (tRow 4 1 (.slice B3 n c3) n (boolsV (List.replicate n false))) :: R) w42 := O
    have hO2 : OwnT H A0 ((tDisc p mb B n cap bm (seS q L S n) (fun _ => none)) :: (tMn mb M) :: (tBlk xb 74 #[.int .i64 6, .int .i64 x, .int .i64 N, .int .u8 ↑b.toNat, .string (sB q)]) :: (tBlk ub 80 #[.slice B1 n c1, .slice B2 n c2, .slice B3 n c3]) :: (tRow 9 1 (.slice B1 n c1) n (strsV (nowL (seS q L S n) (fun _ => none)))) :: (tRow 9 1 (.slice B2 n c2) n (strsV (seS q L S n))) :: (tRow 4 1 (.slice B3 n c3) n (boolsV (isL n (fun _ => none)))) :: R) w42 := by rw [nowL_none, isL_none]; exact O
    clear O
    have O := hO2
    clear hO2
    refine wp_seq ?_
    refine wp_region_lit ?_   -- region 41
    have hE := Env.refl a41 [226, 227, 8]
    apply sq_det 226 hE k rfl (by rfl) (by rfl) rfl
    case h =>   -- 0: t226 := Op.move (tmp 19)
      exact x_move rfl (hE.eval 19 (by rfl) e19)
    intro a43 hE e226 kp
    apply sq_det 227 hE k rfl (by rfl) (by rfl) rfl
    case h =>   -- 1: t227 := Op.binOp BinOp.eql 36 (tmp 226) (const (Value.int IntKind.i64 0)) 36
      exact x_eql rfl e226 rfl
    intro a44 hE e227 kp
    apply sq_det 8 hE k rfl (by rfl) (by rfl) rfl
    case h =>   -- 2: t8 := Op.assign (tmp 227)
      exact x_assign rfl e227
    intro a45 hE e8 kp
    refine wpList_nil ?_
    replace k := k.env hE
    clear hE e19
    refine then_n ?_
    refine wp_ret ?_
    refine block_r ?_
    refine then_r ?_
    replace O := OwnT.drop3 O
    refine ret_F1 rfl k e8 ?_
    exact ⟨rfl, seS q L S n, fun _ => none, M, hM.mono (by omega), O⟩
theorem do_any {H : Nat} {A0 : World} {R : List Thing} {p mb ub n cap bm c1 c2 c3 : Nat} {B B1 B2 B3 : Option Addr} {S : List Sec} {L : Int → Option Sec} {M : Mn} {c : Int} {K x N : Int} {b : UInt8} {q : List UInt8} (w : World) (O : OwnT H A0 ((tDisc p mb B n cap bm S L) :: (tMn mb M) :: (tBlk ub 80 #[.slice B1 n c1, .slice B2 n c2, .slice B3 n c3]) :: (tRow 9 1 (.slice B1 n c1) n (strsV (nowL S L))) :: (tRow 9 1 (.slice B2 n c2) n (strsV S)) :: (tRow 4 1 (.slice B3 n c3) n (boolsV (isL n L))) :: R) w) (hM : M.Ok c) (hc : c ≤ 1000000) (hc1 : n ≤ c1) (hq : q.length ≤ 1000000) : Calls Try.prog 45 #[.pointer (some ⟨mb, 0, none⟩), .pointer (some ⟨p, 0, none⟩), .pointer (some ⟨ub, 0, none⟩), .agg #[.int .i64 K, .int .i64 x, .int .i64 N, .int .u8 (b.toNat : Int), .string (sB q)]] w fun e w' => e = .returned (.bool true) ∧ ∃ S' L' M', M'.Ok (c + 20) ∧ OwnT H A0 ((tDisc p mb B n cap bm S' L') :: (tMn mb M') :: (tBlk ub 80 #[.slice B1 n c1, .slice B2 n c2, .slice B3 n c3]) :: (tRow 9 1 (.slice B1 n c1) n (strsV (nowL S' L'))) :: (tRow 9 1 (.slice B2 n c2) n (strsV S')) :: (tRow 4 1 (.slice B3 n c3) n (boolsV (isL n L'))) :: R) w' := by
  by_cases k1 : K = 1
  · subst k1; exact do_write1 w O hM hc hc1
  by_cases k2 : K = 2
  · subst k2; exact do_write2 w O hM hc hc1
  by_cases k3 : K = 3
  · subst k3; exact do_read w O hM hc hc1
  by_cases k4 : K = 4
  · subst k4; exact do_flush w O hM hc hc1
  by_cases k5 : K = 5
  · subst k5; exact do_cut w O hM hc hc1
  by_cases k6 : K = 6
  · subst k6; exact do_settle w O hM hc hc1 hq
  by_cases k7 : K = 7
  · subst k7; exact do_come w O hM hc hc1
  exact do_fuse w O hM hc hc1 k1 k2 k3 k4 k5 k6 k7
end Go.Proofs.Ytdpohbaeopidmaa
