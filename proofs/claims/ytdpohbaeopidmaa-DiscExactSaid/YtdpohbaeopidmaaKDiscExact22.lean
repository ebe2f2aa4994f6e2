/- disc's law: DiscExact (printed by XDiscEx.gen.py). -/
import Derived.Test.YtdpohbaeopidmaaKDiscExact21
namespace Go.Proofs.Ytdpohbaeopidmaa
set_option linter.unusedVariables false
set_option linter.unusedSimpArgs false
open Go.RowKit Go.Maps

abbrev ActD := Int × Int × Int × UInt8 × List UInt8
def act4C (x : ActD) : List Value := [.int .i64 x.1, .int .i64 x.2.1, .int .i64 x.2.2.1, .int .u8 (x.2.2.2.1.toNat : Int), .string (sB x.2.2.2.2)]
theorem cells_act4 : Try.prog.cellsOf 74 = 5 := by kernel_rfl
theorem cells_i4 : Try.prog.cellsOf 3 = 1 := by kernel_rfl
theorem cells_b4 : Try.prog.cellsOf 5 = 1 := by kernel_rfl
theorem cells_s4 : Try.prog.cellsOf 9 = 1 := by kernel_rfl
theorem arg_acts4 {w : World} {v : Value} (h : Arg Try.prog w 69 v) :
    ∃ A len cap, ∃ xs : List ActD, v = .slice A len cap ∧ len ≤ cap ∧ cap ≤ maxLen ∧ xs.length = len ∧ (∀ x ∈ xs, True) ∧ Row w A 5 act4C xs :=
  fit_row act4C (fun _ => True) Try.underlying69 cells_act4 (by decide) (fun cs _ hf => by
    obtain ⟨hl, hx⟩ := fit_fields 5 Try.underlying74 cells_act4 hf
    obtain ⟨a, e0, _⟩ := cell_int Try.underlying3 (hx 0 0 3 1 rfl cells_i4)
    obtain ⟨b, e1, _⟩ := cell_int Try.underlying3 (hx 1 1 3 1 rfl cells_i4)
    obtain ⟨c, e2, _⟩ := cell_int Try.underlying3 (hx 2 2 3 1 rfl cells_i4)
    obtain ⟨d, e3, w3⟩ := cell_int Try.underlying5 (hx 3 3 5 1 rfl cells_b4)
    obtain ⟨s, e4, _⟩ := cell_string Try.underlying9 (hx 4 4 9 1 rfl cells_s4)
    have hd := bounds_u8 w3
    refine ⟨(a, b, c, UInt8.ofNat d.toNat, s.data.toList), ?_, trivial⟩
    match cs, hl with
    | [u0, u1, u2, u3, u4], _ =>
      simp at e0 e1 e2 e3 e4
      subst e0 e1 e2 e3 e4
      have e : ((UInt8.ofNat d.toNat).toNat : Int) = d := by simp; omega
      simp only [act4C, e, sB_of]) (arg_slice Try.underlying69 h)
theorem row_cap {w : World} {T : TypeId} {k n cap : Nat} {B : Option Addr} {xs : List Value} (h : w.ownsRow 0 T k (.slice B n cap) n xs) : n ≤ cap := by
  rcases h.2 with ⟨h1, h2⟩ | ⟨g, cap', cur, h1, _, _, h3, _⟩
  · omega
  · cases h1; exact h3

set_option maxRecDepth 100000 in
set_option maxHeartbeats 4000000 in
theorem discExact_core (l : List UInt8) (A : Option Addr) (len capA : Nat) (xs : List ActD) (W0 : World) (hlen : xs.length = len) (hrow : Row W0 A 5 act4C xs) : Calls Try.prog 8 #[.string (sB l), .slice A len capA] W0 fun e w' => e = .returned (.bool true) ∧ Below W0.heap.size W0 w' := by
  have O := OwnT.start W0
  refine calls_F Try.func8 rfl 93 rfl (by rfl) ?_
  intro a1 k hargs
  have e0 : a1.eval (.tmp 0) = .string (sB l) := hargs 0 _ rfl
  have e1 : a1.eval (.tmp 1) = .slice A len capA := hargs 1 _ rfl
  clear hargs
  refine wp_seq ?_
  refine wp_region_lit ?_   -- region 0
  have hE := Env.refl a1 [4]
  apply sq_det 4 hE k rfl (by rfl) (by rfl) rfl
  case h =>   -- 0: t4 := Op.assign (const (Value.bool false))
    exact x_assign rfl rfl
  intro a2 hE e4 kp
  refine wpList_nil ?_
  replace e0 := hE.eval 0 (by rfl) e0
  replace e1 := hE.eval 1 (by rfl) e1
  replace k := k.env hE
  clear hE e4
  refine then_n ?_
  refine wp_seq ?_
  refine wp_seq ?_
  refine wp_region_lit ?_   -- region 1
  have hE := Env.refl a2 [12, 13]
  apply sq_call 12 hE k rfl (by rfl) (by rfl) rfl
  case h =>   -- tierce/tiercelaw04.awake
    simp [go_sem, BigFrame.eval_const, BigFrame.eval_global, BigFrame.eval_func, ↓IntWalk.iteOmega]
    with_reducible exact ⟨rfl, rfl⟩
  case hc => exact awake4 _
  rintro e w4 ⟨rfl, R⟩
  replace O := OwnT.ext O R
  refine ⟨_, rfl, ?_⟩
  intro a3 hE e12 kp
  apply sq_det 13 hE k rfl (by rfl) (by rfl) rfl
  case h =>   -- 1: t13 := Op.unOp UnOp.not 4 (tmp 12)
    exact x_not rfl e12
  intro a5 hE e13 kp
  refine wpList_nil ?_
  replace e0 := hE.eval 0 (by rfl) e0
  replace e1 := hE.eval 1 (by rfl) e1
  replace k := k.env hE
  clear hE
  refine then_n ?_
  refine cond_f e13 rfl ?_
  refine wp_skip ?_
  refine then_n ?_
  by_cases hl : l.length ≤ 320
  rotate_left
  · skip
    refine wp_seq ?_
    refine wp_seq ?_
    refine wp_region_lit ?_   -- region 3
    have hE := Env.refl a5 [14, 15, 16]
    apply sq_det 14 hE k rfl (by rfl) (by rfl) rfl
    case h =>   -- 0: t14 := Op.move (tmp 0)
      exact x_move rfl (hE.eval 0 (by rfl) e0)
    intro a6 hE e14 kp
    apply sq_det 15 hE k rfl (by rfl) (by rfl) rfl
    case h =>   -- 1: t15 := Op.call {callee := Callee.builtin Builtin.len, args := #[tmp 14], argT
      exact x_len_l Try.underlying9 rfl e14
    intro a7 hE e15 kp
    apply sq_det 16 hE k rfl (by rfl) (by rfl) rfl
    case h =>   -- 2: t16 := Op.binOp BinOp.gtr 3 (tmp 15) (const (Value.int IntKind.i64 320)) 3
      exact x_dec (x_gtr rfl e15 rfl) (decide_eq_true (by omega))
    intro a8 hE e16 kp
    refine wpList_nil ?_
    replace e0 := hE.eval 0 (by rfl) e0
    replace e1 := hE.eval 1 (by rfl) e1
    replace k := k.env hE
    clear hE e13
    refine then_n ?_
    refine cond_t e16 rfl ?_
    refine wp_seq ?_
    refine wp_region_lit ?_   -- region 4
    have hE := Env.refl a8 [4]
    apply sq_det 4 hE k rfl (by rfl) (by rfl) rfl
    case h =>   -- 0: t4 := Op.assign (const (Value.bool true))
      exact x_assign rfl rfl
    intro a9 hE e4 kp
    refine wpList_nil ?_
    replace k := k.env hE
    clear hE e0 e1 e16
    refine then_n ?_
    refine wp_ret ?_
    refine then_r ?_
    refine ret_F1 rfl k e4 ?_
    exact ⟨rfl, O.below⟩
  obtain ⟨n, hn⟩ : ∃ n, l.length / 16 = n := ⟨_, rfl⟩
  have hn20 : n ≤ 20 := by omega
  have hn16 : n ≤ 16384 := by omega
  refine wp_seq ?_
  refine wp_seq ?_
  refine wp_region_lit ?_   -- region 3
  have hE := Env.refl a5 [14, 15, 16]
  apply sq_det 14 hE k rfl (by rfl) (by rfl) rfl
  case h =>   -- 0: t14 := Op.move (tmp 0)
    exact x_move rfl (hE.eval 0 (by rfl) e0)
  intro a10 hE e14 kp
  apply sq_det 15 hE k rfl (by rfl) (by rfl) rfl
  case h =>   -- 1: t15 := Op.call {callee := Callee.builtin Builtin.len, args := #[tmp 14], argT
    exact x_len_l Try.underlying9 rfl e14
  intro a11 hE e15 kp
  apply sq_det 16 hE k rfl (by rfl) (by rfl) rfl
  case h =>   -- 2: t16 := Op.binOp BinOp.gtr 3 (tmp 15) (const (Value.int IntKind.i64 320)) 3
    exact x_dec (x_gtr rfl e15 rfl) (decide_eq_false (by omega))
  intro a12 hE e16 kp
  refine wpList_nil ?_
  replace e0 := hE.eval 0 (by rfl) e0
  replace e1 := hE.eval 1 (by rfl) e1
  replace k := k.env hE
  clear hE e13
  refine then_n ?_
  refine cond_f e16 rfl ?_
  refine wp_skip ?_
  refine then_n ?_
  refine wp_seq ?_
  refine wp_region_lit ?_   -- region 5
  have hE := Env.refl a12 [17, 5]
  apply sq_call 17 hE k rfl (by rfl) (by rfl) rfl
  case h =>   -- tierce/mains.New
    simp [go_sem, BigFrame.eval_const, BigFrame.eval_global, BigFrame.eval_func, ↓IntWalk.iteOmega]
    with_reducible exact ⟨rfl, rfl⟩
  case hc => exact new_mn O
  clear O
  rintro e w14 ⟨mb, rfl, O⟩
  refine ⟨_, rfl, ?_⟩
  intro a13 hE e17 kp
  apply sq_det 5 hE k rfl (by rfl) (by rfl) rfl
  case h =>   -- 1: t5 := Op.assign (tmp 17)
    exact x_assign rfl e17
  intro a15 hE e5 kp
  refine wpList_nil ?_
  replace e0 := hE.eval 0 (by rfl) e0
  replace e1 := hE.eval 1 (by rfl) e1
  replace k := k.env hE
  clear hE e16
  refine then_n ?_
  refine wp_seq ?_
  refine wp_region_lit ?_   -- region 6
  have hE := Env.refl a15 [18, 19, 20, 6]
  apply sq_det 18 hE k rfl (by rfl) (by rfl) rfl
  case h =>   -- 0: t18 := Op.move (tmp 5)
    exact x_move rfl (hE.eval 5 (by rfl) e5)
  intro a16 hE e18 kp
  apply sq_det 19 hE k rfl (by rfl) (by rfl) rfl
  case h =>   -- 1: t19 := Op.move (tmp 0)
    exact x_move rfl (hE.eval 0 (by rfl) e0)
  intro a17 hE e19 kp
  replace e18 := (kp 18 rfl).trans e18
  apply sq_call 20 hE k rfl (by rfl) (by rfl) rfl
  case h =>   -- tierce/disc.Of
    simp [go_sem, BigFrame.eval_const, BigFrame.eval_global, BigFrame.eval_func, ↓IntWalk.iteOmega, ev e18, ev e19]
    with_reducible exact ⟨rfl, rfl⟩
  case hc => exact dof_any l _ O (by omega)
  clear O
  rintro e w19 ⟨p, B, cap, bm, rfl, O⟩
  rw [show min (l.length / 16) 16384 = n by omega] at O
  refine ⟨_, rfl, ?_⟩
  intro a18 hE e20 kp
  apply sq_det 6 hE k rfl (by rfl) (by rfl) rfl
  case h =>   -- 3: t6 := Op.assign (tmp 20)
    exact x_assign rfl e20
  intro a20 hE e6 kp
  refine wpList_nil ?_
  replace e0 := hE.eval 0 (by rfl) e0
  replace e1 := hE.eval 1 (by rfl) e1
  replace e5 := hE.eval 5 (by rfl) e5
  replace k := k.env hE
  clear hE
  refine then_n ?_
  refine wp_seq ?_
  refine wp_region_lit ?_   -- region 7
  have hE := Env.refl a20 [21, 22, 7]
  apply sq_det 21 hE k rfl (by rfl) (by rfl) rfl
  case h =>   -- 0: t21 := Op.move (tmp 0)
    exact x_move rfl (hE.eval 0 (by rfl) e0)
  intro a21 hE e21 kp
  apply sq_call 22 hE k rfl (by rfl) (by rfl) rfl
  case h =>   -- tierce/tierceref04.Of
    simp [go_sem, BigFrame.eval_const, BigFrame.eval_global, BigFrame.eval_func, ↓IntWalk.iteOmega, ev e21]
    with_reducible exact ⟨rfl, rfl⟩
  case hc => exact rof4_any l _ O (by omega)
  clear O
  rintro e w23 ⟨ub, B1, c1, B2, c2, B3, c3, rfl, O⟩
  rw [hn] at O
  refine ⟨_, rfl, ?_⟩
  intro a22 hE e22 kp
  apply sq_det 7 hE k rfl (by rfl) (by rfl) rfl
  case h =>   -- 2: t7 := Op.assign (tmp 22)
    exact x_assign rfl e22
  intro a24 hE e7 kp
  refine wpList_nil ?_
  replace e1 := hE.eval 1 (by rfl) e1
  replace e5 := hE.eval 5 (by rfl) e5
  replace e6 := hE.eval 6 (by rfl) e6
  replace k := k.env hE
  clear hE e0
  refine then_n ?_
  replace O : OwnT _ _ ([tDisc p mb B n cap bm (secsL l n) (fun _ => none), tMn mb mn0, tBlk ub 80 #[.slice B1 n c1, .slice B2 n c2, .slice B3 n c3], tRow 9 1 (.slice B1 n c1) n (strsV (secsL l n)), tRow 9 1 (.slice B2 n c2) n (strsV (secsL l n)), tRow 4 1 (.slice B3 n c3) n (boolsV (List.replicate n false))]) w23 := OwnT.pick O [4, 5, 0, 1, 2, 3] (by decide)
  have hO2 : OwnT W0.heap.size W0 ([tDisc p mb B n cap bm (secsL l n) (fun _ => none), tMn mb mn0, tBlk ub 80 #[.slice B1 n c1, .slice B2 n c2, .slice B3 n c3], tRow 9 1 (.slice B1 n c1) n (strsV (nowL (secsL l n) (fun _ => none))), tRow 9 1 (.slice B2 n c2) n (strsV (secsL l n)), tRow 4 1 (.slice B3 n c3) n (boolsV (isL n (fun _ => none)))]) w23 := by rw [nowL_none, isL_none]; exact O
  clear O
  have O := hO2
  clear hO2
  have hc1 := row_cap (OwnT.get O 3 rfl : World.ownsRow _ 0 9 1 (.slice B1 n c1) n _)
  refine wp_seq ?_
  refine wp_seq ?_
  refine wp_region_lit ?_   -- region 8
  have hE := Env.refl a24 [8]
  apply sq_det 8 hE k rfl (by rfl) (by rfl) rfl
  case h =>   -- 0: t8 := Op.assign (const (Value.int IntKind.i64 0))
    exact x_assign rfl rfl
  intro a25 hE e8 kp
  refine wpList_nil ?_
  replace e1 := hE.eval 1 (by rfl) e1
  replace e5 := hE.eval 5 (by rfl) e5
  replace e6 := hE.eval 6 (by rfl) e6
  replace e7 := hE.eval 7 (by rfl) e7
  replace k := k.env hE
  clear hE
  refine then_n ?_
  refine wp_block ?_
  refine wp_loop (fun a w => Fr 93 a ∧ a.eval (.tmp 1) = .slice A len capA ∧ a.eval (.tmp 5) = .pointer (some ⟨mb, 0, none⟩) ∧ a.eval (.tmp 6) = .pointer (some ⟨p, 0, none⟩) ∧ a.eval (.tmp 7) = .pointer (some ⟨ub, 0, none⟩) ∧ ∃ (i : Nat) (S : List Sec) (L : Int → Option Sec) (M : Mn), a.eval (.tmp 8) = .int .i64 ↑i ∧ i ≤ len ∧ i ≤ 60 ∧ M.Ok (2 + 20 * (i : Int)) ∧ OwnT W0.heap.size W0 [tDisc p mb B n cap bm S L, tMn mb M, tBlk ub 80 #[.slice B1 n c1, .slice B2 n c2, .slice B3 n c3], tRow 9 1 (.slice B1 n c1) n (strsV (nowL S L)), tRow 9 1 (.slice B2 n c2) n (strsV S), tRow 4 1 (.slice B3 n c3) n (boolsV (isL n L))] w) (fun a w => len - (intOf (a.eval (.tmp 8))).toNat) ?_ ?_
  · exact ⟨k, e1, e5, e6, e7, 0, _, _, _, e8, Nat.zero_le _, Nat.zero_le _, mn0_ok.mono (by omega), O⟩
  intro a26 w27 hI
  clear k e1 e5 e6 e7
  obtain ⟨k, e1, e5, e6, e7, h_⟩ := hI
  clear O e8
  obtain ⟨i, S, L, M, e8, hi, hi60, hM, O⟩ := h_
  have mi := e8
  by_cases hlt : i < len
  rotate_left
  · skip
    refine wp_seq ?_
    refine wp_seq ?_
    refine wp_region_lit ?_   -- region 9
    have hE := Env.refl a26 [23, 24, 25, 26, 27, 28, 29, 30]
    apply sq_det 23 hE k rfl (by rfl) (by rfl) rfl
    case h =>   -- 0: t23 := Op.move (tmp 8)
      exact x_move rfl (hE.eval 8 (by rfl) e8)
    intro a28 hE e23 kp
    apply sq_det 24 hE k rfl (by rfl) (by rfl) rfl
    case h =>   -- 1: t24 := Op.move (tmp 1)
      exact x_move rfl (hE.eval 1 (by rfl) e1)
    intro a29 hE e24 kp
    replace e23 := (kp 23 rfl).trans e23
    apply sq_det 25 hE k rfl (by rfl) (by rfl) rfl
    case h =>   -- 2: t25 := Op.call {callee := Callee.builtin Builtin.len, args := #[tmp 24], argT
      exact x_len Try.underlying69 rfl e24
    intro a30 hE e25 kp
    replace e23 := (kp 23 rfl).trans e23
    apply sq_det 26 hE k rfl (by rfl) (by rfl) rfl
    case h =>   -- 3: t26 := Op.binOp BinOp.lss 3 (tmp 23) (tmp 25) 3
      exact x_dec (x_lss rfl e23 e25) (decide_eq_false (by omega))
    intro a31 hE e26 kp
    apply sq_det 27 hE k rfl (by rfl) (by rfl) rfl
    case h =>   -- 4: t27 := Op.move (tmp 26)
      exact x_move rfl e26
    intro a32 hE e27 kp
    refine sq_skipg 28 hE k rfl (by rfl) (by rfl) rfl rfl (.inl e27) ?_
    intro a33 hE e28 kp
    replace e27 := (kp 27 rfl).trans e27
    refine sq_skipg 29 hE k rfl (by rfl) (by rfl) rfl rfl (.inl e27) ?_
    intro a34 hE e29 kp
    replace e27 := (kp 27 rfl).trans e27
    apply sq_det 30 hE k rfl (by rfl) (by rfl) rfl
    case h =>   -- 7: t30 := Op.pick (tmp 27) (tmp 29) (const (Value.bool false))
      exact x_pick_f rfl e27 rfl
    intro a35 hE e30 kp
    refine wpList_nil ?_
    replace e1 := hE.eval 1 (by rfl) e1
    replace e5 := hE.eval 5 (by rfl) e5
    replace e6 := hE.eval 6 (by rfl) e6
    replace e7 := hE.eval 7 (by rfl) e7
    replace e8 := hE.eval 8 (by rfl) e8
    replace k := k.env hE
    clear hE
    refine then_n ?_
    refine cond_f e30 rfl ?_
    refine wp_exit ?_
    refine then_x ?_
    refine then_x ?_
    refine block_x ?_
    refine then_n ?_
    refine wp_seq ?_
    refine wp_region_lit ?_   -- region 24
    have hE := Env.refl a35 [4]
    apply sq_det 4 hE k rfl (by rfl) (by rfl) rfl
    case h =>   -- 0: t4 := Op.assign (const (Value.bool true))
      exact x_assign rfl rfl
    intro a36 hE e4 kp
    refine wpList_nil ?_
    replace k := k.env hE
    clear hE e1 e5 e6 e7 e8 e30
    refine then_n ?_
    refine wp_ret ?_
    refine ret_F1 rfl k e4 ?_
    exact ⟨rfl, O.below⟩
  by_cases h60 : i < 60
  rotate_left
  · skip
    refine wp_seq ?_
    refine wp_seq ?_
    refine wp_region_lit ?_   -- region 9
    have hE := Env.refl a26 [23, 24, 25, 26, 27, 28, 29, 30]
    apply sq_det 23 hE k rfl (by rfl) (by rfl) rfl
    case h =>   -- 0: t23 := Op.move (tmp 8)
      exact x_move rfl (hE.eval 8 (by rfl) e8)
    intro a37 hE e23 kp
    apply sq_det 24 hE k rfl (by rfl) (by rfl) rfl
    case h =>   -- 1: t24 := Op.move (tmp 1)
      exact x_move rfl (hE.eval 1 (by rfl) e1)
    intro a38 hE e24 kp
    replace e23 := (kp 23 rfl).trans e23
    apply sq_det 25 hE k rfl (by rfl) (by rfl) rfl
    case h =>   -- 2: t25 := Op.call {callee := Callee.builtin Builtin.len, args := #[tmp 24], argT
      exact x_len Try.underlying69 rfl e24
    intro a39 hE e25 kp
    replace e23 := (kp 23 rfl).trans e23
    apply sq_det 26 hE k rfl (by rfl) (by rfl) rfl
    case h =>   -- 3: t26 := Op.binOp BinOp.lss 3 (tmp 23) (tmp 25) 3
      exact x_dec (x_lss rfl e23 e25) (decide_eq_true (by omega))
    intro a40 hE e26 kp
    apply sq_det 27 hE k rfl (by rfl) (by rfl) rfl
    case h =>   -- 4: t27 := Op.move (tmp 26)
      exact x_move rfl e26
    intro a41 hE e27 kp
    apply sq_detg 28 hE k rfl (by rfl) (by rfl) rfl rfl e27
    case h =>   -- 5: t28 := Op.move (tmp 8)
      exact x_move rfl (hE.eval 8 (by rfl) e8)
    intro a42 hE e28 kp
    replace e27 := (kp 27 rfl).trans e27
    apply sq_detg 29 hE k rfl (by rfl) (by rfl) rfl rfl e27
    case h =>   -- 6: t29 := Op.binOp BinOp.lss 3 (tmp 28) (const (Value.int IntKind.i64 60)) 3
      exact x_dec (x_lss rfl e28 rfl) (decide_eq_false (by omega))
    intro a43 hE e29 kp
    replace e27 := (kp 27 rfl).trans e27
    apply sq_det 30 hE k rfl (by rfl) (by rfl) rfl
    case h =>   -- 7: t30 := Op.pick (tmp 27) (tmp 29) (const (Value.bool false))
      exact x_pick_t rfl e27 e29
    intro a44 hE e30 kp
    refine wpList_nil ?_
    replace e1 := hE.eval 1 (by rfl) e1
    replace e5 := hE.eval 5 (by rfl) e5
    replace e6 := hE.eval 6 (by rfl) e6
    replace e7 := hE.eval 7 (by rfl) e7
    replace e8 := hE.eval 8 (by rfl) e8
    replace k := k.env hE
    clear hE
    refine then_n ?_
    refine cond_f e30 rfl ?_
    refine wp_exit ?_
    refine then_x ?_
    refine then_x ?_
    refine block_x ?_
    refine then_n ?_
    refine wp_seq ?_
    refine wp_region_lit ?_   -- region 24
    have hE := Env.refl a44 [4]
    apply sq_det 4 hE k rfl (by rfl) (by rfl) rfl
    case h =>   -- 0: t4 := Op.assign (const (Value.bool true))
      exact x_assign rfl rfl
    intro a45 hE e4 kp
    refine wpList_nil ?_
    replace k := k.env hE
    clear hE e1 e5 e6 e7 e8 e30
    refine then_n ?_
    refine wp_ret ?_
    refine ret_F1 rfl k e4 ?_
    exact ⟨rfl, O.below⟩
  obtain ⟨b, off, rfl, -, hc⟩ := hrow.in_ O.below (i := i) (by omega)
  generalize xs[i]'(by omega) = x at hc
  obtain ⟨K, x, N, bb, q⟩ := x
  have c0 : w27.cell? ⟨b, off + i * 5 + 0, none⟩ = some (.int .i64 K) := hc 0 _ rfl
  have c1' : w27.cell? ⟨b, off + i * 5 + 1, none⟩ = some (.int .i64 x) := hc 1 _ rfl
  have c2' : w27.cell? ⟨b, off + i * 5 + 2, none⟩ = some (.int .i64 N) := hc 2 _ rfl
  have c3' : w27.cell? ⟨b, off + i * 5 + 3, none⟩ = some (.int .u8 (bb.toNat : Int)) := hc 3 _ rfl
  have c4 : w27.cell? ⟨b, off + i * 5 + 4, none⟩ = some (.string (sB q)) := hc 4 _ rfl
  rw [Nat.add_zero] at c0
  clear hc
  have hiI : (i : Int) < (len : Int) := by omega
  
  by_cases hq : q.length ≤ 10
  rotate_left
  · skip
    refine wp_seq ?_
    refine wp_seq ?_
    refine wp_region_lit ?_   -- region 9
    have hE := Env.refl a26 [23, 24, 25, 26, 27, 28, 29, 30]
    apply sq_det 23 hE k rfl (by rfl) (by rfl) rfl
    case h =>   -- 0: t23 := Op.move (tmp 8)
      exact x_move rfl (hE.eval 8 (by rfl) e8)
    intro a46 hE e23 kp
    apply sq_det 24 hE k rfl (by rfl) (by rfl) rfl
    case h =>   -- 1: t24 := Op.move (tmp 1)
      exact x_move rfl (hE.eval 1 (by rfl) e1)
    intro a47 hE e24 kp
    replace e23 := (kp 23 rfl).trans e23
    apply sq_det 25 hE k rfl (by rfl) (by rfl) rfl
    case h =>   -- 2: t25 := Op.call {callee := Callee.builtin Builtin.len, args := #[tmp 24], argT
      exact x_len Try.underlying69 rfl e24
    intro a48 hE e25 kp
    replace e23 := (kp 23 rfl).trans e23
    apply sq_det 26 hE k rfl (by rfl) (by rfl) rfl
    case h =>   -- 3: t26 := Op.binOp BinOp.lss 3 (tmp 23) (tmp 25) 3
      exact x_dec (x_lss rfl e23 e25) (decide_eq_true (by omega))
    intro a49 hE e26 kp
    apply sq_det 27 hE k rfl (by rfl) (by rfl) rfl
    case h =>   -- 4: t27 := Op.move (tmp 26)
      exact x_move rfl e26
    intro a50 hE e27 kp
    apply sq_detg 28 hE k rfl (by rfl) (by rfl) rfl rfl e27
    case h =>   -- 5: t28 := Op.move (tmp 8)
      exact x_move rfl (hE.eval 8 (by rfl) e8)
    intro a51 hE e28 kp
    replace e27 := (kp 27 rfl).trans e27
    apply sq_detg 29 hE k rfl (by rfl) (by rfl) rfl rfl e27
    case h =>   -- 6: t29 := Op.binOp BinOp.lss 3 (tmp 28) (const (Value.int IntKind.i64 60)) 3
      exact x_dec (x_lss rfl e28 rfl) (decide_eq_true (by omega))
    intro a52 hE e29 kp
    replace e27 := (kp 27 rfl).trans e27
    apply sq_det 30 hE k rfl (by rfl) (by rfl) rfl
    case h =>   -- 7: t30 := Op.pick (tmp 27) (tmp 29) (const (Value.bool false))
      exact x_pick_t rfl e27 e29
    intro a53 hE e30 kp
    refine wpList_nil ?_
    replace e1 := hE.eval 1 (by rfl) e1
    replace e5 := hE.eval 5 (by rfl) e5
    replace e6 := hE.eval 6 (by rfl) e6
    replace e7 := hE.eval 7 (by rfl) e7
    replace e8 := hE.eval 8 (by rfl) e8
    replace k := k.env hE
    clear hE
    refine then_n ?_
    refine cond_t e30 rfl ?_
    refine wp_skip ?_
    refine then_n ?_
    refine wp_seq ?_
    refine wp_block ?_
    refine wp_seq ?_
    refine wp_seq ?_
    refine wp_region_lit ?_   -- region 11
    have hE := Env.refl a53 [33, 34, 35, 36, 37, 38, 39]
    apply sq_det 33 hE k rfl (by rfl) (by rfl) rfl
    case h =>   -- 0: t33 := Op.move (tmp 1)
      exact x_move rfl (hE.eval 1 (by rfl) e1)
    intro a54 hE e33 kp
    apply sq_det 34 hE k rfl (by rfl) (by rfl) rfl
    case h =>   -- 1: t34 := Op.move (tmp 8)
      exact x_move rfl (hE.eval 8 (by rfl) e8)
    intro a55 hE e34 kp
    replace e33 := (kp 33 rfl).trans e33
    apply sq_det 35 hE k rfl (by rfl) (by rfl) rfl
    case h =>   -- 2: t35 := Op.indexAddr 69 (tmp 33) (tmp 34)
      simp [go_sem, BigFrame.eval_const, BigFrame.eval_global, BigFrame.eval_func, ↓IntWalk.iteOmega, ev e33, ev e34]
      with_reducible rfl
    intro a56 hE e35 kp
    apply sq_det 36 hE k rfl (by rfl) (by rfl) rfl
    case h =>   -- 3: t36 := Op.fieldAddr 74 (tmp 35) 4
      simp [go_sem, BigFrame.eval_const, BigFrame.eval_global, BigFrame.eval_func, ↓IntWalk.iteOmega, ev e35]
      with_reducible rfl
    intro a57 hE e36 kp
    apply sq_det 37 hE k rfl (by rfl) (by rfl) rfl
    case h =>   -- 4: t37 := Op.load 9 (tmp 36)
      simp [go_sem, BigFrame.eval_const, BigFrame.eval_global, BigFrame.eval_func, ↓IntWalk.iteOmega, ev e36, c4]
      with_reducible rfl
    intro a58 hE e37 kp
    apply sq_det 38 hE k rfl (by rfl) (by rfl) rfl
    case h =>   -- 5: t38 := Op.call {callee := Callee.builtin Builtin.len, args := #[tmp 37], argT
      exact x_len_l Try.underlying9 rfl e37
    intro a59 hE e38 kp
    apply sq_det 39 hE k rfl (by rfl) (by rfl) rfl
    case h =>   -- 6: t39 := Op.binOp BinOp.gtr 3 (tmp 38) (const (Value.int IntKind.i64 10)) 3
      exact x_dec (x_gtr rfl e38 rfl) (decide_eq_true (by omega))
    intro a60 hE e39 kp
    refine wpList_nil ?_
    replace e1 := hE.eval 1 (by rfl) e1
    replace e5 := hE.eval 5 (by rfl) e5
    replace e6 := hE.eval 6 (by rfl) e6
    replace e7 := hE.eval 7 (by rfl) e7
    replace e8 := hE.eval 8 (by rfl) e8
    replace k := k.env hE
    clear hE e30
    refine then_n ?_
    refine cond_t e39 rfl ?_
    refine wp_seq ?_
    refine wp_region_lit ?_   -- region 12
    have hE := Env.refl a60 [4]
    apply sq_det 4 hE k rfl (by rfl) (by rfl) rfl
    case h =>   -- 0: t4 := Op.assign (const (Value.bool true))
      exact x_assign rfl rfl
    intro a61 hE e4 kp
    refine wpList_nil ?_
    replace k := k.env hE
    clear hE e1 e5 e6 e7 e8 e39
    refine then_n ?_
    refine wp_ret ?_
    refine then_r ?_
    refine block_r ?_
    refine then_r ?_
    refine then_r ?_
    refine block_r ?_
    refine then_r ?_
    refine ret_F1 rfl k e4 ?_
    exact ⟨rfl, O.below⟩
  refine wp_seq ?_
  refine wp_seq ?_
  refine wp_region_lit ?_   -- region 9
  have hE := Env.refl a26 [23, 24, 25, 26, 27, 28, 29, 30]
  apply sq_det 23 hE k rfl (by rfl) (by rfl) rfl
  case h =>   -- 0: t23 := Op.move (tmp 8)
    exact x_move rfl (hE.eval 8 (by rfl) e8)
  intro a62 hE e23 kp
  apply sq_det 24 hE k rfl (by rfl) (by rfl) rfl
  case h =>   -- 1: t24 := Op.move (tmp 1)
    exact x_move rfl (hE.eval 1 (by rfl) e1)
  intro a63 hE e24 kp
  replace e23 := (kp 23 rfl).trans e23
  apply sq_det 25 hE k rfl (by rfl) (by rfl) rfl
  case h =>   -- 2: t25 := Op.call {callee := Callee.builtin Builtin.len, args := #[tmp 24], argT
    exact x_len Try.underlying69 rfl e24
  intro a64 hE e25 kp
  replace e23 := (kp 23 rfl).trans e23
  apply sq_det 26 hE k rfl (by rfl) (by rfl) rfl
  case h =>   -- 3: t26 := Op.binOp BinOp.lss 3 (tmp 23) (tmp 25) 3
    exact x_dec (x_lss rfl e23 e25) (decide_eq_true (by omega))
  intro a65 hE e26 kp
  apply sq_det 27 hE k rfl (by rfl) (by rfl) rfl
  case h =>   -- 4: t27 := Op.move (tmp 26)
    exact x_move rfl e26
  intro a66 hE e27 kp
  apply sq_detg 28 hE k rfl (by rfl) (by rfl) rfl rfl e27
  case h =>   -- 5: t28 := Op.move (tmp 8)
    exact x_move rfl (hE.eval 8 (by rfl) e8)
  intro a67 hE e28 kp
  replace e27 := (kp 27 rfl).trans e27
  apply sq_detg 29 hE k rfl (by rfl) (by rfl) rfl rfl e27
  case h =>   -- 6: t29 := Op.binOp BinOp.lss 3 (tmp 28) (const (Value.int IntKind.i64 60)) 3
    exact x_dec (x_lss rfl e28 rfl) (decide_eq_true (by omega))
  intro a68 hE e29 kp
  replace e27 := (kp 27 rfl).trans e27
  apply sq_det 30 hE k rfl (by rfl) (by rfl) rfl
  case h =>   -- 7: t30 := Op.pick (tmp 27) (tmp 29) (const (Value.bool false))
    exact x_pick_t rfl e27 e29
  intro a69 hE e30 kp
  refine wpList_nil ?_
  replace e1 := hE.eval 1 (by rfl) e1
  replace e5 := hE.eval 5 (by rfl) e5
  replace e6 := hE.eval 6 (by rfl) e6
  replace e7 := hE.eval 7 (by rfl) e7
  replace e8 := hE.eval 8 (by rfl) e8
  replace k := k.env hE
  clear hE
  refine then_n ?_
  refine cond_t e30 rfl ?_
  refine wp_skip ?_
  refine then_n ?_
  refine wp_seq ?_
  refine wp_block ?_
  refine wp_seq ?_
  refine wp_seq ?_
  refine wp_region_lit ?_   -- region 11
  have hE := Env.refl a69 [33, 34, 35, 36, 37, 38, 39]
  apply sq_det 33 hE k rfl (by rfl) (by rfl) rfl
  case h =>   -- 0: t33 := Op.move (tmp 1)
    exact x_move rfl (hE.eval 1 (by rfl) e1)
  intro a70 hE e33 kp
  apply sq_det 34 hE k rfl (by rfl) (by rfl) rfl
  case h =>   -- 1: t34 := Op.move (tmp 8)
    exact x_move rfl (hE.eval 8 (by rfl) e8)
  intro a71 hE e34 kp
  replace e33 := (kp 33 rfl).trans e33
  apply sq_det 35 hE k rfl (by rfl) (by rfl) rfl
  case h =>   -- 2: t35 := Op.indexAddr 69 (tmp 33) (tmp 34)
    simp [go_sem, BigFrame.eval_const, BigFrame.eval_global, BigFrame.eval_func, ↓IntWalk.iteOmega, ev e33, ev e34]
    with_reducible rfl
  intro a72 hE e35 kp
  apply sq_det 36 hE k rfl (by rfl) (by rfl) rfl
  case h =>   -- 3: t36 := Op.fieldAddr 74 (tmp 35) 4
    simp [go_sem, BigFrame.eval_const, BigFrame.eval_global, BigFrame.eval_func, ↓IntWalk.iteOmega, ev e35]
    with_reducible rfl
  intro a73 hE e36 kp
  apply sq_det 37 hE k rfl (by rfl) (by rfl) rfl
  case h =>   -- 4: t37 := Op.load 9 (tmp 36)
    simp [go_sem, BigFrame.eval_const, BigFrame.eval_global, BigFrame.eval_func, ↓IntWalk.iteOmega, ev e36, c4]
    with_reducible rfl
  intro a74 hE e37 kp
  apply sq_det 38 hE k rfl (by rfl) (by rfl) rfl
  case h =>   -- 5: t38 := Op.call {callee := Callee.builtin Builtin.len, args := #[tmp 37], argT
    exact x_len_l Try.underlying9 rfl e37
  intro a75 hE e38 kp
  apply sq_det 39 hE k rfl (by rfl) (by rfl) rfl
  case h =>   -- 6: t39 := Op.binOp BinOp.gtr 3 (tmp 38) (const (Value.int IntKind.i64 10)) 3
    exact x_dec (x_gtr rfl e38 rfl) (decide_eq_false (by omega))
  intro a76 hE e39 kp
  refine wpList_nil ?_
  replace e1 := hE.eval 1 (by rfl) e1
  replace e5 := hE.eval 5 (by rfl) e5
  replace e6 := hE.eval 6 (by rfl) e6
  replace e7 := hE.eval 7 (by rfl) e7
  replace e8 := hE.eval 8 (by rfl) e8
  replace k := k.env hE
  clear hE e30
  refine then_n ?_
  refine cond_f e39 rfl ?_
  refine wp_skip ?_
  refine then_n ?_
  refine wp_seq ?_
  refine wp_seq ?_
  refine wp_region_lit ?_   -- region 13
  have hE := Env.refl a76 [40, 41, 42, 43, 44, 45, 46, 47, 48]
  apply sq_det 40 hE k rfl (by rfl) (by rfl) rfl
  case h =>   -- 0: t40 := Op.move (tmp 5)
    exact x_move rfl (hE.eval 5 (by rfl) e5)
  intro a77 hE e40 kp
  apply sq_det 41 hE k rfl (by rfl) (by rfl) rfl
  case h =>   -- 1: t41 := Op.move (tmp 6)
    exact x_move rfl (hE.eval 6 (by rfl) e6)
  intro a78 hE e41 kp
  replace e40 := (kp 40 rfl).trans e40
  apply sq_det 42 hE k rfl (by rfl) (by rfl) rfl
  case h =>   -- 2: t42 := Op.move (tmp 7)
    exact x_move rfl (hE.eval 7 (by rfl) e7)
  intro a79 hE e42 kp
  replace e40 := (kp 40 rfl).trans e40
  replace e41 := (kp 41 rfl).trans e41
  apply sq_det 43 hE k rfl (by rfl) (by rfl) rfl
  case h =>   -- 3: t43 := Op.move (tmp 1)
    exact x_move rfl (hE.eval 1 (by rfl) e1)
  intro a80 hE e43 kp
  replace e40 := (kp 40 rfl).trans e40
  replace e41 := (kp 41 rfl).trans e41
  replace e42 := (kp 42 rfl).trans e42
  apply sq_det 44 hE k rfl (by rfl) (by rfl) rfl
  case h =>   -- 4: t44 := Op.move (tmp 8)
    exact x_move rfl (hE.eval 8 (by rfl) e8)
  intro a81 hE e44 kp
  replace e40 := (kp 40 rfl).trans e40
  replace e41 := (kp 41 rfl).trans e41
  replace e42 := (kp 42 rfl).trans e42
  replace e43 := (kp 43 rfl).trans e43
  apply sq_det 45 hE k rfl (by rfl) (by rfl) rfl
  case h =>   -- 5: t45 := Op.indexAddr 69 (tmp 43) (tmp 44)
    simp [go_sem, BigFrame.eval_const, BigFrame.eval_global, BigFrame.eval_func, ↓IntWalk.iteOmega, ev e43, ev e44]
    with_reducible rfl
  intro a82 hE e45 kp
  replace e40 := (kp 40 rfl).trans e40
  replace e41 := (kp 41 rfl).trans e41
  replace e42 := (kp 42 rfl).trans e42
  apply sq_det 46 hE k rfl (by rfl) (by rfl) rfl
  case h =>   -- 6: t46 := Op.load 74 (tmp 45)
    simp [go_sem, BigFrame.eval_const, BigFrame.eval_global, BigFrame.eval_func, ↓IntWalk.iteOmega, ev e45, c0, c1', c2', c3', c4]
    with_reducible rfl
  intro a83 hE e46 kp
  replace e40 := (kp 40 rfl).trans e40
  replace e41 := (kp 41 rfl).trans e41
  replace e42 := (kp 42 rfl).trans e42
  apply sq_call 47 hE k rfl (by rfl) (by rfl) rfl
  case h =>   -- tierce/tiercelaw04.do
    simp [go_sem, BigFrame.eval_const, BigFrame.eval_global, BigFrame.eval_func, ↓IntWalk.iteOmega, ev e40, ev e41, ev e42, ev e46]
    with_reducible exact ⟨rfl, rfl⟩
  case hc => exact do_any _ O hM (by omega) hc1 (by omega)
  clear O
  rintro e w85 ⟨rfl, S', L', M', hM', O⟩
  refine ⟨_, rfl, ?_⟩
  intro a84 hE e47 kp
  apply sq_det 48 hE k rfl (by rfl) (by rfl) rfl
  case h =>   -- 8: t48 := Op.unOp UnOp.not 4 (tmp 47)
    exact x_not rfl e47
  intro a86 hE e48 kp
  refine wpList_nil ?_
  replace e1 := hE.eval 1 (by rfl) e1
  replace e5 := hE.eval 5 (by rfl) e5
  replace e6 := hE.eval 6 (by rfl) e6
  replace e7 := hE.eval 7 (by rfl) e7
  replace e8 := hE.eval 8 (by rfl) e8
  replace k := k.env hE
  clear hE e39
  refine then_n ?_
  refine cond_f e48 rfl ?_
  refine wp_skip ?_
  refine then_n ?_
  refine wp_seq ?_
  refine wp_region_lit ?_   -- region 15
  have hE := Env.refl a86 [49, 50, 9]
  apply sq_det 49 hE k rfl (by rfl) (by rfl) rfl
  case h =>   -- 0: t49 := Op.move (tmp 6)
    exact x_move rfl (hE.eval 6 (by rfl) e6)
  intro a87 hE e49 kp
  apply sq_call 50 hE k rfl (by rfl) (by rfl) rfl
  case h =>   -- (*tierce/disc.Disc).Loose
    simp [go_sem, BigFrame.eval_const, BigFrame.eval_global, BigFrame.eval_func, ↓IntWalk.iteOmega, ev e49]
    with_reducible exact ⟨rfl, rfl⟩
  case hc => exact dloose_any _ (OwnT.disc O)
  rintro e w89 ⟨Bl, cl, rfl, -, -, -, Rl, R⟩
  replace O := OwnT.ext O R
  refine ⟨_, rfl, ?_⟩
  intro a88 hE e50 kp
  apply sq_det 9 hE k rfl (by rfl) (by rfl) rfl
  case h =>   -- 2: t9 := Op.assign (tmp 50)
    exact x_assign rfl e50
  intro a90 hE e9 kp
  refine wpList_nil ?_
  replace e1 := hE.eval 1 (by rfl) e1
  replace e5 := hE.eval 5 (by rfl) e5
  replace e6 := hE.eval 6 (by rfl) e6
  replace e7 := hE.eval 7 (by rfl) e7
  replace e8 := hE.eval 8 (by rfl) e8
  replace k := k.env hE
  clear hE e48
  refine then_n ?_
  refine wp_seq ?_
  refine wp_region_lit ?_   -- region 16
  have hE := Env.refl a90 [51, 52, 10]
  apply sq_det 51 hE k rfl (by rfl) (by rfl) rfl
  case h =>   -- 0: t51 := Op.move (tmp 7)
    exact x_move rfl (hE.eval 7 (by rfl) e7)
  intro a91 hE e51 kp
  apply sq_call 52 hE k rfl (by rfl) (by rfl) rfl
  case h =>   -- (*tierce/tierceref04.Disc).List
    simp [go_sem, BigFrame.eval_const, BigFrame.eval_global, BigFrame.eval_func, ↓IntWalk.iteOmega, ev e51]
    with_reducible exact ⟨rfl, rfl⟩
  case hc => exact rlist4_any L' _ ((OwnT.blk O 2 rfl).cell 2) (OwnT.get O 5 rfl) hn16
  rintro e w93 ⟨Bw, cw, rfl, Rw, R⟩
  replace Rl := Row.below Rl R
  replace O := OwnT.ext O R
  refine ⟨_, rfl, ?_⟩
  intro a92 hE e52 kp
  apply sq_det 10 hE k rfl (by rfl) (by rfl) rfl
  case h =>   -- 2: t10 := Op.assign (tmp 52)
    exact x_assign rfl e52
  intro a94 hE e10 kp
  refine wpList_nil ?_
  replace e1 := hE.eval 1 (by rfl) e1
  replace e5 := hE.eval 5 (by rfl) e5
  replace e6 := hE.eval 6 (by rfl) e6
  replace e7 := hE.eval 7 (by rfl) e7
  replace e8 := hE.eval 8 (by rfl) e8
  replace e9 := hE.eval 9 (by rfl) e9
  replace k := k.env hE
  clear hE
  refine then_n ?_
  have hk' := O.dok
  have hll : (looL n L').length ≤ n := riseN_le n _
  have htx : ∀ wx, Ext w93 wx → Calls Try.prog 47 #[.slice B2 n c2] wx fun e w' => e = .returned (.string (sB S'.flatten)) ∧ Ext wx w' := by
    intro wx hR
    have h := text4_any B2 c2 S' wx (strs_row (OwnT.get (OwnT.ext O hR) 4 rfl : World.ownsRow _ 0 9 1 (.slice B2 n c2) n (strsV S'))) hk'.sz (by have := hk'.len; omega)
    rw [hk'.len] at h
    exact h.mono (fun e w' h => ⟨h.1, h.2 ▸ Ext.refl _⟩)
  
  refine wp_seq ?_
  refine wp_seq ?_
  refine wp_typed (R := Ext) (w0 := w93) [[], [0], [], [2], [0, 1, 2, 3], [0, 1, 2, 3, 4], [0, 1, 2, 3, 4, 5], [0, 1, 2, 3, 4, 5, 6], [0, 1, 2, 3, 4, 5], [0, 1, 2, 3, 4, 5, 8], [0, 1, 2, 3, 4, 5, 8, 9], [0, 1, 2, 3, 4, 5, 8, 9, 10], [0, 1, 2, 3, 4, 5, 6, 7, 8, 9, 10, 11], [0, 1, 2, 3, 4, 5, 6, 7, 8, 9, 10, 11, 12], [0, 1, 2, 3, 4, 5, 6, 7, 8, 9, 10, 11, 12, 13], [0, 1, 2, 3, 4, 5, 6, 7, 8, 9, 10, 11, 12, 13, 14], [0, 1, 2, 3, 4, 5, 6, 7, 8, 9, 10, 11, 12, 13, 14, 15], [0, 1, 2, 3, 4, 5, 6, 7, 8, 9, 10, 11, 12, 13, 14, 15, 16], [0, 1, 2, 3, 4, 5, 6, 7, 8, 9, 10, 11, 12, 13, 14, 15], [0, 1, 2, 3, 4, 5, 6, 7, 8, 9, 10, 11, 12, 13, 14, 15, 18], [0, 1, 2, 3, 4, 5, 6, 7, 8, 9, 10, 11, 12, 13, 14, 15, 18, 19], [0, 1, 2, 3, 4, 5, 6, 7, 8, 9, 10, 11, 12, 13, 14, 15, 18, 19, 20], [0, 1, 2, 3, 4, 5, 6, 7, 8, 9, 10, 11, 12, 13, 14, 15, 18, 19, 20, 21], [0, 1, 2, 3, 4, 5, 6, 7, 8, 9, 10, 11, 12, 13, 14, 15, 16, 17, 18, 19, 20, 21, 22], [0, 1, 2, 3, 4, 5, 6, 7, 8, 9, 10, 11, 12, 13, 14, 15, 16, 17, 18, 19, 20, 21, 22, 23]] [53, 54, 55, 56, 57, 58, 59, 60, 61, 62, 63, 64, 65, 66, 67, 68, 69, 70, 71, 72, 73, 74, 75, 76, 77] Ext.refl (fun _ _ _ => Ext.trans) (Ext.drew _) (by kernel_rfl) ?_   -- region 17
  apply Build.det 53 Ext.refl (by rfl) (by rw [k.size]; rfl) rfl
  case h =>   -- 0: t53 := Op.move (tmp 9)
    intro ax wx hE hR hF
    exact x_move rfl (hE.eval 9 (by rfl) e9)
  apply Build.det 54 Ext.refl (by rfl) (by rw [k.size]; rfl) rfl
  case h =>   -- 1: t54 := Op.call {callee := Callee.builtin Builtin.len, args := #[tmp 53], argT
    intro ax wx hE hR hF
    have e53 : ax.eval (.tmp 53) = _ := hF 0 (det 53 _) (by decide) (.head _)
    exact x_len Try.underlying49 rfl e53
  apply Build.det 55 Ext.refl (by rfl) (by rw [k.size]; rfl) rfl
  case h =>   -- 2: t55 := Op.move (tmp 10)
    intro ax wx hE hR hF
    exact x_move rfl (hE.eval 10 (by rfl) e10)
  apply Build.det 56 Ext.refl (by rfl) (by rw [k.size]; rfl) rfl
  case h =>   -- 3: t56 := Op.call {callee := Callee.builtin Builtin.len, args := #[tmp 55], argT
    intro ax wx hE hR hF
    have e55 : ax.eval (.tmp 55) = _ := hF 2 (det 55 _) (by decide) (.head _)
    exact x_len Try.underlying49 rfl e55
  apply Build.det 57 Ext.refl (by rfl) (by rw [k.size]; rfl) rfl
  case h =>   -- 4: t57 := Op.binOp BinOp.neq 3 (tmp 54) (tmp 56) 3
    intro ax wx hE hR hF
    have e54 : ax.eval (.tmp 54) = _ := hF 1 (det 54 _) (by decide) (.tail _ (.tail _ (.head _)))
    have e56 : ax.eval (.tmp 56) = _ := hF 3 (det 56 _) (by decide) (.head _)
    exact x_dec (x_neq rfl e54 e56) (decide_eq_false (fun h => h rfl))
  apply Build.det 58 Ext.refl (by rfl) (by rw [k.size]; rfl) rfl
  case h =>   -- 5: t58 := Op.move (tmp 57)
    intro ax wx hE hR hF
    have e57 : ax.eval (.tmp 57) = _ := hF 4 (det 57 _) (by decide) (.head _)
    exact x_move rfl e57
  apply Build.detg 59 Ext.refl (by rfl) (by rw [k.size]; rfl) rfl rfl
  case h =>   -- 6: t59 := Op.move (tmp 6)
    intro ax wx hE hR hF
    have e58 : ax.eval (.tmp 58) = _ := hF 5 (det 58 _) (by decide) (.head _)
    refine ⟨e58, ?_⟩
    exact x_move rfl (hE.eval 6 (by rfl) e6)
  apply Build.callg 60 Ext.refl (by rfl) (by rw [k.size]; rfl) rfl rfl
  case h =>   -- 7: t60 := (*tierce/disc.Disc).Image
    intro ax wx hE hR hF
    have e59 : ax.eval (.tmp 59) = _ := hF 6 (det 59 _) (by decide) (.head _)
    have e58 : ax.eval (.tmp 58) = _ := hF 5 (det 58 _) (by decide) (.tail _ (.head _))
    refine ⟨e58, ?_⟩
    simp [go_sem, BigFrame.eval_const, BigFrame.eval_global, BigFrame.eval_func, ↓IntWalk.iteOmega, ev e59]
    with_reducible exact ⟨rfl, rfl⟩
  case hc => intro wx hR; exact (dimage_any wx ((OwnT.disc O).ext hR))
  apply Build.detg 61 Ext.refl (by rfl) (by rw [k.size]; rfl) rfl rfl
  case h =>   -- 8: t61 := Op.move (tmp 7)
    intro ax wx hE hR hF
    have e58 : ax.eval (.tmp 58) = _ := hF 5 (det 58 _) (by decide) (.tail _ (.tail _ (.head _)))
    refine ⟨e58, ?_⟩
    exact x_move rfl (hE.eval 7 (by rfl) e7)
  apply Build.detg 62 Ext.refl (by rfl) (by rw [k.size]; rfl) rfl rfl
  case h =>   -- 9: t62 := Op.nilCheck (tmp 61)
    intro ax wx hE hR hF
    have e61 : ax.eval (.tmp 61) = _ := hF 8 (det 61 _) (by decide) (.head _)
    have e58 : ax.eval (.tmp 58) = _ := hF 5 (det 58 _) (by decide) (.tail _ (.tail _ (.tail _ (.head _))))
    refine ⟨e58, ?_⟩
    exact x_nil rfl e61
  apply Build.detg 63 Ext.refl (by rfl) (by rw [k.size]; rfl) rfl rfl
  case h =>   -- 10: t63 := Op.fieldAddr 80 (tmp 62) 1
    intro ax wx hE hR hF
    have e62 : ax.eval (.tmp 62) = _ := hF 9 (det 62 _) (by decide) (.head _)
    have e58 : ax.eval (.tmp 58) = _ := hF 5 (det 58 _) (by decide) (.tail _ (.tail _ (.tail _ (.tail _ (.head _)))))
    refine ⟨e58, ?_⟩
    simp [go_sem, BigFrame.eval_const, BigFrame.eval_global, BigFrame.eval_func, ↓IntWalk.iteOmega, ev e62]
    with_reducible rfl
  apply Build.detg 64 Ext.refl (by rfl) (by rw [k.size]; rfl) rfl rfl
  case h =>   -- 11: t64 := Op.load 77 (tmp 63)
    intro ax wx hE hR hF
    have e63 : ax.eval (.tmp 63) = _ := hF 10 (det 63 _) (by decide) (.head _)
    have e58 : ax.eval (.tmp 58) = _ := hF 5 (det 58 _) (by decide) (.tail _ (.tail _ (.tail _ (.tail _ (.tail _ (.head _))))))
    refine ⟨e58, ?_⟩
    have q0 : wx.cell? ⟨ub, 1, none⟩ = some (.slice B2 n c2) := (OwnT.blk (OwnT.ext O hR) 2 rfl).cell 1
    simp [go_sem, BigFrame.eval_const, BigFrame.eval_global, BigFrame.eval_func, ↓IntWalk.iteOmega, ev e63, q0]
    with_reducible rfl
  apply Build.callg 65 Ext.refl (by rfl) (by rw [k.size]; rfl) rfl rfl
  case h =>   -- 12: t65 := tierce/tierceref04.Text
    intro ax wx hE hR hF
    have e64 : ax.eval (.tmp 64) = _ := hF 11 (det 64 _) (by decide) (.head _)
    have e58 : ax.eval (.tmp 58) = _ := hF 5 (det 58 _) (by decide) (.tail _ (.tail _ (.tail _ (.tail _ (.tail _ (.tail _ (.head _)))))))
    refine ⟨e58, ?_⟩
    simp [go_sem, BigFrame.eval_const, BigFrame.eval_global, BigFrame.eval_func, ↓IntWalk.iteOmega, ev e64]
    with_reducible exact ⟨rfl, rfl⟩
  case hc => intro wx hR; exact htx wx hR
  apply Build.detg 66 Ext.refl (by rfl) (by rw [k.size]; rfl) rfl rfl
  case h =>   -- 13: t66 := Op.binOp BinOp.neq 9 (tmp 60) (tmp 65) 9
    intro ax wx hE hR hF
    have e60 : ax.eval (.tmp 60) = _ := hF 7 (det 60 _) (by decide) (.tail _ (.tail _ (.tail _ (.tail _ (.tail _ (.head _))))))
    have e65 : ax.eval (.tmp 65) = _ := hF 12 (det 65 _) (by decide) (.head _)
    have e58 : ax.eval (.tmp 58) = _ := hF 5 (det 58 _) (by decide) (.tail _ (.tail _ (.tail _ (.tail _ (.tail _ (.tail _ (.tail _ (.head _))))))))
    refine ⟨e58, ?_⟩
    exact x_dec (x_nes (l := S'.flatten) (m := S'.flatten) rfl e60 e65) (decide_eq_false (fun h => h rfl))
  apply Build.det 67 Ext.refl (by rfl) (by rw [k.size]; rfl) rfl
  case h =>   -- 14: t67 := Op.pick (tmp 58) (const (Value.bool true)) (tmp 66)
    intro ax wx hE hR hF
    have e58 : ax.eval (.tmp 58) = _ := hF 5 (det 58 _) (by decide) (.tail _ (.tail _ (.tail _ (.tail _ (.tail _ (.tail _ (.tail _ (.tail _ (.head _)))))))))
    have e66 : ax.eval (.tmp 66) = _ := hF 13 (det 66 _) (by decide) (.head _)
    exact x_pick_f rfl e58 e66
  apply Build.det 68 Ext.refl (by rfl) (by rw [k.size]; rfl) rfl
  case h =>   -- 15: t68 := Op.move (tmp 67)
    intro ax wx hE hR hF
    have e67 : ax.eval (.tmp 67) = _ := hF 14 (det 67 _) (by decide) (.head _)
    exact x_move rfl e67
  apply Build.detg 69 Ext.refl (by rfl) (by rw [k.size]; rfl) rfl rfl
  case h =>   -- 16: t69 := Op.move (tmp 6)
    intro ax wx hE hR hF
    have e68 : ax.eval (.tmp 68) = _ := hF 15 (det 68 _) (by decide) (.head _)
    refine ⟨e68, ?_⟩
    exact x_move rfl (hE.eval 6 (by rfl) e6)
  apply Build.callg 70 Ext.refl (by rfl) (by rw [k.size]; rfl) rfl rfl
  case h =>   -- 17: t70 := (*tierce/disc.Disc).Len
    intro ax wx hE hR hF
    have e69 : ax.eval (.tmp 69) = _ := hF 16 (det 69 _) (by decide) (.head _)
    have e68 : ax.eval (.tmp 68) = _ := hF 15 (det 68 _) (by decide) (.tail _ (.head _))
    refine ⟨e68, ?_⟩
    simp [go_sem, BigFrame.eval_const, BigFrame.eval_global, BigFrame.eval_func, ↓IntWalk.iteOmega, ev e69]
    with_reducible exact ⟨rfl, rfl⟩
  case hc => intro wx hR; exact ((dlen_any wx ((OwnT.disc O).ext hR)).mono (fun e w' h => ⟨h.1, h.2 ▸ Ext.refl _⟩))
  apply Build.detg 71 Ext.refl (by rfl) (by rw [k.size]; rfl) rfl rfl
  case h =>   -- 18: t71 := Op.move (tmp 7)
    intro ax wx hE hR hF
    have e68 : ax.eval (.tmp 68) = _ := hF 15 (det 68 _) (by decide) (.tail _ (.tail _ (.head _)))
    refine ⟨e68, ?_⟩
    exact x_move rfl (hE.eval 7 (by rfl) e7)
  apply Build.detg 72 Ext.refl (by rfl) (by rw [k.size]; rfl) rfl rfl
  case h =>   -- 19: t72 := Op.nilCheck (tmp 71)
    intro ax wx hE hR hF
    have e71 : ax.eval (.tmp 71) = _ := hF 18 (det 71 _) (by decide) (.head _)
    have e68 : ax.eval (.tmp 68) = _ := hF 15 (det 68 _) (by decide) (.tail _ (.tail _ (.tail _ (.head _))))
    refine ⟨e68, ?_⟩
    exact x_nil rfl e71
  apply Build.detg 73 Ext.refl (by rfl) (by rw [k.size]; rfl) rfl rfl
  case h =>   -- 20: t73 := Op.fieldAddr 80 (tmp 72) 0
    intro ax wx hE hR hF
    have e72 : ax.eval (.tmp 72) = _ := hF 19 (det 72 _) (by decide) (.head _)
    have e68 : ax.eval (.tmp 68) = _ := hF 15 (det 68 _) (by decide) (.tail _ (.tail _ (.tail _ (.tail _ (.head _)))))
    refine ⟨e68, ?_⟩
    simp [go_sem, BigFrame.eval_const, BigFrame.eval_global, BigFrame.eval_func, ↓IntWalk.iteOmega, ev e72]
    with_reducible rfl
  apply Build.detg 74 Ext.refl (by rfl) (by rw [k.size]; rfl) rfl rfl
  case h =>   -- 21: t74 := Op.load 77 (tmp 73)
    intro ax wx hE hR hF
    have e73 : ax.eval (.tmp 73) = _ := hF 20 (det 73 _) (by decide) (.head _)
    have e68 : ax.eval (.tmp 68) = _ := hF 15 (det 68 _) (by decide) (.tail _ (.tail _ (.tail _ (.tail _ (.tail _ (.head _))))))
    refine ⟨e68, ?_⟩
    have q0 : wx.cell? ⟨ub, 0, none⟩ = some (.slice B1 n c1) := (OwnT.blk (OwnT.ext O hR) 2 rfl).cell 0
    simp [go_sem, BigFrame.eval_const, BigFrame.eval_global, BigFrame.eval_func, ↓IntWalk.iteOmega, ev e73, q0]
    with_reducible rfl
  apply Build.detg 75 Ext.refl (by rfl) (by rw [k.size]; rfl) rfl rfl
  case h =>   -- 22: t75 := Op.call {callee := Callee.builtin Builtin.len, args := #[tmp 74], argT
    intro ax wx hE hR hF
    have e74 : ax.eval (.tmp 74) = _ := hF 21 (det 74 _) (by decide) (.head _)
    have e68 : ax.eval (.tmp 68) = _ := hF 15 (det 68 _) (by decide) (.tail _ (.tail _ (.tail _ (.tail _ (.tail _ (.tail _ (.head _)))))))
    refine ⟨e68, ?_⟩
    exact x_len Try.underlying77 rfl e74
  apply Build.detg 76 Ext.refl (by rfl) (by rw [k.size]; rfl) rfl rfl
  case h =>   -- 23: t76 := Op.binOp BinOp.neq 3 (tmp 70) (tmp 75) 3
    intro ax wx hE hR hF
    have e70 : ax.eval (.tmp 70) = _ := hF 17 (det 70 _) (by decide) (.tail _ (.tail _ (.tail _ (.tail _ (.tail _ (.head _))))))
    have e75 : ax.eval (.tmp 75) = _ := hF 22 (det 75 _) (by decide) (.head _)
    have e68 : ax.eval (.tmp 68) = _ := hF 15 (det 68 _) (by decide) (.tail _ (.tail _ (.tail _ (.tail _ (.tail _ (.tail _ (.tail _ (.head _))))))))
    refine ⟨e68, ?_⟩
    exact x_dec (x_neq rfl e70 e75) (decide_eq_false (fun h => h rfl))
  apply Build.det 77 Ext.refl (by rfl) (by rw [k.size]; rfl) rfl
  case h =>   -- 24: t77 := Op.pick (tmp 68) (const (Value.bool true)) (tmp 76)
    intro ax wx hE hR hF
    have e68 : ax.eval (.tmp 68) = _ := hF 15 (det 68 _) (by decide) (.tail _ (.tail _ (.tail _ (.tail _ (.tail _ (.tail _ (.tail _ (.tail _ (.head _)))))))))
    have e76 : ax.eval (.tmp 76) = _ := hF 23 (det 76 _) (by decide) (.head _)
    exact x_pick_f rfl e68 e76
  apply Build.stop
  refine ⟨by kernel_rfl, .inl ⟨rfl, ?_⟩⟩
  intro a95 w96 hE R hF
  have e77 : a95.eval (.tmp 77) = _ := hF 24 (det 77 _) (.head _)
  clear hF
  replace O := OwnT.ext O R
  replace Rl := Row.below Rl R
  replace Rw := Row.below Rw R
  clear R
  replace e1 := hE.eval 1 (by rfl) e1
  replace e5 := hE.eval 5 (by rfl) e5
  replace e6 := hE.eval 6 (by rfl) e6
  replace e7 := hE.eval 7 (by rfl) e7
  replace e8 := hE.eval 8 (by rfl) e8
  replace e9 := hE.eval 9 (by rfl) e9
  replace e10 := hE.eval 10 (by rfl) e10
  replace k := k.env hE
  clear hE
  refine then_n ?_
  refine cond_f e77 rfl ?_
  refine wp_skip ?_
  refine then_n ?_
  refine wp_seq ?_
  refine wp_region_lit ?_   -- region 19
  have hE := Env.refl a95 [11]
  apply sq_det 11 hE k rfl (by rfl) (by rfl) rfl
  case h =>   -- 0: t11 := Op.assign (const (Value.int IntKind.i64 0))
    exact x_assign rfl rfl
  intro a97 hE e11 kp
  refine wpList_nil ?_
  replace e1 := hE.eval 1 (by rfl) e1
  replace e5 := hE.eval 5 (by rfl) e5
  replace e6 := hE.eval 6 (by rfl) e6
  replace e7 := hE.eval 7 (by rfl) e7
  replace e8 := hE.eval 8 (by rfl) e8
  replace e9 := hE.eval 9 (by rfl) e9
  replace e10 := hE.eval 10 (by rfl) e10
  replace k := k.env hE
  clear hE e77
  refine then_n ?_
  refine wp_block ?_
  refine wp_loop (fun a w => Fr 93 a ∧ a.eval (.tmp 1) = .slice (some ⟨b, off, none⟩) len capA ∧ a.eval (.tmp 5) = .pointer (some ⟨mb, 0, none⟩) ∧ a.eval (.tmp 6) = .pointer (some ⟨p, 0, none⟩) ∧ a.eval (.tmp 7) = .pointer (some ⟨ub, 0, none⟩) ∧ a.eval (.tmp 8) = .int .i64 ↑i ∧ a.eval (.tmp 9) = .slice Bl ((looL n L').length) cl ∧ a.eval (.tmp 10) = .slice Bw ((looL n L').length) cw ∧ ∃ z : Nat, a.eval (.tmp 11) = .int .i64 ↑z ∧ z ≤ (looL n L').length ∧ OwnT W0.heap.size W0 [tDisc p mb B n cap bm S' L', tMn mb M', tBlk ub 80 #[.slice B1 n c1, .slice B2 n c2, .slice B3 n c3], tRow 9 1 (.slice B1 n c1) n (strsV (nowL S' L')), tRow 9 1 (.slice B2 n c2) n (strsV S'), tRow 4 1 (.slice B3 n c3) n (boolsV (isL n L'))] w ∧ Row w Bl 1 encI (looL n L') ∧ Row w Bw 1 encI (looL n L')) (fun a w => (looL n L').length - (intOf (a.eval (.tmp 11))).toNat) ?_ ?_
  · exact ⟨k, e1, e5, e6, e7, e8, e9, e10, 0, e11, Nat.zero_le _, O, Rl, Rw⟩
  intro a98 w99 hI
  clear k e1 e5 e6 e7 e8 e9 e10
  obtain ⟨k, e1, e5, e6, e7, e8, e9, e10, h_⟩ := hI
  clear O Rl Rw e11
  obtain ⟨z, e11, hz, O, Rl, Rw⟩ := h_
  have mz := e11
  refine wp_seq ?_
  refine wp_seq ?_
  refine wp_region_lit ?_   -- region 20
  have hE := Env.refl a98 [78, 79, 80, 81]
  apply sq_det 78 hE k rfl (by rfl) (by rfl) rfl
  case h =>   -- 0: t78 := Op.move (tmp 11)
    exact x_move rfl (hE.eval 11 (by rfl) e11)
  intro a100 hE e78 kp
  apply sq_det 79 hE k rfl (by rfl) (by rfl) rfl
  case h =>   -- 1: t79 := Op.move (tmp 9)
    exact x_move rfl (hE.eval 9 (by rfl) e9)
  intro a101 hE e79 kp
  replace e78 := (kp 78 rfl).trans e78
  apply sq_det 80 hE k rfl (by rfl) (by rfl) rfl
  case h =>   -- 2: t80 := Op.call {callee := Callee.builtin Builtin.len, args := #[tmp 79], argT
    exact x_len Try.underlying49 rfl e79
  intro a102 hE e80 kp
  replace e78 := (kp 78 rfl).trans e78
  apply sq_det 81 hE k rfl (by rfl) (by rfl) rfl
  case h =>   -- 3: t81 := Op.binOp BinOp.lss 3 (tmp 78) (tmp 80) 3
    exact x_lss rfl e78 e80
  intro a103 hE e81 kp
  refine wpList_nil ?_
  replace e1 := hE.eval 1 (by rfl) e1
  replace e5 := hE.eval 5 (by rfl) e5
  replace e6 := hE.eval 6 (by rfl) e6
  replace e7 := hE.eval 7 (by rfl) e7
  replace e8 := hE.eval 8 (by rfl) e8
  replace e9 := hE.eval 9 (by rfl) e9
  replace e10 := hE.eval 10 (by rfl) e10
  replace e11 := hE.eval 11 (by rfl) e11
  replace k := k.env hE
  clear hE
  refine then_n ?_
  by_cases hzl : z < (looL n L').length
  · have hzI : (z : Int) < ((looL n L').length : Int) := by omega
    refine cond_t e81 (congrArg Value.bool (decide_eq_true (by omega))) ?_
    clear e81
    obtain ⟨y, hy⟩ : ∃ y, (looL n L')[z]? = some y := ⟨_, List.getElem?_eq_getElem hzl⟩
    obtain ⟨bl, ol, rfl, -, -⟩ := Rl z _ hy
    obtain ⟨bw, ow, rfl, -, -⟩ := Rw z _ hy
    
    refine wp_skip ?_
    refine then_n ?_
    refine wp_seq ?_
    refine wp_block ?_
    refine wp_seq ?_
    refine wp_typed (R := Ext) (w0 := w99) [[], [], [0, 1], [0, 1, 2], [], [], [4, 5], [4, 5, 6], [0, 1, 2, 3, 4, 5, 6, 7]] [84, 85, 86, 87, 88, 89, 90, 91, 92] Ext.refl (fun _ _ _ => Ext.trans) (Ext.drew _) (by kernel_rfl) ?_   -- region 22
    apply Build.det 84 Ext.refl (by rfl) (by rw [k.size]; rfl) rfl
    case h =>   -- 0: t84 := Op.move (tmp 9)
      intro ax wx hE hR hF
      exact x_move rfl (hE.eval 9 (by rfl) e9)
    apply Build.det 85 Ext.refl (by rfl) (by rw [k.size]; rfl) rfl
    case h =>   -- 1: t85 := Op.move (tmp 11)
      intro ax wx hE hR hF
      exact x_move rfl (hE.eval 11 (by rfl) e11)
    apply Build.det 86 Ext.refl (by rfl) (by rw [k.size]; rfl) rfl
    case h =>   -- 2: t86 := Op.indexAddr 49 (tmp 84) (tmp 85)
      intro ax wx hE hR hF
      have e84 : ax.eval (.tmp 84) = _ := hF 0 (det 84 _) (by decide) (.tail _ (.head _))
      have e85 : ax.eval (.tmp 85) = _ := hF 1 (det 85 _) (by decide) (.head _)
      simp [go_sem, BigFrame.eval_const, BigFrame.eval_global, BigFrame.eval_func, ↓IntWalk.iteOmega, ev e84, ev e85]
      with_reducible rfl
    apply Build.det 87 Ext.refl (by rfl) (by rw [k.size]; rfl) rfl
    case h =>   -- 3: t87 := Op.load 3 (tmp 86)
      intro ax wx hE hR hF
      have e86 : ax.eval (.tmp 86) = _ := hF 2 (det 86 _) (by decide) (.head _)
      have cy := row_iN Rl hR hy
      simp [go_sem, BigFrame.eval_const, BigFrame.eval_global, BigFrame.eval_func, ↓IntWalk.iteOmega, ev e86, cy]
      with_reducible rfl
    apply Build.det 88 Ext.refl (by rfl) (by rw [k.size]; rfl) rfl
    case h =>   -- 4: t88 := Op.move (tmp 10)
      intro ax wx hE hR hF
      exact x_move rfl (hE.eval 10 (by rfl) e10)
    apply Build.det 89 Ext.refl (by rfl) (by rw [k.size]; rfl) rfl
    case h =>   -- 5: t89 := Op.move (tmp 11)
      intro ax wx hE hR hF
      exact x_move rfl (hE.eval 11 (by rfl) e11)
    apply Build.det 90 Ext.refl (by rfl) (by rw [k.size]; rfl) rfl
    case h =>   -- 6: t90 := Op.indexAddr 49 (tmp 88) (tmp 89)
      intro ax wx hE hR hF
      have e88 : ax.eval (.tmp 88) = _ := hF 4 (det 88 _) (by decide) (.tail _ (.head _))
      have e89 : ax.eval (.tmp 89) = _ := hF 5 (det 89 _) (by decide) (.head _)
      simp [go_sem, BigFrame.eval_const, BigFrame.eval_global, BigFrame.eval_func, ↓IntWalk.iteOmega, ev e88, ev e89]
      with_reducible rfl
    apply Build.det 91 Ext.refl (by rfl) (by rw [k.size]; rfl) rfl
    case h =>   -- 7: t91 := Op.load 3 (tmp 90)
      intro ax wx hE hR hF
      have e90 : ax.eval (.tmp 90) = _ := hF 6 (det 90 _) (by decide) (.head _)
      have cy := row_iN Rw hR hy
      simp [go_sem, BigFrame.eval_const, BigFrame.eval_global, BigFrame.eval_func, ↓IntWalk.iteOmega, ev e90, cy]
      with_reducible rfl
    apply Build.det 92 Ext.refl (by rfl) (by rw [k.size]; rfl) rfl
    case h =>   -- 8: t92 := Op.binOp BinOp.neq 3 (tmp 87) (tmp 91) 3
      intro ax wx hE hR hF
      have e87 : ax.eval (.tmp 87) = _ := hF 3 (det 87 _) (by decide) (.tail _ (.tail _ (.tail _ (.tail _ (.head _)))))
      have e91 : ax.eval (.tmp 91) = _ := hF 7 (det 91 _) (by decide) (.head _)
      exact x_dec (x_neq rfl e87 e91) (decide_eq_false (fun h => h rfl))
    apply Build.stop
    refine ⟨by kernel_rfl, .inl ⟨rfl, ?_⟩⟩
    intro a104 w105 hE R hF
    have e92 : a104.eval (.tmp 92) = _ := hF 8 (det 92 _) (.head _)
    clear hF
    replace O := OwnT.ext O R
    replace Rl := Row.below Rl R
    replace Rw := Row.below Rw R
    clear R
    replace e1 := hE.eval 1 (by rfl) e1
    replace e5 := hE.eval 5 (by rfl) e5
    replace e6 := hE.eval 6 (by rfl) e6
    replace e7 := hE.eval 7 (by rfl) e7
    replace e8 := hE.eval 8 (by rfl) e8
    replace e9 := hE.eval 9 (by rfl) e9
    replace e10 := hE.eval 10 (by rfl) e10
    replace e11 := hE.eval 11 (by rfl) e11
    replace k := k.env hE
    clear hE
    refine then_n ?_
    refine cond_f e92 rfl ?_
    refine wp_skip ?_
    refine block_n ?_
    refine then_n ?_
    refine wp_region_lit ?_   -- region 21
    have hE := Env.refl a104 [82, 83, 11]
    apply sq_det 82 hE k rfl (by rfl) (by rfl) rfl
    case h =>   -- 0: t82 := Op.move (tmp 11)
      exact x_move rfl e11
    intro a106 hE e82 kp
    replace e11 := (kp 11 rfl).trans e11
    apply sq_det 83 hE k rfl (by rfl) (by rfl) rfl
    case h =>   -- 1: t83 := Op.binOp BinOp.add 3 (tmp 82) (const (Value.int IntKind.i64 1)) 3
      exact x_add rfl e82 rfl (by omega)
    intro a107 hE e83 kp
    replace e11 := (kp 11 rfl).trans e11
    apply sq_det 11 hE k rfl (by rfl) (by rfl) rfl
    case h =>   -- 2: t11 := Op.assign (tmp 83)
      exact x_assign rfl e83
    intro a108 hE e11 kp
    refine wpList_nil ?_
    replace e1 := hE.eval 1 (by rfl) e1
    replace e5 := hE.eval 5 (by rfl) e5
    replace e6 := hE.eval 6 (by rfl) e6
    replace e7 := hE.eval 7 (by rfl) e7
    replace e8 := hE.eval 8 (by rfl) e8
    replace e9 := hE.eval 9 (by rfl) e9
    replace e10 := hE.eval 10 (by rfl) e10
    replace k := k.env hE
    clear hE e92
    refine then_n ?_
    refine ⟨⟨k, e1, e5, e6, e7, e8, e9, e10, z + 1, e11, by omega, O, Rl, Rw⟩, ?_⟩
    rw [e11, mz]; simp only [intOf]; omega
  · have hzI : ¬ (z : Int) < ((looL n L').length : Int) := by omega
    refine cond_f e81 (congrArg Value.bool (decide_eq_false (by omega))) ?_
    clear e9 e10 e11 e81
    refine wp_exit ?_
    refine then_x ?_
    refine then_x ?_
    refine block_x ?_
    refine block_n ?_
    refine then_n ?_
    refine wp_region_lit ?_   -- region 10
    have hE := Env.refl a103 [31, 32, 8]
    apply sq_det 31 hE k rfl (by rfl) (by rfl) rfl
    case h =>   -- 0: t31 := Op.move (tmp 8)
      exact x_move rfl e8
    intro a109 hE e31 kp
    replace e8 := (kp 8 rfl).trans e8
    apply sq_det 32 hE k rfl (by rfl) (by rfl) rfl
    case h =>   -- 1: t32 := Op.binOp BinOp.add 3 (tmp 31) (const (Value.int IntKind.i64 1)) 3
      exact x_add rfl e31 rfl (by omega)
    intro a110 hE e32 kp
    replace e8 := (kp 8 rfl).trans e8
    apply sq_det 8 hE k rfl (by rfl) (by rfl) rfl
    case h =>   -- 2: t8 := Op.assign (tmp 32)
      exact x_assign rfl e32
    intro a111 hE e8 kp
    refine wpList_nil ?_
    replace e1 := hE.eval 1 (by rfl) e1
    replace e5 := hE.eval 5 (by rfl) e5
    replace e6 := hE.eval 6 (by rfl) e6
    replace e7 := hE.eval 7 (by rfl) e7
    replace k := k.env hE
    clear hE
    refine then_n ?_
    refine ⟨⟨k, e1, e5, e6, e7, i + 1, S', L', M', e8, by omega, by omega, hM'.mono (by omega), O⟩, ?_⟩
    rw [e8, mi]; simp only [intOf]; omega
theorem discExact_walk (w : World) (v0 v1 : Value) (h0 : Arg Try.prog w 9 v0) (h1 : Arg Try.prog w 69 v1) :
    Calls Try.prog 8 #[v0, v1] w fun e w' => e = .returned (.bool true) ∧ Below w.heap.size w w' := by
  obtain ⟨s, rfl, _⟩ := arg_string Try.underlying9 h0
  obtain ⟨A, len, cap, xs, rfl, _, _, hlen, _, hrow⟩ := arg_acts4 h1
  rw [← sB_of s]
  exact discExact_core _ A len cap xs w hlen hrow
end Go.Proofs.Ytdpohbaeopidmaa
