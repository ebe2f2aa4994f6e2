/- disc's law: the reference's functions (printed by XRefA.gen.py). -/
import Derived.Test.YtdpohbaeopidmaaKDiscExact17
namespace Go.Proofs.Ytdpohbaeopidmaa
set_option linter.unusedVariables false
set_option linter.unusedSimpArgs false
open Go.RowKit Go.Maps

theorem elemB : ElemI Try.prog 78 4 1 1 := ⟨Try.underlying78, by
  have h : (Try.prog.info? 4).map (fun i => (i.zero, i.size, i.bytes)) = some (some (.bool false), 1, 1) := by kernel_rfl
  obtain ⟨i, h1, h2, h3, h4⟩ := info_parts h
  exact ⟨i, _, h1, h2, h3, h4, rfl⟩⟩
theorem elemI : ElemI Try.prog 49 3 1 8 := ⟨Try.underlying49, by
  have h : (Try.prog.info? 3).map (fun i => (i.zero, i.size, i.bytes)) = some (some (.int .i64 0), 1, 8) := by kernel_rfl
  obtain ⟨i, h1, h2, h3, h4⟩ := info_parts h
  exact ⟨i, _, h1, h2, h3, h4, rfl⟩⟩
/-- Strings in a row, somewhere. -/
def Strs (w : World) (A : Option Addr) (xs : List Sec) : Prop := ∀ i s, xs[i]? = some s → ∃ b o, A = some ⟨b, o, none⟩ ∧ w.cell? ⟨b, o + i, none⟩ = some (.string (sB s))
theorem strs_row {w : World} {B : Option Addr} {n cap : Nat} {xs : List Sec} (h : w.ownsRow 0 9 1 (.slice B n cap) n (strsV xs)) : Strs w B xs := by
  intro i s hi
  have hil : i < xs.length := (List.getElem?_eq_some_iff.1 hi).1
  have hl := h.1
  simp only [strsV, List.length_map] at hl
  obtain ⟨g, c, e, _⟩ := row1_some h (by omega)
  injection e with e1 _ e3
  subst e1 e3
  refine ⟨g, 0, rfl, ?_⟩
  rw [Nat.zero_add]
  exact (row1_cell h (i := i) (v := .string (sB s)) (by simp [strsV, hi])).1
theorem flat_take_succ {xs : List Sec} {j : Nat} {s : Sec} (h : xs[j]? = some s) : (xs.take j).flatten ++ s = (xs.take (j + 1)).flatten := by
  rw [List.take_add_one, h]; simp
theorem flat_take_le {xs : List Sec} (h : ∀ s ∈ xs, s.length = 16) (j : Nat) : (xs.take j).flatten.length ≤ 16 * j := by
  rw [flat16 (fun s hs => h s (List.mem_of_mem_take hs)), List.length_take]
  omega

set_option maxRecDepth 100000 in
set_option maxHeartbeats 4000000 in
theorem text4_any (A : Option Addr) (cap : Nat) (xs : List Sec) (w : World) (h : Strs w A xs) (hs : ∀ s ∈ xs, s.length = 16) (hn : xs.length ≤ 1000000) : Calls Try.prog 47 #[.slice A xs.length cap] w fun e w' => e = .returned (.string (sB xs.flatten)) ∧ w = w' := by
  obtain ⟨n, hl⟩ : ∃ n, xs.length = n := ⟨_, rfl⟩
  rw [hl]
  refine calls_F Try.func47 rfl 18 rfl (by rfl) ?_
  intro a1 k hargs
  have e0 : a1.eval (.tmp 0) = .slice A n cap := hargs 0 _ rfl
  clear hargs
  refine wp_seq ?_
  refine wp_region_lit ?_   -- region 0
  have hE := Env.refl a1 [2]
  apply sq_det 2 hE k rfl (by rfl) (by rfl) rfl
  case h =>   -- 0: t2 := Op.assign (const (Value.string {data := #[]}))
    exact x_assign rfl rfl
  intro a2 hE e2 kp
  refine wpList_nil ?_
  replace e0 := hE.eval 0 (by rfl) e0
  replace k := k.env hE
  clear hE e2
  refine then_n ?_
  refine wp_seq ?_
  refine wp_region_lit ?_   -- region 1
  have hE := Env.refl a2 [3]
  apply sq_det 3 hE k rfl (by rfl) (by rfl) rfl
  case h =>   -- 0: t3 := Op.assign (const (Value.string {data := #[]}))
    exact x_assign rfl rfl
  intro a3 hE e3 kp
  refine wpList_nil ?_
  replace e0 := hE.eval 0 (by rfl) e0
  replace k := k.env hE
  clear hE
  refine then_n ?_
  refine wp_seq ?_
  refine wp_seq ?_
  refine wp_region_lit ?_   -- region 2
  have hE := Env.refl a3 [4]
  apply sq_det 4 hE k rfl (by rfl) (by rfl) rfl
  case h =>   -- 0: t4 := Op.assign (const (Value.int IntKind.i64 0))
    exact x_assign rfl rfl
  intro a4 hE e4 kp
  refine wpList_nil ?_
  replace e0 := hE.eval 0 (by rfl) e0
  replace e3 := hE.eval 3 (by rfl) e3
  replace k := k.env hE
  clear hE
  refine then_n ?_
  refine wp_block ?_
  obtain ⟨w_, hw_⟩ : ∃ w_, w = w_ := ⟨_, rfl⟩
  rw [hw_] at h ⊢
  refine wp_loop (fun a w => Fr 18 a ∧ a.eval (.tmp 0) = .slice A n cap ∧ ∃ j : Nat, a.eval (.tmp 3) = .string (sB ((xs.take j).flatten)) ∧ a.eval (.tmp 4) = .int .i64 ↑j ∧ j ≤ n ∧ w = w_) (fun a w => n - (intOf (a.eval (.tmp 4))).toNat) ?_ ?_
  · exact ⟨k, e0, 0, e3, e4, Nat.zero_le _, rfl⟩
  intro a5 w6 hI
  clear k e0
  obtain ⟨k, e0, h_⟩ := hI
  clear e3 e4
  obtain ⟨j, e3, e4, hj, rfl⟩ := h_
  have mj := e4
  refine wp_seq ?_
  refine wp_seq ?_
  refine wp_region_lit ?_   -- region 3
  have hE := Env.refl a5 [5, 6, 7, 8]
  apply sq_det 5 hE k rfl (by rfl) (by rfl) rfl
  case h =>   -- 0: t5 := Op.move (tmp 4)
    exact x_move rfl (hE.eval 4 (by rfl) e4)
  intro a7 hE e5 kp
  apply sq_det 6 hE k rfl (by rfl) (by rfl) rfl
  case h =>   -- 1: t6 := Op.move (tmp 0)
    exact x_move rfl (hE.eval 0 (by rfl) e0)
  intro a8 hE e6 kp
  replace e5 := (kp 5 rfl).trans e5
  apply sq_det 7 hE k rfl (by rfl) (by rfl) rfl
  case h =>   -- 2: t7 := Op.call {callee := Callee.builtin Builtin.len, args := #[tmp 6], argTy
    exact x_len Try.underlying77 rfl e6
  intro a9 hE e7 kp
  replace e5 := (kp 5 rfl).trans e5
  apply sq_det 8 hE k rfl (by rfl) (by rfl) rfl
  case h =>   -- 3: t8 := Op.binOp BinOp.lss 3 (tmp 5) (tmp 7) 3
    exact x_lss rfl e5 e7
  intro a10 hE e8 kp
  refine wpList_nil ?_
  replace e0 := hE.eval 0 (by rfl) e0
  replace e3 := hE.eval 3 (by rfl) e3
  replace e4 := hE.eval 4 (by rfl) e4
  replace k := k.env hE
  clear hE
  refine then_n ?_
  by_cases hlt : j < n
  · have hltI : (j : Int) < (n : Int) := by omega
    refine cond_t e8 (congrArg Value.bool (decide_eq_true (by omega))) ?_
    clear e8
    obtain ⟨s, hx⟩ : ∃ s, xs[j]? = some s := ⟨_, List.getElem?_eq_getElem (by omega)⟩
    obtain ⟨b, o, rfl, cx⟩ := h j s hx
    have hs16 := hs s (List.mem_of_getElem? hx)
    have hft := flat_take_le hs j
    refine wp_skip ?_
    refine then_n ?_
    refine wp_seq ?_
    refine wp_block ?_
    refine wp_region_lit ?_   -- region 5
    have hE := Env.refl a10 [11, 12, 13, 14, 15, 16, 3]
    apply sq_det 11 hE k rfl (by rfl) (by rfl) rfl
    case h =>   -- 0: t11 := Op.move (tmp 3)
      exact x_move rfl e3
    intro a11 hE e11 kp
    replace e3 := (kp 3 rfl).trans e3
    apply sq_det 12 hE k rfl (by rfl) (by rfl) rfl
    case h =>   -- 1: t12 := Op.move (tmp 0)
      exact x_move rfl (hE.eval 0 (by rfl) e0)
    intro a12 hE e12 kp
    replace e3 := (kp 3 rfl).trans e3
    replace e11 := (kp 11 rfl).trans e11
    apply sq_det 13 hE k rfl (by rfl) (by rfl) rfl
    case h =>   -- 2: t13 := Op.move (tmp 4)
      exact x_move rfl (hE.eval 4 (by rfl) e4)
    intro a13 hE e13 kp
    replace e3 := (kp 3 rfl).trans e3
    replace e11 := (kp 11 rfl).trans e11
    replace e12 := (kp 12 rfl).trans e12
    apply sq_det 14 hE k rfl (by rfl) (by rfl) rfl
    case h =>   -- 3: t14 := Op.indexAddr 77 (tmp 12) (tmp 13)
      simp [go_sem, BigFrame.eval_const, BigFrame.eval_global, BigFrame.eval_func, ↓IntWalk.iteOmega, ev e12, ev e13]
      with_reducible rfl
    intro a14 hE e14 kp
    replace e3 := (kp 3 rfl).trans e3
    replace e11 := (kp 11 rfl).trans e11
    apply sq_det 15 hE k rfl (by rfl) (by rfl) rfl
    case h =>   -- 4: t15 := Op.load 9 (tmp 14)
      simp [go_sem, BigFrame.eval_const, BigFrame.eval_global, BigFrame.eval_func, ↓IntWalk.iteOmega, ev e14, cx]
      with_reducible rfl
    intro a15 hE e15 kp
    replace e3 := (kp 3 rfl).trans e3
    replace e11 := (kp 11 rfl).trans e11
    apply sq_det 16 hE k rfl (by rfl) (by rfl) rfl
    case h =>   -- 5: t16 := Op.binOp BinOp.add 9 (tmp 11) (tmp 15) 9
      exact x_cat (l := (xs.take j).flatten) (m := s) rfl e11 e15 (by omega)
    intro a16 hE e16 kp
    replace e3 := (kp 3 rfl).trans e3
    apply sq_det 3 hE k rfl (by rfl) (by rfl) rfl
    case h =>   -- 6: t3 := Op.assign (tmp 16)
      exact x_assign rfl e16
    intro a17 hE e3 kp
    refine wpList_nil ?_
    replace e0 := hE.eval 0 (by rfl) e0
    replace e4 := hE.eval 4 (by rfl) e4
    replace k := k.env hE
    clear hE
    refine block_n ?_
    refine then_n ?_
    refine wp_region_lit ?_   -- region 4
    have hE := Env.refl a17 [9, 10, 4]
    apply sq_det 9 hE k rfl (by rfl) (by rfl) rfl
    case h =>   -- 0: t9 := Op.move (tmp 4)
      exact x_move rfl e4
    intro a18 hE e9 kp
    replace e4 := (kp 4 rfl).trans e4
    apply sq_det 10 hE k rfl (by rfl) (by rfl) rfl
    case h =>   -- 1: t10 := Op.binOp BinOp.add 3 (tmp 9) (const (Value.int IntKind.i64 1)) 3
      exact x_add rfl e9 rfl (by omega)
    intro a19 hE e10 kp
    replace e4 := (kp 4 rfl).trans e4
    apply sq_det 4 hE k rfl (by rfl) (by rfl) rfl
    case h =>   -- 2: t4 := Op.assign (tmp 10)
      exact x_assign rfl e10
    intro a20 hE e4 kp
    refine wpList_nil ?_
    replace e0 := hE.eval 0 (by rfl) e0
    replace e3 := hE.eval 3 (by rfl) e3
    replace k := k.env hE
    clear hE
    refine then_n ?_
    rw [flat_take_succ hx] at e3
    refine ⟨⟨k, e0, j + 1, e3, e4, by omega, rfl⟩, ?_⟩
    rw [e4, mj]; simp only [intOf]; omega
  · have hltI : ¬ (j : Int) < (n : Int) := by omega
    refine cond_f e8 (congrArg Value.bool (decide_eq_false (by omega))) ?_
    clear e0 e4 e8
    refine wp_exit ?_
    refine then_x ?_
    refine then_x ?_
    refine block_x ?_
    refine then_n ?_
    refine wp_seq ?_
    refine wp_region_lit ?_   -- region 6
    have hE := Env.refl a10 [17, 2]
    apply sq_det 17 hE k rfl (by rfl) (by rfl) rfl
    case h =>   -- 0: t17 := Op.move (tmp 3)
      exact x_move rfl (hE.eval 3 (by rfl) e3)
    intro a21 hE e17 kp
    apply sq_det 2 hE k rfl (by rfl) (by rfl) rfl
    case h =>   -- 1: t2 := Op.assign (tmp 17)
      exact x_assign rfl e17
    intro a22 hE e2 kp
    refine wpList_nil ?_
    replace k := k.env hE
    clear hE e3
    refine then_n ?_
    refine wp_ret ?_
    refine ret_F1 rfl k e2 ?_
    exact ⟨by rw [List.take_of_length_le (by omega)], rfl⟩
set_option maxRecDepth 100000 in
set_option maxHeartbeats 4000000 in
theorem fits4_any {ub n c1 : Nat} {B1 : Option Addr} (x y : Int) (w : World) (c0 : w.cell? ⟨ub, 0, none⟩ = some (.slice B1 n c1)) (hn : n ≤ 16384) : Calls Try.prog 88 #[.pointer (some ⟨ub, 0, none⟩), .int .i64 x, .int .i64 y] w fun e w' => e = .returned (.bool (fitsB n x y)) ∧ w = w' := by
  by_cases h0 : 0 ≤ x
  rotate_left
  · skip
    refine calls_F Try.func88 rfl 33 rfl (by rfl) ?_
    intro a1 k hargs
    have e0 : a1.eval (.tmp 0) = .pointer (some ⟨ub, 0, none⟩) := hargs 0 _ rfl
    have e1 : a1.eval (.tmp 1) = .int .i64 x := hargs 1 _ rfl
    have e2 : a1.eval (.tmp 2) = .int .i64 y := hargs 2 _ rfl
    clear hargs
    refine wp_seq ?_
    refine wp_region_lit ?_   -- region 0
    have hE := Env.refl a1 [6]
    apply sq_det 6 hE k rfl (by rfl) (by rfl) rfl
    case h =>   -- 0: t6 := Op.assign (const (Value.bool false))
      exact x_assign rfl rfl
    intro a2 hE e6 kp
    refine wpList_nil ?_
    replace e0 := hE.eval 0 (by rfl) e0
    replace e1 := hE.eval 1 (by rfl) e1
    replace e2 := hE.eval 2 (by rfl) e2
    replace k := k.env hE
    clear hE e6
    refine then_n ?_
    refine wp_seq ?_
    refine wp_region_lit ?_   -- region 1
    have hE := Env.refl a2 [7, 8, 9, 10, 11, 12, 13, 14, 15, 16, 17, 18, 19, 20, 21, 22, 23, 24, 25, 26, 27, 28, 29, 30, 31, 32, 6]
    apply sq_det 7 hE k rfl (by rfl) (by rfl) rfl
    case h =>   -- 0: t7 := Op.move (tmp 1)
      exact x_move rfl (hE.eval 1 (by rfl) e1)
    intro a3 hE e7 kp
    apply sq_det 8 hE k rfl (by rfl) (by rfl) rfl
    case h =>   -- 1: t8 := Op.binOp BinOp.geq 3 (tmp 7) (const (Value.int IntKind.i64 0)) 3
      exact x_dec (x_geq rfl e7 rfl) (decide_eq_false (by omega))
    intro a4 hE e8 kp
    apply sq_det 9 hE k rfl (by rfl) (by rfl) rfl
    case h =>   -- 2: t9 := Op.move (tmp 8)
      exact x_move rfl e8
    intro a5 hE e9 kp
    refine sq_skipg 10 hE k rfl (by rfl) (by rfl) rfl rfl (.inl e9) ?_
    intro a6 hE e10 kp
    replace e9 := (kp 9 rfl).trans e9
    refine sq_skipg 11 hE k rfl (by rfl) (by rfl) rfl rfl (.inl e9) ?_
    intro a7 hE e11 kp
    replace e9 := (kp 9 rfl).trans e9
    apply sq_det 12 hE k rfl (by rfl) (by rfl) rfl
    case h =>   -- 5: t12 := Op.pick (tmp 9) (tmp 11) (const (Value.bool false))
      exact x_pick_f rfl e9 rfl
    intro a8 hE e12 kp
    apply sq_det 13 hE k rfl (by rfl) (by rfl) rfl
    case h =>   -- 6: t13 := Op.move (tmp 12)
      exact x_move rfl e12
    intro a9 hE e13 kp
    refine sq_skipg 14 hE k rfl (by rfl) (by rfl) rfl rfl (.inl e13) ?_
    intro a10 hE e14 kp
    replace e13 := (kp 13 rfl).trans e13
    refine sq_skipg 15 hE k rfl (by rfl) (by rfl) rfl rfl (.inl e13) ?_
    intro a11 hE e15 kp
    replace e13 := (kp 13 rfl).trans e13
    replace e14 := (kp 14 rfl).trans e14
    refine sq_skipg 16 hE k rfl (by rfl) (by rfl) rfl rfl (.inl e13) ?_
    intro a12 hE e16 kp
    replace e13 := (kp 13 rfl).trans e13
    replace e14 := (kp 14 rfl).trans e14
    refine sq_skipg 17 hE k rfl (by rfl) (by rfl) rfl rfl (.inl e13) ?_
    intro a13 hE e17 kp
    replace e13 := (kp 13 rfl).trans e13
    replace e14 := (kp 14 rfl).trans e14
    refine sq_skipg 18 hE k rfl (by rfl) (by rfl) rfl rfl (.inl e13) ?_
    intro a14 hE e18 kp
    replace e13 := (kp 13 rfl).trans e13
    replace e14 := (kp 14 rfl).trans e14
    refine sq_skipg 19 hE k rfl (by rfl) (by rfl) rfl rfl (.inl e13) ?_
    intro a15 hE e19 kp
    replace e13 := (kp 13 rfl).trans e13
    replace e14 := (kp 14 rfl).trans e14
    refine sq_skipg 20 hE k rfl (by rfl) (by rfl) rfl rfl (.inl e13) ?_
    intro a16 hE e20 kp
    replace e13 := (kp 13 rfl).trans e13
    apply sq_det 21 hE k rfl (by rfl) (by rfl) rfl
    case h =>   -- 14: t21 := Op.pick (tmp 13) (tmp 20) (const (Value.bool false))
      exact x_pick_f rfl e13 rfl
    intro a17 hE e21 kp
    apply sq_det 22 hE k rfl (by rfl) (by rfl) rfl
    case h =>   -- 15: t22 := Op.move (tmp 21)
      exact x_move rfl e21
    intro a18 hE e22 kp
    refine sq_skipg 23 hE k rfl (by rfl) (by rfl) rfl rfl (.inl e22) ?_
    intro a19 hE e23 kp
    replace e22 := (kp 22 rfl).trans e22
    refine sq_skipg 24 hE k rfl (by rfl) (by rfl) rfl rfl (.inl e22) ?_
    intro a20 hE e24 kp
    replace e22 := (kp 22 rfl).trans e22
    replace e23 := (kp 23 rfl).trans e23
    refine sq_skipg 25 hE k rfl (by rfl) (by rfl) rfl rfl (.inl e22) ?_
    intro a21 hE e25 kp
    replace e22 := (kp 22 rfl).trans e22
    replace e23 := (kp 23 rfl).trans e23
    refine sq_skipg 26 hE k rfl (by rfl) (by rfl) rfl rfl (.inl e22) ?_
    intro a22 hE e26 kp
    replace e22 := (kp 22 rfl).trans e22
    replace e23 := (kp 23 rfl).trans e23
    refine sq_skipg 27 hE k rfl (by rfl) (by rfl) rfl rfl (.inl e22) ?_
    intro a23 hE e27 kp
    replace e22 := (kp 22 rfl).trans e22
    replace e23 := (kp 23 rfl).trans e23
    refine sq_skipg 28 hE k rfl (by rfl) (by rfl) rfl rfl (.inl e22) ?_
    intro a24 hE e28 kp
    replace e22 := (kp 22 rfl).trans e22
    replace e23 := (kp 23 rfl).trans e23
    refine sq_skipg 29 hE k rfl (by rfl) (by rfl) rfl rfl (.inl e22) ?_
    intro a25 hE e29 kp
    replace e22 := (kp 22 rfl).trans e22
    replace e23 := (kp 23 rfl).trans e23
    replace e28 := (kp 28 rfl).trans e28
    refine sq_skipg 30 hE k rfl (by rfl) (by rfl) rfl rfl (.inl e22) ?_
    intro a26 hE e30 kp
    replace e22 := (kp 22 rfl).trans e22
    replace e23 := (kp 23 rfl).trans e23
    refine sq_skipg 31 hE k rfl (by rfl) (by rfl) rfl rfl (.inl e22) ?_
    intro a27 hE e31 kp
    replace e22 := (kp 22 rfl).trans e22
    apply sq_det 32 hE k rfl (by rfl) (by rfl) rfl
    case h =>   -- 25: t32 := Op.pick (tmp 22) (tmp 31) (const (Value.bool false))
      exact x_pick_f rfl e22 rfl
    intro a28 hE e32 kp
    apply sq_det 6 hE k rfl (by rfl) (by rfl) rfl
    case h =>   -- 26: t6 := Op.assign (tmp 32)
      exact x_assign rfl e32
    intro a29 hE e6 kp
    refine wpList_nil ?_
    replace k := k.env hE
    clear hE e0 e1 e2
    refine then_n ?_
    refine wp_ret ?_
    refine ret_F1 rfl k e6 ?_
    exact ⟨congrArg (fun b => Ending.returned (.bool b)) (show false = fitsB n x y from (decide_eq_false (by omega)).symm), rfl⟩
  by_cases h1 : 0 ≤ y
  rotate_left
  · skip
    refine calls_F Try.func88 rfl 33 rfl (by rfl) ?_
    intro a1 k hargs
    have e0 : a1.eval (.tmp 0) = .pointer (some ⟨ub, 0, none⟩) := hargs 0 _ rfl
    have e1 : a1.eval (.tmp 1) = .int .i64 x := hargs 1 _ rfl
    have e2 : a1.eval (.tmp 2) = .int .i64 y := hargs 2 _ rfl
    clear hargs
    refine wp_seq ?_
    refine wp_region_lit ?_   -- region 0
    have hE := Env.refl a1 [6]
    apply sq_det 6 hE k rfl (by rfl) (by rfl) rfl
    case h =>   -- 0: t6 := Op.assign (const (Value.bool false))
      exact x_assign rfl rfl
    intro a2 hE e6 kp
    refine wpList_nil ?_
    replace e0 := hE.eval 0 (by rfl) e0
    replace e1 := hE.eval 1 (by rfl) e1
    replace e2 := hE.eval 2 (by rfl) e2
    replace k := k.env hE
    clear hE e6
    refine then_n ?_
    refine wp_seq ?_
    refine wp_region_lit ?_   -- region 1
    have hE := Env.refl a2 [7, 8, 9, 10, 11, 12, 13, 14, 15, 16, 17, 18, 19, 20, 21, 22, 23, 24, 25, 26, 27, 28, 29, 30, 31, 32, 6]
    apply sq_det 7 hE k rfl (by rfl) (by rfl) rfl
    case h =>   -- 0: t7 := Op.move (tmp 1)
      exact x_move rfl (hE.eval 1 (by rfl) e1)
    intro a3 hE e7 kp
    apply sq_det 8 hE k rfl (by rfl) (by rfl) rfl
    case h =>   -- 1: t8 := Op.binOp BinOp.geq 3 (tmp 7) (const (Value.int IntKind.i64 0)) 3
      exact x_dec (x_geq rfl e7 rfl) (decide_eq_true (by omega))
    intro a4 hE e8 kp
    apply sq_det 9 hE k rfl (by rfl) (by rfl) rfl
    case h =>   -- 2: t9 := Op.move (tmp 8)
      exact x_move rfl e8
    intro a5 hE e9 kp
    apply sq_detg 10 hE k rfl (by rfl) (by rfl) rfl rfl e9
    case h =>   -- 3: t10 := Op.move (tmp 2)
      exact x_move rfl (hE.eval 2 (by rfl) e2)
    intro a6 hE e10 kp
    replace e9 := (kp 9 rfl).trans e9
    apply sq_detg 11 hE k rfl (by rfl) (by rfl) rfl rfl e9
    case h =>   -- 4: t11 := Op.binOp BinOp.geq 3 (tmp 10) (const (Value.int IntKind.i64 0)) 3
      exact x_dec (x_geq rfl e10 rfl) (decide_eq_false (by omega))
    intro a7 hE e11 kp
    replace e9 := (kp 9 rfl).trans e9
    apply sq_det 12 hE k rfl (by rfl) (by rfl) rfl
    case h =>   -- 5: t12 := Op.pick (tmp 9) (tmp 11) (const (Value.bool false))
      exact x_pick_t rfl e9 e11
    intro a8 hE e12 kp
    apply sq_det 13 hE k rfl (by rfl) (by rfl) rfl
    case h =>   -- 6: t13 := Op.move (tmp 12)
      exact x_move rfl e12
    intro a9 hE e13 kp
    refine sq_skipg 14 hE k rfl (by rfl) (by rfl) rfl rfl (.inl e13) ?_
    intro a10 hE e14 kp
    replace e13 := (kp 13 rfl).trans e13
    refine sq_skipg 15 hE k rfl (by rfl) (by rfl) rfl rfl (.inl e13) ?_
    intro a11 hE e15 kp
    replace e13 := (kp 13 rfl).trans e13
    replace e14 := (kp 14 rfl).trans e14
    refine sq_skipg 16 hE k rfl (by rfl) (by rfl) rfl rfl (.inl e13) ?_
    intro a12 hE e16 kp
    replace e13 := (kp 13 rfl).trans e13
    replace e14 := (kp 14 rfl).trans e14
    refine sq_skipg 17 hE k rfl (by rfl) (by rfl) rfl rfl (.inl e13) ?_
    intro a13 hE e17 kp
    replace e13 := (kp 13 rfl).trans e13
    replace e14 := (kp 14 rfl).trans e14
    refine sq_skipg 18 hE k rfl (by rfl) (by rfl) rfl rfl (.inl e13) ?_
    intro a14 hE e18 kp
    replace e13 := (kp 13 rfl).trans e13
    replace e14 := (kp 14 rfl).trans e14
    refine sq_skipg 19 hE k rfl (by rfl) (by rfl) rfl rfl (.inl e13) ?_
    intro a15 hE e19 kp
    replace e13 := (kp 13 rfl).trans e13
    replace e14 := (kp 14 rfl).trans e14
    refine sq_skipg 20 hE k rfl (by rfl) (by rfl) rfl rfl (.inl e13) ?_
    intro a16 hE e20 kp
    replace e13 := (kp 13 rfl).trans e13
    apply sq_det 21 hE k rfl (by rfl) (by rfl) rfl
    case h =>   -- 14: t21 := Op.pick (tmp 13) (tmp 20) (const (Value.bool false))
      exact x_pick_f rfl e13 rfl
    intro a17 hE e21 kp
    apply sq_det 22 hE k rfl (by rfl) (by rfl) rfl
    case h =>   -- 15: t22 := Op.move (tmp 21)
      exact x_move rfl e21
    intro a18 hE e22 kp
    refine sq_skipg 23 hE k rfl (by rfl) (by rfl) rfl rfl (.inl e22) ?_
    intro a19 hE e23 kp
    replace e22 := (kp 22 rfl).trans e22
    refine sq_skipg 24 hE k rfl (by rfl) (by rfl) rfl rfl (.inl e22) ?_
    intro a20 hE e24 kp
    replace e22 := (kp 22 rfl).trans e22
    replace e23 := (kp 23 rfl).trans e23
    refine sq_skipg 25 hE k rfl (by rfl) (by rfl) rfl rfl (.inl e22) ?_
    intro a21 hE e25 kp
    replace e22 := (kp 22 rfl).trans e22
    replace e23 := (kp 23 rfl).trans e23
    refine sq_skipg 26 hE k rfl (by rfl) (by rfl) rfl rfl (.inl e22) ?_
    intro a22 hE e26 kp
    replace e22 := (kp 22 rfl).trans e22
    replace e23 := (kp 23 rfl).trans e23
    refine sq_skipg 27 hE k rfl (by rfl) (by rfl) rfl rfl (.inl e22) ?_
    intro a23 hE e27 kp
    replace e22 := (kp 22 rfl).trans e22
    replace e23 := (kp 23 rfl).trans e23
    refine sq_skipg 28 hE k rfl (by rfl) (by rfl) rfl rfl (.inl e22) ?_
    intro a24 hE e28 kp
    replace e22 := (kp 22 rfl).trans e22
    replace e23 := (kp 23 rfl).trans e23
    refine sq_skipg 29 hE k rfl (by rfl) (by rfl) rfl rfl (.inl e22) ?_
    intro a25 hE e29 kp
    replace e22 := (kp 22 rfl).trans e22
    replace e23 := (kp 23 rfl).trans e23
    replace e28 := (kp 28 rfl).trans e28
    refine sq_skipg 30 hE k rfl (by rfl) (by rfl) rfl rfl (.inl e22) ?_
    intro a26 hE e30 kp
    replace e22 := (kp 22 rfl).trans e22
    replace e23 := (kp 23 rfl).trans e23
    refine sq_skipg 31 hE k rfl (by rfl) (by rfl) rfl rfl (.inl e22) ?_
    intro a27 hE e31 kp
    replace e22 := (kp 22 rfl).trans e22
    apply sq_det 32 hE k rfl (by rfl) (by rfl) rfl
    case h =>   -- 25: t32 := Op.pick (tmp 22) (tmp 31) (const (Value.bool false))
      exact x_pick_f rfl e22 rfl
    intro a28 hE e32 kp
    apply sq_det 6 hE k rfl (by rfl) (by rfl) rfl
    case h =>   -- 26: t6 := Op.assign (tmp 32)
      exact x_assign rfl e32
    intro a29 hE e6 kp
    refine wpList_nil ?_
    replace k := k.env hE
    clear hE e0 e1 e2
    refine then_n ?_
    refine wp_ret ?_
    refine ret_F1 rfl k e6 ?_
    exact ⟨congrArg (fun b => Ending.returned (.bool b)) (show false = fitsB n x y from (decide_eq_false (by omega)).symm), rfl⟩
  by_cases h2 : x ≤ n
  rotate_left
  · skip
    refine calls_F Try.func88 rfl 33 rfl (by rfl) ?_
    intro a1 k hargs
    have e0 : a1.eval (.tmp 0) = .pointer (some ⟨ub, 0, none⟩) := hargs 0 _ rfl
    have e1 : a1.eval (.tmp 1) = .int .i64 x := hargs 1 _ rfl
    have e2 : a1.eval (.tmp 2) = .int .i64 y := hargs 2 _ rfl
    clear hargs
    refine wp_seq ?_
    refine wp_region_lit ?_   -- region 0
    have hE := Env.refl a1 [6]
    apply sq_det 6 hE k rfl (by rfl) (by rfl) rfl
    case h =>   -- 0: t6 := Op.assign (const (Value.bool false))
      exact x_assign rfl rfl
    intro a2 hE e6 kp
    refine wpList_nil ?_
    replace e0 := hE.eval 0 (by rfl) e0
    replace e1 := hE.eval 1 (by rfl) e1
    replace e2 := hE.eval 2 (by rfl) e2
    replace k := k.env hE
    clear hE e6
    refine then_n ?_
    refine wp_seq ?_
    refine wp_region_lit ?_   -- region 1
    have hE := Env.refl a2 [7, 8, 9, 10, 11, 12, 13, 14, 15, 16, 17, 18, 19, 20, 21, 22, 23, 24, 25, 26, 27, 28, 29, 30, 31, 32, 6]
    apply sq_det 7 hE k rfl (by rfl) (by rfl) rfl
    case h =>   -- 0: t7 := Op.move (tmp 1)
      exact x_move rfl (hE.eval 1 (by rfl) e1)
    intro a3 hE e7 kp
    apply sq_det 8 hE k rfl (by rfl) (by rfl) rfl
    case h =>   -- 1: t8 := Op.binOp BinOp.geq 3 (tmp 7) (const (Value.int IntKind.i64 0)) 3
      exact x_dec (x_geq rfl e7 rfl) (decide_eq_true (by omega))
    intro a4 hE e8 kp
    apply sq_det 9 hE k rfl (by rfl) (by rfl) rfl
    case h =>   -- 2: t9 := Op.move (tmp 8)
      exact x_move rfl e8
    intro a5 hE e9 kp
    apply sq_detg 10 hE k rfl (by rfl) (by rfl) rfl rfl e9
    case h =>   -- 3: t10 := Op.move (tmp 2)
      exact x_move rfl (hE.eval 2 (by rfl) e2)
    intro a6 hE e10 kp
    replace e9 := (kp 9 rfl).trans e9
    apply sq_detg 11 hE k rfl (by rfl) (by rfl) rfl rfl e9
    case h =>   -- 4: t11 := Op.binOp BinOp.geq 3 (tmp 10) (const (Value.int IntKind.i64 0)) 3
      exact x_dec (x_geq rfl e10 rfl) (decide_eq_true (by omega))
    intro a7 hE e11 kp
    replace e9 := (kp 9 rfl).trans e9
    apply sq_det 12 hE k rfl (by rfl) (by rfl) rfl
    case h =>   -- 5: t12 := Op.pick (tmp 9) (tmp 11) (const (Value.bool false))
      exact x_pick_t rfl e9 e11
    intro a8 hE e12 kp
    apply sq_det 13 hE k rfl (by rfl) (by rfl) rfl
    case h =>   -- 6: t13 := Op.move (tmp 12)
      exact x_move rfl e12
    intro a9 hE e13 kp
    apply sq_detg 14 hE k rfl (by rfl) (by rfl) rfl rfl e13
    case h =>   -- 7: t14 := Op.move (tmp 1)
      exact x_move rfl (hE.eval 1 (by rfl) e1)
    intro a10 hE e14 kp
    replace e13 := (kp 13 rfl).trans e13
    apply sq_detg 15 hE k rfl (by rfl) (by rfl) rfl rfl e13
    case h =>   -- 8: t15 := Op.move (tmp 0)
      exact x_move rfl (hE.eval 0 (by rfl) e0)
    intro a11 hE e15 kp
    replace e13 := (kp 13 rfl).trans e13
    replace e14 := (kp 14 rfl).trans e14
    apply sq_detg 16 hE k rfl (by rfl) (by rfl) rfl rfl e13
    case h =>   -- 9: t16 := Op.nilCheck (tmp 15)
      exact x_nil rfl e15
    intro a12 hE e16 kp
    replace e13 := (kp 13 rfl).trans e13
    replace e14 := (kp 14 rfl).trans e14
    apply sq_detg 17 hE k rfl (by rfl) (by rfl) rfl rfl e13
    case h =>   -- 10: t17 := Op.fieldAddr 80 (tmp 16) 0
      simp [go_sem, BigFrame.eval_const, BigFrame.eval_global, BigFrame.eval_func, ↓IntWalk.iteOmega, ev e16]
      with_reducible rfl
    intro a13 hE e17 kp
    replace e13 := (kp 13 rfl).trans e13
    replace e14 := (kp 14 rfl).trans e14
    apply sq_detg 18 hE k rfl (by rfl) (by rfl) rfl rfl e13
    case h =>   -- 11: t18 := Op.load 77 (tmp 17)
      simp [go_sem, BigFrame.eval_const, BigFrame.eval_global, BigFrame.eval_func, ↓IntWalk.iteOmega, ev e17, c0]
      with_reducible rfl
    intro a14 hE e18 kp
    replace e13 := (kp 13 rfl).trans e13
    replace e14 := (kp 14 rfl).trans e14
    apply sq_detg 19 hE k rfl (by rfl) (by rfl) rfl rfl e13
    case h =>   -- 12: t19 := Op.call {callee := Callee.builtin Builtin.len, args := #[tmp 18], argT
      exact x_len Try.underlying77 rfl e18
    intro a15 hE e19 kp
    replace e13 := (kp 13 rfl).trans e13
    replace e14 := (kp 14 rfl).trans e14
    apply sq_detg 20 hE k rfl (by rfl) (by rfl) rfl rfl e13
    case h =>   -- 13: t20 := Op.binOp BinOp.leq 3 (tmp 14) (tmp 19) 3
      exact x_dec (x_leq rfl e14 e19) (decide_eq_false (by omega))
    intro a16 hE e20 kp
    replace e13 := (kp 13 rfl).trans e13
    apply sq_det 21 hE k rfl (by rfl) (by rfl) rfl
    case h =>   -- 14: t21 := Op.pick (tmp 13) (tmp 20) (const (Value.bool false))
      exact x_pick_t rfl e13 e20
    intro a17 hE e21 kp
    apply sq_det 22 hE k rfl (by rfl) (by rfl) rfl
    case h =>   -- 15: t22 := Op.move (tmp 21)
      exact x_move rfl e21
    intro a18 hE e22 kp
    refine sq_skipg 23 hE k rfl (by rfl) (by rfl) rfl rfl (.inl e22) ?_
    intro a19 hE e23 kp
    replace e22 := (kp 22 rfl).trans e22
    refine sq_skipg 24 hE k rfl (by rfl) (by rfl) rfl rfl (.inl e22) ?_
    intro a20 hE e24 kp
    replace e22 := (kp 22 rfl).trans e22
    replace e23 := (kp 23 rfl).trans e23
    refine sq_skipg 25 hE k rfl (by rfl) (by rfl) rfl rfl (.inl e22) ?_
    intro a21 hE e25 kp
    replace e22 := (kp 22 rfl).trans e22
    replace e23 := (kp 23 rfl).trans e23
    refine sq_skipg 26 hE k rfl (by rfl) (by rfl) rfl rfl (.inl e22) ?_
    intro a22 hE e26 kp
    replace e22 := (kp 22 rfl).trans e22
    replace e23 := (kp 23 rfl).trans e23
    refine sq_skipg 27 hE k rfl (by rfl) (by rfl) rfl rfl (.inl e22) ?_
    intro a23 hE e27 kp
    replace e22 := (kp 22 rfl).trans e22
    replace e23 := (kp 23 rfl).trans e23
    refine sq_skipg 28 hE k rfl (by rfl) (by rfl) rfl rfl (.inl e22) ?_
    intro a24 hE e28 kp
    replace e22 := (kp 22 rfl).trans e22
    replace e23 := (kp 23 rfl).trans e23
    refine sq_skipg 29 hE k rfl (by rfl) (by rfl) rfl rfl (.inl e22) ?_
    intro a25 hE e29 kp
    replace e22 := (kp 22 rfl).trans e22
    replace e23 := (kp 23 rfl).trans e23
    replace e28 := (kp 28 rfl).trans e28
    refine sq_skipg 30 hE k rfl (by rfl) (by rfl) rfl rfl (.inl e22) ?_
    intro a26 hE e30 kp
    replace e22 := (kp 22 rfl).trans e22
    replace e23 := (kp 23 rfl).trans e23
    refine sq_skipg 31 hE k rfl (by rfl) (by rfl) rfl rfl (.inl e22) ?_
    intro a27 hE e31 kp
    replace e22 := (kp 22 rfl).trans e22
    apply sq_det 32 hE k rfl (by rfl) (by rfl) rfl
    case h =>   -- 25: t32 := Op.pick (tmp 22) (tmp 31) (const (Value.bool false))
      exact x_pick_f rfl e22 rfl
    intro a28 hE e32 kp
    apply sq_det 6 hE k rfl (by rfl) (by rfl) rfl
    case h =>   -- 26: t6 := Op.assign (tmp 32)
      exact x_assign rfl e32
    intro a29 hE e6 kp
    refine wpList_nil ?_
    replace k := k.env hE
    clear hE e0 e1 e2
    refine then_n ?_
    refine wp_ret ?_
    refine ret_F1 rfl k e6 ?_
    exact ⟨congrArg (fun b => Ending.returned (.bool b)) (show false = fitsB n x y from (decide_eq_false (by omega)).symm), rfl⟩
  by_cases h3 : y ≤ n - x
  rotate_left
  · skip
    refine calls_F Try.func88 rfl 33 rfl (by rfl) ?_
    intro a1 k hargs
    have e0 : a1.eval (.tmp 0) = .pointer (some ⟨ub, 0, none⟩) := hargs 0 _ rfl
    have e1 : a1.eval (.tmp 1) = .int .i64 x := hargs 1 _ rfl
    have e2 : a1.eval (.tmp 2) = .int .i64 y := hargs 2 _ rfl
    clear hargs
    refine wp_seq ?_
    refine wp_region_lit ?_   -- region 0
    have hE := Env.refl a1 [6]
    apply sq_det 6 hE k rfl (by rfl) (by rfl) rfl
    case h =>   -- 0: t6 := Op.assign (const (Value.bool false))
      exact x_assign rfl rfl
    intro a2 hE e6 kp
    refine wpList_nil ?_
    replace e0 := hE.eval 0 (by rfl) e0
    replace e1 := hE.eval 1 (by rfl) e1
    replace e2 := hE.eval 2 (by rfl) e2
    replace k := k.env hE
    clear hE e6
    refine then_n ?_
    refine wp_seq ?_
    refine wp_region_lit ?_   -- region 1
    have hE := Env.refl a2 [7, 8, 9, 10, 11, 12, 13, 14, 15, 16, 17, 18, 19, 20, 21, 22, 23, 24, 25, 26, 27, 28, 29, 30, 31, 32, 6]
    apply sq_det 7 hE k rfl (by rfl) (by rfl) rfl
    case h =>   -- 0: t7 := Op.move (tmp 1)
      exact x_move rfl (hE.eval 1 (by rfl) e1)
    intro a3 hE e7 kp
    apply sq_det 8 hE k rfl (by rfl) (by rfl) rfl
    case h =>   -- 1: t8 := Op.binOp BinOp.geq 3 (tmp 7) (const (Value.int IntKind.i64 0)) 3
      exact x_dec (x_geq rfl e7 rfl) (decide_eq_true (by omega))
    intro a4 hE e8 kp
    apply sq_det 9 hE k rfl (by rfl) (by rfl) rfl
    case h =>   -- 2: t9 := Op.move (tmp 8)
      exact x_move rfl e8
    intro a5 hE e9 kp
    apply sq_detg 10 hE k rfl (by rfl) (by rfl) rfl rfl e9
    case h =>   -- 3: t10 := Op.move (tmp 2)
      exact x_move rfl (hE.eval 2 (by rfl) e2)
    intro a6 hE e10 kp
    replace e9 := (kp 9 rfl).trans e9
    apply sq_detg 11 hE k rfl (by rfl) (by rfl) rfl rfl e9
    case h =>   -- 4: t11 := Op.binOp BinOp.geq 3 (tmp 10) (const (Value.int IntKind.i64 0)) 3
      exact x_dec (x_geq rfl e10 rfl) (decide_eq_true (by omega))
    intro a7 hE e11 kp
    replace e9 := (kp 9 rfl).trans e9
    apply sq_det 12 hE k rfl (by rfl) (by rfl) rfl
    case h =>   -- 5: t12 := Op.pick (tmp 9) (tmp 11) (const (Value.bool false))
      exact x_pick_t rfl e9 e11
    intro a8 hE e12 kp
    apply sq_det 13 hE k rfl (by rfl) (by rfl) rfl
    case h =>   -- 6: t13 := Op.move (tmp 12)
      exact x_move rfl e12
    intro a9 hE e13 kp
    apply sq_detg 14 hE k rfl (by rfl) (by rfl) rfl rfl e13
    case h =>   -- 7: t14 := Op.move (tmp 1)
      exact x_move rfl (hE.eval 1 (by rfl) e1)
    intro a10 hE e14 kp
    replace e13 := (kp 13 rfl).trans e13
    apply sq_detg 15 hE k rfl (by rfl) (by rfl) rfl rfl e13
    case h =>   -- 8: t15 := Op.move (tmp 0)
      exact x_move rfl (hE.eval 0 (by rfl) e0)
    intro a11 hE e15 kp
    replace e13 := (kp 13 rfl).trans e13
    replace e14 := (kp 14 rfl).trans e14
    apply sq_detg 16 hE k rfl (by rfl) (by rfl) rfl rfl e13
    case h =>   -- 9: t16 := Op.nilCheck (tmp 15)
      exact x_nil rfl e15
    intro a12 hE e16 kp
    replace e13 := (kp 13 rfl).trans e13
    replace e14 := (kp 14 rfl).trans e14
    apply sq_detg 17 hE k rfl (by rfl) (by rfl) rfl rfl e13
    case h =>   -- 10: t17 := Op.fieldAddr 80 (tmp 16) 0
      simp [go_sem, BigFrame.eval_const, BigFrame.eval_global, BigFrame.eval_func, ↓IntWalk.iteOmega, ev e16]
      with_reducible rfl
    intro a13 hE e17 kp
    replace e13 := (kp 13 rfl).trans e13
    replace e14 := (kp 14 rfl).trans e14
    apply sq_detg 18 hE k rfl (by rfl) (by rfl) rfl rfl e13
    case h =>   -- 11: t18 := Op.load 77 (tmp 17)
      simp [go_sem, BigFrame.eval_const, BigFrame.eval_global, BigFrame.eval_func, ↓IntWalk.iteOmega, ev e17, c0]
      with_reducible rfl
    intro a14 hE e18 kp
    replace e13 := (kp 13 rfl).trans e13
    replace e14 := (kp 14 rfl).trans e14
    apply sq_detg 19 hE k rfl (by rfl) (by rfl) rfl rfl e13
    case h =>   -- 12: t19 := Op.call {callee := Callee.builtin Builtin.len, args := #[tmp 18], argT
      exact x_len Try.underlying77 rfl e18
    intro a15 hE e19 kp
    replace e13 := (kp 13 rfl).trans e13
    replace e14 := (kp 14 rfl).trans e14
    apply sq_detg 20 hE k rfl (by rfl) (by rfl) rfl rfl e13
    case h =>   -- 13: t20 := Op.binOp BinOp.leq 3 (tmp 14) (tmp 19) 3
      exact x_dec (x_leq rfl e14 e19) (decide_eq_true (by omega))
    intro a16 hE e20 kp
    replace e13 := (kp 13 rfl).trans e13
    apply sq_det 21 hE k rfl (by rfl) (by rfl) rfl
    case h =>   -- 14: t21 := Op.pick (tmp 13) (tmp 20) (const (Value.bool false))
      exact x_pick_t rfl e13 e20
    intro a17 hE e21 kp
    apply sq_det 22 hE k rfl (by rfl) (by rfl) rfl
    case h =>   -- 15: t22 := Op.move (tmp 21)
      exact x_move rfl e21
    intro a18 hE e22 kp
    apply sq_detg 23 hE k rfl (by rfl) (by rfl) rfl rfl e22
    case h =>   -- 16: t23 := Op.move (tmp 2)
      exact x_move rfl (hE.eval 2 (by rfl) e2)
    intro a19 hE e23 kp
    replace e22 := (kp 22 rfl).trans e22
    apply sq_detg 24 hE k rfl (by rfl) (by rfl) rfl rfl e22
    case h =>   -- 17: t24 := Op.move (tmp 0)
      exact x_move rfl (hE.eval 0 (by rfl) e0)
    intro a20 hE e24 kp
    replace e22 := (kp 22 rfl).trans e22
    replace e23 := (kp 23 rfl).trans e23
    apply sq_detg 25 hE k rfl (by rfl) (by rfl) rfl rfl e22
    case h =>   -- 18: t25 := Op.nilCheck (tmp 24)
      exact x_nil rfl e24
    intro a21 hE e25 kp
    replace e22 := (kp 22 rfl).trans e22
    replace e23 := (kp 23 rfl).trans e23
    apply sq_detg 26 hE k rfl (by rfl) (by rfl) rfl rfl e22
    case h =>   -- 19: t26 := Op.fieldAddr 80 (tmp 25) 0
      simp [go_sem, BigFrame.eval_const, BigFrame.eval_global, BigFrame.eval_func, ↓IntWalk.iteOmega, ev e25]
      with_reducible rfl
    intro a22 hE e26 kp
    replace e22 := (kp 22 rfl).trans e22
    replace e23 := (kp 23 rfl).trans e23
    apply sq_detg 27 hE k rfl (by rfl) (by rfl) rfl rfl e22
    case h =>   -- 20: t27 := Op.load 77 (tmp 26)
      simp [go_sem, BigFrame.eval_const, BigFrame.eval_global, BigFrame.eval_func, ↓IntWalk.iteOmega, ev e26, c0]
      with_reducible rfl
    intro a23 hE e27 kp
    replace e22 := (kp 22 rfl).trans e22
    replace e23 := (kp 23 rfl).trans e23
    apply sq_detg 28 hE k rfl (by rfl) (by rfl) rfl rfl e22
    case h =>   -- 21: t28 := Op.call {callee := Callee.builtin Builtin.len, args := #[tmp 27], argT
      exact x_len Try.underlying77 rfl e27
    intro a24 hE e28 kp
    replace e22 := (kp 22 rfl).trans e22
    replace e23 := (kp 23 rfl).trans e23
    apply sq_detg 29 hE k rfl (by rfl) (by rfl) rfl rfl e22
    case h =>   -- 22: t29 := Op.move (tmp 1)
      exact x_move rfl (hE.eval 1 (by rfl) e1)
    intro a25 hE e29 kp
    replace e22 := (kp 22 rfl).trans e22
    replace e23 := (kp 23 rfl).trans e23
    replace e28 := (kp 28 rfl).trans e28
    apply sq_detg 30 hE k rfl (by rfl) (by rfl) rfl rfl e22
    case h =>   -- 23: t30 := Op.binOp BinOp.sub 3 (tmp 28) (tmp 29) 3
      exact x_sub rfl e28 e29 (by omega)
    intro a26 hE e30 kp
    replace e22 := (kp 22 rfl).trans e22
    replace e23 := (kp 23 rfl).trans e23
    apply sq_detg 31 hE k rfl (by rfl) (by rfl) rfl rfl e22
    case h =>   -- 24: t31 := Op.binOp BinOp.leq 3 (tmp 23) (tmp 30) 3
      exact x_dec (x_leq rfl e23 e30) (decide_eq_false (by omega))
    intro a27 hE e31 kp
    replace e22 := (kp 22 rfl).trans e22
    apply sq_det 32 hE k rfl (by rfl) (by rfl) rfl
    case h =>   -- 25: t32 := Op.pick (tmp 22) (tmp 31) (const (Value.bool false))
      exact x_pick_t rfl e22 e31
    intro a28 hE e32 kp
    apply sq_det 6 hE k rfl (by rfl) (by rfl) rfl
    case h =>   -- 26: t6 := Op.assign (tmp 32)
      exact x_assign rfl e32
    intro a29 hE e6 kp
    refine wpList_nil ?_
    replace k := k.env hE
    clear hE e0 e1 e2
    refine then_n ?_
    refine wp_ret ?_
    refine ret_F1 rfl k e6 ?_
    exact ⟨congrArg (fun b => Ending.returned (.bool b)) (show false = fitsB n x y from (decide_eq_false (by omega)).symm), rfl⟩
  refine calls_F Try.func88 rfl 33 rfl (by rfl) ?_
  intro a1 k hargs
  have e0 : a1.eval (.tmp 0) = .pointer (some ⟨ub, 0, none⟩) := hargs 0 _ rfl
  have e1 : a1.eval (.tmp 1) = .int .i64 x := hargs 1 _ rfl
  have e2 : a1.eval (.tmp 2) = .int .i64 y := hargs 2 _ rfl
  clear hargs
  refine wp_seq ?_
  refine wp_region_lit ?_   -- region 0
  have hE := Env.refl a1 [6]
  apply sq_det 6 hE k rfl (by rfl) (by rfl) rfl
  case h =>   -- 0: t6 := Op.assign (const (Value.bool false))
    exact x_assign rfl rfl
  intro a2 hE e6 kp
  refine wpList_nil ?_
  replace e0 := hE.eval 0 (by rfl) e0
  replace e1 := hE.eval 1 (by rfl) e1
  replace e2 := hE.eval 2 (by rfl) e2
  replace k := k.env hE
  clear hE e6
  refine then_n ?_
  refine wp_seq ?_
  refine wp_region_lit ?_   -- region 1
  have hE := Env.refl a2 [7, 8, 9, 10, 11, 12, 13, 14, 15, 16, 17, 18, 19, 20, 21, 22, 23, 24, 25, 26, 27, 28, 29, 30, 31, 32, 6]
  apply sq_det 7 hE k rfl (by rfl) (by rfl) rfl
  case h =>   -- 0: t7 := Op.move (tmp 1)
    exact x_move rfl (hE.eval 1 (by rfl) e1)
  intro a3 hE e7 kp
  apply sq_det 8 hE k rfl (by rfl) (by rfl) rfl
  case h =>   -- 1: t8 := Op.binOp BinOp.geq 3 (tmp 7) (const (Value.int IntKind.i64 0)) 3
    exact x_dec (x_geq rfl e7 rfl) (decide_eq_true (by omega))
  intro a4 hE e8 kp
  apply sq_det 9 hE k rfl (by rfl) (by rfl) rfl
  case h =>   -- 2: t9 := Op.move (tmp 8)
    exact x_move rfl e8
  intro a5 hE e9 kp
  apply sq_detg 10 hE k rfl (by rfl) (by rfl) rfl rfl e9
  case h =>   -- 3: t10 := Op.move (tmp 2)
    exact x_move rfl (hE.eval 2 (by rfl) e2)
  intro a6 hE e10 kp
  replace e9 := (kp 9 rfl).trans e9
  apply sq_detg 11 hE k rfl (by rfl) (by rfl) rfl rfl e9
  case h =>   -- 4: t11 := Op.binOp BinOp.geq 3 (tmp 10) (const (Value.int IntKind.i64 0)) 3
    exact x_dec (x_geq rfl e10 rfl) (decide_eq_true (by omega))
  intro a7 hE e11 kp
  replace e9 := (kp 9 rfl).trans e9
  apply sq_det 12 hE k rfl (by rfl) (by rfl) rfl
  case h =>   -- 5: t12 := Op.pick (tmp 9) (tmp 11) (const (Value.bool false))
    exact x_pick_t rfl e9 e11
  intro a8 hE e12 kp
  apply sq_det 13 hE k rfl (by rfl) (by rfl) rfl
  case h =>   -- 6: t13 := Op.move (tmp 12)
    exact x_move rfl e12
  intro a9 hE e13 kp
  apply sq_detg 14 hE k rfl (by rfl) (by rfl) rfl rfl e13
  case h =>   -- 7: t14 := Op.move (tmp 1)
    exact x_move rfl (hE.eval 1 (by rfl) e1)
  intro a10 hE e14 kp
  replace e13 := (kp 13 rfl).trans e13
  apply sq_detg 15 hE k rfl (by rfl) (by rfl) rfl rfl e13
  case h =>   -- 8: t15 := Op.move (tmp 0)
    exact x_move rfl (hE.eval 0 (by rfl) e0)
  intro a11 hE e15 kp
  replace e13 := (kp 13 rfl).trans e13
  replace e14 := (kp 14 rfl).trans e14
  apply sq_detg 16 hE k rfl (by rfl) (by rfl) rfl rfl e13
  case h =>   -- 9: t16 := Op.nilCheck (tmp 15)
    exact x_nil rfl e15
  intro a12 hE e16 kp
  replace e13 := (kp 13 rfl).trans e13
  replace e14 := (kp 14 rfl).trans e14
  apply sq_detg 17 hE k rfl (by rfl) (by rfl) rfl rfl e13
  case h =>   -- 10: t17 := Op.fieldAddr 80 (tmp 16) 0
    simp [go_sem, BigFrame.eval_const, BigFrame.eval_global, BigFrame.eval_func, ↓IntWalk.iteOmega, ev e16]
    with_reducible rfl
  intro a13 hE e17 kp
  replace e13 := (kp 13 rfl).trans e13
  replace e14 := (kp 14 rfl).trans e14
  apply sq_detg 18 hE k rfl (by rfl) (by rfl) rfl rfl e13
  case h =>   -- 11: t18 := Op.load 77 (tmp 17)
    simp [go_sem, BigFrame.eval_const, BigFrame.eval_global, BigFrame.eval_func, ↓IntWalk.iteOmega, ev e17, c0]
    with_reducible rfl
  intro a14 hE e18 kp
  replace e13 := (kp 13 rfl).trans e13
  replace e14 := (kp 14 rfl).trans e14
  apply sq_detg 19 hE k rfl (by rfl) (by rfl) rfl rfl e13
  case h =>   -- 12: t19 := Op.call {callee := Callee.builtin Builtin.len, args := #[tmp 18], argT
    exact x_len Try.underlying77 rfl e18
  intro a15 hE e19 kp
  replace e13 := (kp 13 rfl).trans e13
  replace e14 := (kp 14 rfl).trans e14
  apply sq_detg 20 hE k rfl (by rfl) (by rfl) rfl rfl e13
  case h =>   -- 13: t20 := Op.binOp BinOp.leq 3 (tmp 14) (tmp 19) 3
    exact x_dec (x_leq rfl e14 e19) (decide_eq_true (by omega))
  intro a16 hE e20 kp
  replace e13 := (kp 13 rfl).trans e13
  apply sq_det 21 hE k rfl (by rfl) (by rfl) rfl
  case h =>   -- 14: t21 := Op.pick (tmp 13) (tmp 20) (const (Value.bool false))
    exact x_pick_t rfl e13 e20
  intro a17 hE e21 kp
  apply sq_det 22 hE k rfl (by rfl) (by rfl) rfl
  case h =>   -- 15: t22 := Op.move (tmp 21)
    exact x_move rfl e21
  intro a18 hE e22 kp
  apply sq_detg 23 hE k rfl (by rfl) (by rfl) rfl rfl e22
  case h =>   -- 16: t23 := Op.move (tmp 2)
    exact x_move rfl (hE.eval 2 (by rfl) e2)
  intro a19 hE e23 kp
  replace e22 := (kp 22 rfl).trans e22
  apply sq_detg 24 hE k rfl (by rfl) (by rfl) rfl rfl e22
  case h =>   -- 17: t24 := Op.move (tmp 0)
    exact x_move rfl (hE.eval 0 (by rfl) e0)
  intro a20 hE e24 kp
  replace e22 := (kp 22 rfl).trans e22
  replace e23 := (kp 23 rfl).trans e23
  apply sq_detg 25 hE k rfl (by rfl) (by rfl) rfl rfl e22
  case h =>   -- 18: t25 := Op.nilCheck (tmp 24)
    exact x_nil rfl e24
  intro a21 hE e25 kp
  replace e22 := (kp 22 rfl).trans e22
  replace e23 := (kp 23 rfl).trans e23
  apply sq_detg 26 hE k rfl (by rfl) (by rfl) rfl rfl e22
  case h =>   -- 19: t26 := Op.fieldAddr 80 (tmp 25) 0
    simp [go_sem, BigFrame.eval_const, BigFrame.eval_global, BigFrame.eval_func, ↓IntWalk.iteOmega, ev e25]
    with_reducible rfl
  intro a22 hE e26 kp
  replace e22 := (kp 22 rfl).trans e22
  replace e23 := (kp 23 rfl).trans e23
  apply sq_detg 27 hE k rfl (by rfl) (by rfl) rfl rfl e22
  case h =>   -- 20: t27 := Op.load 77 (tmp 26)
    simp [go_sem, BigFrame.eval_const, BigFrame.eval_global, BigFrame.eval_func, ↓IntWalk.iteOmega, ev e26, c0]
    with_reducible rfl
  intro a23 hE e27 kp
  replace e22 := (kp 22 rfl).trans e22
  replace e23 := (kp 23 rfl).trans e23
  apply sq_detg 28 hE k rfl (by rfl) (by rfl) rfl rfl e22
  case h =>   -- 21: t28 := Op.call {callee := Callee.builtin Builtin.len, args := #[tmp 27], argT
    exact x_len Try.underlying77 rfl e27
  intro a24 hE e28 kp
  replace e22 := (kp 22 rfl).trans e22
  replace e23 := (kp 23 rfl).trans e23
  apply sq_detg 29 hE k rfl (by rfl) (by rfl) rfl rfl e22
  case h =>   -- 22: t29 := Op.move (tmp 1)
    exact x_move rfl (hE.eval 1 (by rfl) e1)
  intro a25 hE e29 kp
  replace e22 := (kp 22 rfl).trans e22
  replace e23 := (kp 23 rfl).trans e23
  replace e28 := (kp 28 rfl).trans e28
  apply sq_detg 30 hE k rfl (by rfl) (by rfl) rfl rfl e22
  case h =>   -- 23: t30 := Op.binOp BinOp.sub 3 (tmp 28) (tmp 29) 3
    exact x_sub rfl e28 e29 (by omega)
  intro a26 hE e30 kp
  replace e22 := (kp 22 rfl).trans e22
  replace e23 := (kp 23 rfl).trans e23
  apply sq_detg 31 hE k rfl (by rfl) (by rfl) rfl rfl e22
  case h =>   -- 24: t31 := Op.binOp BinOp.leq 3 (tmp 23) (tmp 30) 3
    exact x_dec (x_leq rfl e23 e30) (decide_eq_true (by omega))
  intro a27 hE e31 kp
  replace e22 := (kp 22 rfl).trans e22
  apply sq_det 32 hE k rfl (by rfl) (by rfl) rfl
  case h =>   -- 25: t32 := Op.pick (tmp 22) (tmp 31) (const (Value.bool false))
    exact x_pick_t rfl e22 e31
  intro a28 hE e32 kp
  apply sq_det 6 hE k rfl (by rfl) (by rfl) rfl
  case h =>   -- 26: t6 := Op.assign (tmp 32)
    exact x_assign rfl e32
  intro a29 hE e6 kp
  refine wpList_nil ?_
  replace k := k.env hE
  clear hE e0 e1 e2
  refine then_n ?_
  refine wp_ret ?_
  refine ret_F1 rfl k e6 ?_
  exact ⟨congrArg (fun b => Ending.returned (.bool b)) (show true = fitsB n x y from (decide_eq_true (by omega)).symm), rfl⟩
set_option maxRecDepth 100000 in
set_option maxHeartbeats 4000000 in
theorem rflush4_any {H : Nat} {A0 : World} {R : List Thing} {ub n c1 c2 c3 : Nat} {B1 B2 B3 : Option Addr} (X S : List Sec) (Y : List Bool) (w : World) (O : OwnT H A0 ((tBlk ub 80 #[.slice B1 n c1, .slice B2 n c2, .slice B3 n c3]) :: (tRow 9 1 (.slice B1 n c1) n (strsV X)) :: (tRow 9 1 (.slice B2 n c2) n (strsV S)) :: (tRow 4 1 (.slice B3 n c3) n (boolsV Y)) :: R) w) (hX : X.length = n) (hS : S.length = n) (hY : Y.length = n) (hn : n ≤ 16384) : Calls Try.prog 89 #[.pointer (some ⟨ub, 0, none⟩)] w fun e w' => e = .returned (.tuple #[]) ∧ OwnT H A0 ((tBlk ub 80 #[.slice B1 n c1, .slice B2 n c2, .slice B3 n c3]) :: (tRow 9 1 (.slice B1 n c1) n (strsV X)) :: (tRow 9 1 (.slice B2 n c2) n (strsV X)) :: (tRow 4 1 (.slice B3 n c3) n (boolsV (List.replicate n false))) :: R) w' := by
  refine calls_F Try.func89 rfl 31 rfl (by rfl) ?_
  intro a1 k hargs
  have e0 : a1.eval (.tmp 0) = .pointer (some ⟨ub, 0, none⟩) := hargs 0 _ rfl
  clear hargs
  refine wp_seq ?_
  refine wp_region_lit ?_   -- region 0
  have hE := Env.refl a1 [2]
  apply sq_det 2 hE k rfl (by rfl) (by rfl) rfl
  case h =>   -- 0: t2 := Op.assign (const (Value.int IntKind.i64 0))
    exact x_assign rfl rfl
  intro a2 hE e2 kp
  refine wpList_nil ?_
  replace e0 := hE.eval 0 (by rfl) e0
  replace k := k.env hE
  clear hE
  refine then_n ?_
  refine wp_block ?_
  refine wp_loop (fun a w => Fr 31 a ∧ a.eval (.tmp 0) = .pointer (some ⟨ub, 0, none⟩) ∧ ∃ j : Nat, a.eval (.tmp 2) = .int .i64 ↑j ∧ j ≤ n ∧ OwnT H A0 ((tBlk ub 80 #[.slice B1 n c1, .slice B2 n c2, .slice B3 n c3]) :: (tRow 9 1 (.slice B1 n c1) n (strsV X)) :: (tRow 9 1 (.slice B2 n c2) n (strsV (flJ n j X S))) :: (tRow 4 1 (.slice B3 n c3) n (boolsV (blJ n j Y))) :: R) w) (fun a w => n - (intOf (a.eval (.tmp 2))).toNat) ?_ ?_
  · exact ⟨k, e0, 0, e2, Nat.zero_le _, (by rw [flJ_zero hS, blJ_zero hY]; exact O)⟩
  intro a3 w4 hI
  clear k e0
  obtain ⟨k, e0, h_⟩ := hI
  clear O e2
  obtain ⟨j, e2, hj, O⟩ := h_
  have mj := e2
  refine wp_seq ?_
  refine wp_seq ?_
  refine wp_region_lit ?_   -- region 1
  have hE := Env.refl a3 [3, 4, 5, 6, 7, 8, 9]
  apply sq_det 3 hE k rfl (by rfl) (by rfl) rfl
  case h =>   -- 0: t3 := Op.move (tmp 2)
    exact x_move rfl (hE.eval 2 (by rfl) e2)
  intro a5 hE e3 kp
  apply sq_det 4 hE k rfl (by rfl) (by rfl) rfl
  case h =>   -- 1: t4 := Op.move (tmp 0)
    exact x_move rfl (hE.eval 0 (by rfl) e0)
  intro a6 hE e4 kp
  replace e3 := (kp 3 rfl).trans e3
  apply sq_det 5 hE k rfl (by rfl) (by rfl) rfl
  case h =>   -- 2: t5 := Op.nilCheck (tmp 4)
    exact x_nil rfl e4
  intro a7 hE e5 kp
  replace e3 := (kp 3 rfl).trans e3
  apply sq_det 6 hE k rfl (by rfl) (by rfl) rfl
  case h =>   -- 3: t6 := Op.fieldAddr 80 (tmp 5) 0
    simp [go_sem, BigFrame.eval_const, BigFrame.eval_global, BigFrame.eval_func, ↓IntWalk.iteOmega, ev e5]
    with_reducible rfl
  intro a8 hE e6 kp
  replace e3 := (kp 3 rfl).trans e3
  apply sq_det 7 hE k rfl (by rfl) (by rfl) rfl
  case h =>   -- 4: t7 := Op.load 77 (tmp 6)
    have q0 : w4.cell? ⟨ub, 0, none⟩ = some (.slice B1 n c1) := (OwnT.blk O 0 rfl).cell 0
    simp [go_sem, BigFrame.eval_const, BigFrame.eval_global, BigFrame.eval_func, ↓IntWalk.iteOmega, ev e6, q0]
    with_reducible rfl
  intro a9 hE e7 kp
  replace e3 := (kp 3 rfl).trans e3
  apply sq_det 8 hE k rfl (by rfl) (by rfl) rfl
  case h =>   -- 5: t8 := Op.call {callee := Callee.builtin Builtin.len, args := #[tmp 7], argTy
    exact x_len Try.underlying77 rfl e7
  intro a10 hE e8 kp
  replace e3 := (kp 3 rfl).trans e3
  apply sq_det 9 hE k rfl (by rfl) (by rfl) rfl
  case h =>   -- 6: t9 := Op.binOp BinOp.lss 3 (tmp 3) (tmp 8) 3
    exact x_lss rfl e3 e8
  intro a11 hE e9 kp
  refine wpList_nil ?_
  replace e0 := hE.eval 0 (by rfl) e0
  replace e2 := hE.eval 2 (by rfl) e2
  replace k := k.env hE
  clear hE
  refine then_n ?_
  by_cases hlt : j < n
  · have hltI : (j : Int) < (n : Int) := by omega
    refine cond_t e9 (congrArg Value.bool (decide_eq_true (by omega))) ?_
    clear e9
    obtain ⟨g1, z1, h1, -⟩ := row1_some (OwnT.get O 1 rfl) (by omega)
    injection h1 with h1 _ h1'
    subst h1 h1'
    obtain ⟨g2, z2, h2, -⟩ := row1_some (OwnT.get O 2 rfl) (by omega)
    injection h2 with h2 _ h2'
    subst h2 h2'
    obtain ⟨g3, z3, h3, -⟩ := row1_some (OwnT.get O 3 rfl) (by omega)
    injection h3 with h3 _ h3'
    subst h3 h3'
    
    obtain ⟨x, hx⟩ : ∃ x, X[j]? = some x := ⟨_, List.getElem?_eq_getElem (by omega)⟩
    have cx : w4.cell? ⟨g1, j, none⟩ = some (.string (sB x)) := (row1_cell (OwnT.get O 1 rfl) (i := j) (v := .string (sB x)) (by simp only [strsV, List.getElem?_map, hx, Option.map_some])).1
    refine wp_skip ?_
    refine then_n ?_
    refine wp_seq ?_
    refine wp_block ?_
    refine wp_seq ?_
    refine wp_typed (R := Ext) (w0 := w4) [[], [0], [0, 1], [0, 1, 2], [], [], [5], [5, 6], [5, 6, 7], [], [5, 6, 7, 8, 9], [5, 6, 7, 8, 9, 10], [0, 1, 2, 3, 4, 5, 6, 7, 8, 9, 10, 11], [0, 1, 2, 3, 4, 5, 6, 7, 8, 9, 10, 11, 12]] [12, 13, 14, 15, 16, 17, 18, 19, 20, 21, 22, 23, 24] Ext.refl (fun _ _ _ => Ext.trans) (Ext.drew _) (by kernel_rfl) ?_   -- region 3
    apply Build.det 12 Ext.refl (by rfl) (by rw [k.size]; rfl) rfl
    case h =>   -- 0: t12 := Op.move (tmp 0)
      intro ax wx hE hR hF
      exact x_move rfl (hE.eval 0 (by rfl) e0)
    apply Build.det 13 Ext.refl (by rfl) (by rw [k.size]; rfl) rfl
    case h =>   -- 1: t13 := Op.nilCheck (tmp 12)
      intro ax wx hE hR hF
      have e12 : ax.eval (.tmp 12) = _ := hF 0 (det 12 _) (by decide) (.head _)
      exact x_nil rfl e12
    apply Build.det 14 Ext.refl (by rfl) (by rw [k.size]; rfl) rfl
    case h =>   -- 2: t14 := Op.fieldAddr 80 (tmp 13) 1
      intro ax wx hE hR hF
      have e13 : ax.eval (.tmp 13) = _ := hF 1 (det 13 _) (by decide) (.head _)
      simp [go_sem, BigFrame.eval_const, BigFrame.eval_global, BigFrame.eval_func, ↓IntWalk.iteOmega, ev e13]
      with_reducible rfl
    apply Build.det 15 Ext.refl (by rfl) (by rw [k.size]; rfl) rfl
    case h =>   -- 3: t15 := Op.load 77 (tmp 14)
      intro ax wx hE hR hF
      have e14 : ax.eval (.tmp 14) = _ := hF 2 (det 14 _) (by decide) (.head _)
      have q0 : wx.cell? ⟨ub, 1, none⟩ = some (.slice (some ⟨g2, 0, none⟩) n c2) := (OwnT.blk (OwnT.ext O hR) 0 rfl).cell 1
      simp [go_sem, BigFrame.eval_const, BigFrame.eval_global, BigFrame.eval_func, ↓IntWalk.iteOmega, ev e14, q0]
      with_reducible rfl
    apply Build.det 16 Ext.refl (by rfl) (by rw [k.size]; rfl) rfl
    case h =>   -- 4: t16 := Op.move (tmp 2)
      intro ax wx hE hR hF
      exact x_move rfl (hE.eval 2 (by rfl) e2)
    apply Build.det 17 Ext.refl (by rfl) (by rw [k.size]; rfl) rfl
    case h =>   -- 5: t17 := Op.move (tmp 0)
      intro ax wx hE hR hF
      exact x_move rfl (hE.eval 0 (by rfl) e0)
    apply Build.det 18 Ext.refl (by rfl) (by rw [k.size]; rfl) rfl
    case h =>   -- 6: t18 := Op.nilCheck (tmp 17)
      intro ax wx hE hR hF
      have e17 : ax.eval (.tmp 17) = _ := hF 5 (det 17 _) (by decide) (.head _)
      exact x_nil rfl e17
    apply Build.det 19 Ext.refl (by rfl) (by rw [k.size]; rfl) rfl
    case h =>   -- 7: t19 := Op.fieldAddr 80 (tmp 18) 0
      intro ax wx hE hR hF
      have e18 : ax.eval (.tmp 18) = _ := hF 6 (det 18 _) (by decide) (.head _)
      simp [go_sem, BigFrame.eval_const, BigFrame.eval_global, BigFrame.eval_func, ↓IntWalk.iteOmega, ev e18]
      with_reducible rfl
    apply Build.det 20 Ext.refl (by rfl) (by rw [k.size]; rfl) rfl
    case h =>   -- 8: t20 := Op.load 77 (tmp 19)
      intro ax wx hE hR hF
      have e19 : ax.eval (.tmp 19) = _ := hF 7 (det 19 _) (by decide) (.head _)
      have q0 : wx.cell? ⟨ub, 0, none⟩ = some (.slice (some ⟨g1, 0, none⟩) n c1) := (OwnT.blk (OwnT.ext O hR) 0 rfl).cell 0
      simp [go_sem, BigFrame.eval_const, BigFrame.eval_global, BigFrame.eval_func, ↓IntWalk.iteOmega, ev e19, q0]
      with_reducible rfl
    apply Build.det 21 Ext.refl (by rfl) (by rw [k.size]; rfl) rfl
    case h =>   -- 9: t21 := Op.move (tmp 2)
      intro ax wx hE hR hF
      exact x_move rfl (hE.eval 2 (by rfl) e2)
    apply Build.det 22 Ext.refl (by rfl) (by rw [k.size]; rfl) rfl
    case h =>   -- 10: t22 := Op.indexAddr 77 (tmp 20) (tmp 21)
      intro ax wx hE hR hF
      have e20 : ax.eval (.tmp 20) = _ := hF 8 (det 20 _) (by decide) (.tail _ (.head _))
      have e21 : ax.eval (.tmp 21) = _ := hF 9 (det 21 _) (by decide) (.head _)
      simp [go_sem, BigFrame.eval_const, BigFrame.eval_global, BigFrame.eval_func, ↓IntWalk.iteOmega, ev e20, ev e21]
      with_reducible rfl
    apply Build.det 23 Ext.refl (by rfl) (by rw [k.size]; rfl) rfl
    case h =>   -- 11: t23 := Op.load 9 (tmp 22)
      intro ax wx hE hR hF
      have e22 : ax.eval (.tmp 22) = _ := hF 10 (det 22 _) (by decide) (.head _)
      have cx' : wx.cell? ⟨g1, j, none⟩ = some (.string (sB x)) := (row1_cell (OwnT.get (OwnT.ext O hR) 1 rfl) (i := j) (v := .string (sB x)) (by simp only [strsV, List.getElem?_map, hx, Option.map_some])).1
      simp [go_sem, BigFrame.eval_const, BigFrame.eval_global, BigFrame.eval_func, ↓IntWalk.iteOmega, ev e22, cx']
      with_reducible rfl
    apply Build.det 24 Ext.refl (by rfl) (by rw [k.size]; rfl) rfl
    case h =>   -- 12: t24 := Op.indexAddr 77 (tmp 15) (tmp 16)
      intro ax wx hE hR hF
      have e15 : ax.eval (.tmp 15) = _ := hF 3 (det 15 _) (by decide) (.tail _ (.tail _ (.tail _ (.tail _ (.tail _ (.tail _ (.tail _ (.tail _ (.head _)))))))))
      have e16 : ax.eval (.tmp 16) = _ := hF 4 (det 16 _) (by decide) (.tail _ (.tail _ (.tail _ (.tail _ (.tail _ (.tail _ (.tail _ (.head _))))))))
      simp [go_sem, BigFrame.eval_const, BigFrame.eval_global, BigFrame.eval_func, ↓IntWalk.iteOmega, ev e15, ev e16]
      with_reducible rfl
    apply Build.stop
    refine ⟨by kernel_rfl, .inr ⟨by kernel_rfl, _, rfl, rfl, ?_⟩⟩
    intro a12 w13 hE R hF
    have e23 : a12.eval (.tmp 23) = _ := hF 11 (det 23 _) (.tail _ (.head _))
    have e24 : a12.eval (.tmp 24) = _ := hF 12 (det 24 _) (.head _)
    clear hF
    replace O := OwnT.ext O R
    clear R
    obtain ⟨hc, hfz⟩ := row1_cell (OwnT.get O 2 rfl) (i := j) (List.getElem?_eq_getElem (by simp only [strsV, List.length_map, flJ_len]; omega))
    refine last_skip (w' := w13.setCell ⟨g2, j, none⟩ (.string (sB x))) rfl (by simp [go_sem, BigFrame.eval_const, BigFrame.eval_global, BigFrame.eval_func, ↓IntWalk.iteOmega, ev e24, ev e23, hc, hfz]) ?_
    replace O := OwnT.push (L := _ :: _ :: _ :: _ :: R) 2 rfl ((OwnT.pull O 2 rfl).setRow1 (i := j) hlt (.string (sB x)))
    clear hc hfz
    rw [← strsV_set, flJ_set hx] at O
    generalize (w13.setCell ⟨g2, j, none⟩ (.string (sB x))) = w14 at O ⊢
    replace e0 := hE.eval 0 (by rfl) e0
    replace e2 := hE.eval 2 (by rfl) e2
    replace k := k.env hE
    clear hE e23 e24
    refine then_n ?_
    clear cx
    obtain ⟨hc, hfz⟩ := row1_cell (OwnT.get O 3 rfl) (i := j) (List.getElem?_eq_getElem (by simp only [boolsV, List.length_map, blJ_len]; omega))
    refine wp_region_lit ?_   -- region 4
    have hE := Env.refl a12 [25, 26, 27, 28, 29, 30]
    apply sq_det 25 hE k rfl (by rfl) (by rfl) rfl
    case h =>   -- 0: t25 := Op.move (tmp 0)
      exact x_move rfl (hE.eval 0 (by rfl) e0)
    intro a15 hE e25 kp
    apply sq_det 26 hE k rfl (by rfl) (by rfl) rfl
    case h =>   -- 1: t26 := Op.nilCheck (tmp 25)
      exact x_nil rfl e25
    intro a16 hE e26 kp
    apply sq_det 27 hE k rfl (by rfl) (by rfl) rfl
    case h =>   -- 2: t27 := Op.fieldAddr 80 (tmp 26) 2
      simp [go_sem, BigFrame.eval_const, BigFrame.eval_global, BigFrame.eval_func, ↓IntWalk.iteOmega, ev e26]
      with_reducible rfl
    intro a17 hE e27 kp
    apply sq_det 28 hE k rfl (by rfl) (by rfl) rfl
    case h =>   -- 3: t28 := Op.load 78 (tmp 27)
      have q0 : w14.cell? ⟨ub, 2, none⟩ = some (.slice (some ⟨g3, 0, none⟩) n c3) := (OwnT.blk O 0 rfl).cell 2
      simp [go_sem, BigFrame.eval_const, BigFrame.eval_global, BigFrame.eval_func, ↓IntWalk.iteOmega, ev e27, q0]
      with_reducible rfl
    intro a18 hE e28 kp
    apply sq_det 29 hE k rfl (by rfl) (by rfl) rfl
    case h =>   -- 4: t29 := Op.move (tmp 2)
      exact x_move rfl (hE.eval 2 (by rfl) e2)
    intro a19 hE e29 kp
    replace e28 := (kp 28 rfl).trans e28
    apply sq_det 30 hE k rfl (by rfl) (by rfl) rfl
    case h =>   -- 5: t30 := Op.indexAddr 78 (tmp 28) (tmp 29)
      simp [go_sem, BigFrame.eval_const, BigFrame.eval_global, BigFrame.eval_func, ↓IntWalk.iteOmega, ev e28, ev e29]
      with_reducible rfl
    intro a20 hE e30 kp
    refine sq_unit (w' := (w14.setCell ⟨g3, j, none⟩ (.bool false))) hE rfl rfl ?_ ?_
    · simp [go_sem, BigFrame.eval_const, BigFrame.eval_global, BigFrame.eval_func, ↓IntWalk.iteOmega, ev e30, hc, hfz]
    replace O := OwnT.push (L := _ :: _ :: _ :: _ :: R) 3 rfl ((OwnT.pull O 3 rfl).setRow1 (i := j) hlt (.bool false))
    clear hc hfz
    rw [show (boolsV (blJ n j Y)).set j (.bool false) = boolsV (blJ n (j + 1) Y) by rw [← blJ_set]; simp [boolsV, List.map_set]] at O
    generalize (w14.setCell ⟨g3, j, none⟩ (.bool false)) = w21 at O ⊢
    refine wpList_nil ?_
    replace e0 := hE.eval 0 (by rfl) e0
    replace e2 := hE.eval 2 (by rfl) e2
    replace k := k.env hE
    clear hE e30
    refine block_n ?_
    refine then_n ?_
    refine wp_region_lit ?_   -- region 2
    have hE := Env.refl a20 [10, 11, 2]
    apply sq_det 10 hE k rfl (by rfl) (by rfl) rfl
    case h =>   -- 0: t10 := Op.move (tmp 2)
      exact x_move rfl e2
    intro a22 hE e10 kp
    replace e2 := (kp 2 rfl).trans e2
    apply sq_det 11 hE k rfl (by rfl) (by rfl) rfl
    case h =>   -- 1: t11 := Op.binOp BinOp.add 3 (tmp 10) (const (Value.int IntKind.i64 1)) 3
      exact x_add rfl e10 rfl (by omega)
    intro a23 hE e11 kp
    replace e2 := (kp 2 rfl).trans e2
    apply sq_det 2 hE k rfl (by rfl) (by rfl) rfl
    case h =>   -- 2: t2 := Op.assign (tmp 11)
      exact x_assign rfl e11
    intro a24 hE e2 kp
    refine wpList_nil ?_
    replace e0 := hE.eval 0 (by rfl) e0
    replace k := k.env hE
    clear hE
    refine then_n ?_
    refine ⟨⟨k, e0, j + 1, e2, by omega, O⟩, ?_⟩
    rw [e2, mj]; simp only [intOf]; omega
  · have hltI : ¬ (j : Int) < (n : Int) := by omega
    refine cond_f e9 (congrArg Value.bool (decide_eq_false (by omega))) ?_
    clear e0 e2 e9
    obtain rfl : j = n := by omega
    rw [flJ_all hX, blJ_all] at O
    refine wp_exit ?_
    refine then_x ?_
    refine then_x ?_
    refine block_x ?_
    refine end_F0 rfl k ?_
    exact ⟨rfl, O⟩
set_option maxRecDepth 100000 in
set_option maxHeartbeats 4000000 in
theorem rsettle4_any {H : Nat} {A0 : World} {R : List Thing} {ub n c1 c2 c3 : Nat} {B1 B2 B3 : Option Addr} (q : List UInt8) (S : List Sec) (L : Int → Option Sec) (w : World) (O : OwnT H A0 ((tBlk ub 80 #[.slice B1 n c1, .slice B2 n c2, .slice B3 n c3]) :: (tRow 9 1 (.slice B1 n c1) n (strsV (nowL S L))) :: (tRow 9 1 (.slice B2 n c2) n (strsV S)) :: (tRow 4 1 (.slice B3 n c3) n (boolsV (isL n L))) :: R) w) (hS : S.length = n) (hn : n ≤ 16384) (hq : q.length ≤ 1000000) : Calls Try.prog 90 #[.pointer (some ⟨ub, 0, none⟩), .string (sB q)] w fun e w' => e = .returned (.tuple #[]) ∧ OwnT H A0 ((tBlk ub 80 #[.slice B1 n c1, .slice B2 n c2, .slice B3 n c3]) :: (tRow 9 1 (.slice B1 n c1) n (strsV (seS q L S n))) :: (tRow 9 1 (.slice B2 n c2) n (strsV (seS q L S n))) :: (tRow 4 1 (.slice B3 n c3) n (boolsV (List.replicate n false))) :: R) w' := by
  refine calls_F Try.func90 rfl 74 rfl (by rfl) ?_
  intro a1 k hargs
  have e0 : a1.eval (.tmp 0) = .pointer (some ⟨ub, 0, none⟩) := hargs 0 _ rfl
  have e1 : a1.eval (.tmp 1) = .string (sB q) := hargs 1 _ rfl
  clear hargs
  refine wp_seq ?_
  refine wp_region_lit ?_   -- region 0
  have hE := Env.refl a1 [4]
  apply sq_det 4 hE k rfl (by rfl) (by rfl) rfl
  case h =>   -- 0: t4 := Op.assign (const (Value.int IntKind.i64 0))
    exact x_assign rfl rfl
  intro a2 hE e4 kp
  refine wpList_nil ?_
  replace e0 := hE.eval 0 (by rfl) e0
  replace e1 := hE.eval 1 (by rfl) e1
  replace k := k.env hE
  clear hE
  refine then_n ?_
  refine wp_seq ?_
  refine wp_region_lit ?_   -- region 1
  have hE := Env.refl a2 [5]
  apply sq_det 5 hE k rfl (by rfl) (by rfl) rfl
  case h =>   -- 0: t5 := Op.assign (const (Value.int IntKind.i64 0))
    exact x_assign rfl rfl
  intro a3 hE e5 kp
  refine wpList_nil ?_
  replace e0 := hE.eval 0 (by rfl) e0
  replace e1 := hE.eval 1 (by rfl) e1
  replace e4 := hE.eval 4 (by rfl) e4
  replace k := k.env hE
  clear hE
  refine then_n ?_
  refine wp_block ?_
  refine wp_loop (fun a w => Fr 74 a ∧ a.eval (.tmp 0) = .pointer (some ⟨ub, 0, none⟩) ∧ a.eval (.tmp 1) = .string (sB q) ∧ ∃ j : Nat, a.eval (.tmp 4) = .int .i64 (↑(looL j L).length) ∧ a.eval (.tmp 5) = .int .i64 ↑j ∧ j ≤ n ∧ OwnT H A0 ((tBlk ub 80 #[.slice B1 n c1, .slice B2 n c2, .slice B3 n c3]) :: (tRow 9 1 (.slice B1 n c1) n (strsV (seN q L S j))) :: (tRow 9 1 (.slice B2 n c2) n (strsV (seS q L S j))) :: (tRow 4 1 (.slice B3 n c3) n (boolsV (blJ n j (isL n L)))) :: R) w) (fun a w => n - (intOf (a.eval (.tmp 5))).toNat) ?_ ?_
  · exact ⟨k, e0, e1, 0, e4, e5, Nat.zero_le _, (by rw [seN_zero, blJ_zero (isL_len n L)]; exact O)⟩
  intro a4 w5 hI
  clear k e0 e1
  obtain ⟨k, e0, e1, h_⟩ := hI
  clear O e4 e5
  obtain ⟨j, e4, e5, hj, O⟩ := h_
  have mj := e5
  have hcl : (looL j L).length ≤ j := riseN_le j _
  refine wp_seq ?_
  refine wp_seq ?_
  refine wp_region_lit ?_   -- region 2
  have hE := Env.refl a4 [6, 7, 8, 9, 10, 11, 12]
  apply sq_det 6 hE k rfl (by rfl) (by rfl) rfl
  case h =>   -- 0: t6 := Op.move (tmp 5)
    exact x_move rfl (hE.eval 5 (by rfl) e5)
  intro a6 hE e6 kp
  apply sq_det 7 hE k rfl (by rfl) (by rfl) rfl
  case h =>   -- 1: t7 := Op.move (tmp 0)
    exact x_move rfl (hE.eval 0 (by rfl) e0)
  intro a7 hE e7 kp
  replace e6 := (kp 6 rfl).trans e6
  apply sq_det 8 hE k rfl (by rfl) (by rfl) rfl
  case h =>   -- 2: t8 := Op.nilCheck (tmp 7)
    exact x_nil rfl e7
  intro a8 hE e8 kp
  replace e6 := (kp 6 rfl).trans e6
  apply sq_det 9 hE k rfl (by rfl) (by rfl) rfl
  case h =>   -- 3: t9 := Op.fieldAddr 80 (tmp 8) 0
    simp [go_sem, BigFrame.eval_const, BigFrame.eval_global, BigFrame.eval_func, ↓IntWalk.iteOmega, ev e8]
    with_reducible rfl
  intro a9 hE e9 kp
  replace e6 := (kp 6 rfl).trans e6
  apply sq_det 10 hE k rfl (by rfl) (by rfl) rfl
  case h =>   -- 4: t10 := Op.load 77 (tmp 9)
    have q0 : w5.cell? ⟨ub, 0, none⟩ = some (.slice B1 n c1) := (OwnT.blk O 0 rfl).cell 0
    simp [go_sem, BigFrame.eval_const, BigFrame.eval_global, BigFrame.eval_func, ↓IntWalk.iteOmega, ev e9, q0]
    with_reducible rfl
  intro a10 hE e10 kp
  replace e6 := (kp 6 rfl).trans e6
  apply sq_det 11 hE k rfl (by rfl) (by rfl) rfl
  case h =>   -- 5: t11 := Op.call {callee := Callee.builtin Builtin.len, args := #[tmp 10], argT
    exact x_len Try.underlying77 rfl e10
  intro a11 hE e11 kp
  replace e6 := (kp 6 rfl).trans e6
  apply sq_det 12 hE k rfl (by rfl) (by rfl) rfl
  case h =>   -- 6: t12 := Op.binOp BinOp.lss 3 (tmp 6) (tmp 11) 3
    exact x_lss rfl e6 e11
  intro a12 hE e12 kp
  refine wpList_nil ?_
  replace e0 := hE.eval 0 (by rfl) e0
  replace e1 := hE.eval 1 (by rfl) e1
  replace e4 := hE.eval 4 (by rfl) e4
  replace e5 := hE.eval 5 (by rfl) e5
  replace k := k.env hE
  clear hE
  refine then_n ?_
  by_cases hlt : j < n
  · have hltI : (j : Int) < (n : Int) := by omega
    refine cond_t e12 (congrArg Value.bool (decide_eq_true (by omega))) ?_
    clear e12
    obtain ⟨g1, z1, h1, -⟩ := row1_some (OwnT.get O 1 rfl) (by omega)
    injection h1 with h1 _ h1'
    subst h1 h1'
    obtain ⟨g2, z2, h2, -⟩ := row1_some (OwnT.get O 2 rfl) (by omega)
    injection h2 with h2 _ h2'
    subst h2 h2'
    obtain ⟨g3, z3, h3, -⟩ := row1_some (OwnT.get O 3 rfl) (by omega)
    injection h3 with h3 _ h3'
    subst h3 h3'
    
    have hjS : j < S.length := by omega
    have hbj : (blJ n j (isL n L))[j]? = some (L j).isSome := by simp only [blJ, List.getElem?_map, List.getElem?_range hlt, Option.map_some, if_neg (Nat.lt_irrefl j), List.getD, isL_at hlt, Option.getD_some]
    have cb : w5.cell? ⟨g3, j, none⟩ = some (.bool (L j).isSome) := (row1_cell (OwnT.get O 3 rfl) (i := j) (v := .bool (L j).isSome) (by simp only [boolsV, List.getElem?_map, hbj, Option.map_some])).1
    cases hL : L j with
    | none =>
      rw [hL] at cb
      refine wp_skip ?_
      refine then_n ?_
      refine wp_seq ?_
      refine wp_block ?_
      refine wp_seq ?_
      refine wp_seq ?_
      refine wp_region_lit ?_   -- region 4
      have hE := Env.refl a12 [15, 16, 17, 18, 19, 20, 21, 22]
      apply sq_det 15 hE k rfl (by rfl) (by rfl) rfl
      case h =>   -- 0: t15 := Op.move (tmp 0)
        exact x_move rfl (hE.eval 0 (by rfl) e0)
      intro a13 hE e15 kp
      apply sq_det 16 hE k rfl (by rfl) (by rfl) rfl
      case h =>   -- 1: t16 := Op.nilCheck (tmp 15)
        exact x_nil rfl e15
      intro a14 hE e16 kp
      apply sq_det 17 hE k rfl (by rfl) (by rfl) rfl
      case h =>   -- 2: t17 := Op.fieldAddr 80 (tmp 16) 2
        simp [go_sem, BigFrame.eval_const, BigFrame.eval_global, BigFrame.eval_func, ↓IntWalk.iteOmega, ev e16]
        with_reducible rfl
      intro a15 hE e17 kp
      apply sq_det 18 hE k rfl (by rfl) (by rfl) rfl
      case h =>   -- 3: t18 := Op.load 78 (tmp 17)
        have q0 : w5.cell? ⟨ub, 2, none⟩ = some (.slice (some ⟨g3, 0, none⟩) n c3) := (OwnT.blk O 0 rfl).cell 2
        simp [go_sem, BigFrame.eval_const, BigFrame.eval_global, BigFrame.eval_func, ↓IntWalk.iteOmega, ev e17, q0]
        with_reducible rfl
      intro a16 hE e18 kp
      apply sq_det 19 hE k rfl (by rfl) (by rfl) rfl
      case h =>   -- 4: t19 := Op.move (tmp 5)
        exact x_move rfl (hE.eval 5 (by rfl) e5)
      intro a17 hE e19 kp
      replace e18 := (kp 18 rfl).trans e18
      apply sq_det 20 hE k rfl (by rfl) (by rfl) rfl
      case h =>   -- 5: t20 := Op.indexAddr 78 (tmp 18) (tmp 19)
        simp [go_sem, BigFrame.eval_const, BigFrame.eval_global, BigFrame.eval_func, ↓IntWalk.iteOmega, ev e18, ev e19]
        with_reducible rfl
      intro a18 hE e20 kp
      apply sq_det 21 hE k rfl (by rfl) (by rfl) rfl
      case h =>   -- 6: t21 := Op.load 4 (tmp 20)
        simp [go_sem, BigFrame.eval_const, BigFrame.eval_global, BigFrame.eval_func, ↓IntWalk.iteOmega, ev e20, cb]
        with_reducible rfl
      intro a19 hE e21 kp
      apply sq_det 22 hE k rfl (by rfl) (by rfl) rfl
      case h =>   -- 7: t22 := Op.unOp UnOp.not 4 (tmp 21)
        exact x_not rfl e21
      intro a20 hE e22 kp
      refine wpList_nil ?_
      replace e0 := hE.eval 0 (by rfl) e0
      replace e1 := hE.eval 1 (by rfl) e1
      replace e4 := hE.eval 4 (by rfl) e4
      replace e5 := hE.eval 5 (by rfl) e5
      replace k := k.env hE
      clear hE
      refine then_n ?_
      refine cond_t e22 rfl ?_
      refine wp_exit ?_
      refine then_x ?_
      refine block_x ?_
      refine then_n ?_
      refine wp_region_lit ?_   -- region 3
      have hE := Env.refl a20 [13, 14, 5]
      apply sq_det 13 hE k rfl (by rfl) (by rfl) rfl
      case h =>   -- 0: t13 := Op.move (tmp 5)
        exact x_move rfl e5
      intro a21 hE e13 kp
      replace e5 := (kp 5 rfl).trans e5
      apply sq_det 14 hE k rfl (by rfl) (by rfl) rfl
      case h =>   -- 1: t14 := Op.binOp BinOp.add 3 (tmp 13) (const (Value.int IntKind.i64 1)) 3
        exact x_add rfl e13 rfl (by omega)
      intro a22 hE e14 kp
      replace e5 := (kp 5 rfl).trans e5
      apply sq_det 5 hE k rfl (by rfl) (by rfl) rfl
      case h =>   -- 2: t5 := Op.assign (tmp 14)
        exact x_assign rfl e14
      intro a23 hE e5 kp
      refine wpList_nil ?_
      replace e0 := hE.eval 0 (by rfl) e0
      replace e1 := hE.eval 1 (by rfl) e1
      replace e4 := hE.eval 4 (by rfl) e4
      replace k := k.env hE
      clear hE e22
      refine then_n ?_
      rw [← seS_skip hL, ← seN_skip hjS hL, show blJ n j (isL n L) = blJ n (j + 1) (isL n L) from map_range_congr fun z hz => by
        by_cases e : z = j
        · subst e; rw [if_neg (by omega), if_pos (by omega)]; simp only [List.getD, isL_at hz, hL]; rfl
        · by_cases h2 : z < j
          · rw [if_pos h2, if_pos (by omega)]
          · rw [if_neg h2, if_neg (by omega)]] at O
      refine ⟨⟨k, e0, e1, j + 1, (by rw [looL_len_no hL]; exact e4), e5, by omega, O⟩, ?_⟩
      rw [e5, mj]; simp only [intOf]; omega
    | some s =>
      rw [hL] at cb
      refine wp_skip ?_
      refine then_n ?_
      refine wp_seq ?_
      refine wp_block ?_
      refine wp_seq ?_
      refine wp_seq ?_
      refine wp_region_lit ?_   -- region 4
      have hE := Env.refl a12 [15, 16, 17, 18, 19, 20, 21, 22]
      apply sq_det 15 hE k rfl (by rfl) (by rfl) rfl
      case h =>   -- 0: t15 := Op.move (tmp 0)
        exact x_move rfl (hE.eval 0 (by rfl) e0)
      intro a24 hE e15 kp
      apply sq_det 16 hE k rfl (by rfl) (by rfl) rfl
      case h =>   -- 1: t16 := Op.nilCheck (tmp 15)
        exact x_nil rfl e15
      intro a25 hE e16 kp
      apply sq_det 17 hE k rfl (by rfl) (by rfl) rfl
      case h =>   -- 2: t17 := Op.fieldAddr 80 (tmp 16) 2
        simp [go_sem, BigFrame.eval_const, BigFrame.eval_global, BigFrame.eval_func, ↓IntWalk.iteOmega, ev e16]
        with_reducible rfl
      intro a26 hE e17 kp
      apply sq_det 18 hE k rfl (by rfl) (by rfl) rfl
      case h =>   -- 3: t18 := Op.load 78 (tmp 17)
        have q0 : w5.cell? ⟨ub, 2, none⟩ = some (.slice (some ⟨g3, 0, none⟩) n c3) := (OwnT.blk O 0 rfl).cell 2
        simp [go_sem, BigFrame.eval_const, BigFrame.eval_global, BigFrame.eval_func, ↓IntWalk.iteOmega, ev e17, q0]
        with_reducible rfl
      intro a27 hE e18 kp
      apply sq_det 19 hE k rfl (by rfl) (by rfl) rfl
      case h =>   -- 4: t19 := Op.move (tmp 5)
        exact x_move rfl (hE.eval 5 (by rfl) e5)
      intro a28 hE e19 kp
      replace e18 := (kp 18 rfl).trans e18
      apply sq_det 20 hE k rfl (by rfl) (by rfl) rfl
      case h =>   -- 5: t20 := Op.indexAddr 78 (tmp 18) (tmp 19)
        simp [go_sem, BigFrame.eval_const, BigFrame.eval_global, BigFrame.eval_func, ↓IntWalk.iteOmega, ev e18, ev e19]
        with_reducible rfl
      intro a29 hE e20 kp
      apply sq_det 21 hE k rfl (by rfl) (by rfl) rfl
      case h =>   -- 6: t21 := Op.load 4 (tmp 20)
        simp [go_sem, BigFrame.eval_const, BigFrame.eval_global, BigFrame.eval_func, ↓IntWalk.iteOmega, ev e20, cb]
        with_reducible rfl
      intro a30 hE e21 kp
      apply sq_det 22 hE k rfl (by rfl) (by rfl) rfl
      case h =>   -- 7: t22 := Op.unOp UnOp.not 4 (tmp 21)
        exact x_not rfl e21
      intro a31 hE e22 kp
      refine wpList_nil ?_
      replace e0 := hE.eval 0 (by rfl) e0
      replace e1 := hE.eval 1 (by rfl) e1
      replace e4 := hE.eval 4 (by rfl) e4
      replace e5 := hE.eval 5 (by rfl) e5
      replace k := k.env hE
      clear hE
      refine then_n ?_
      refine cond_f e22 rfl ?_
      refine wp_skip ?_
      refine then_n ?_
      have hnj : (seN q L S j)[j]? = some s := by simp only [seN, List.getElem?_map, List.getElem?_range hjS, Option.map_some, if_neg (Nat.lt_irrefl j), nowAt, hL, Option.getD_some]
      have hsj : (seS q L S j)[j]? = some (S.getD j []) := by rw [seS_at]; simp [List.getD, hjS]
      by_cases hq0 : q = []
      · have hst : staysB q (looL j L).length = false := by rw [hq0]; rfl
        have hql : q.length = 0 := by rw [hq0]; rfl
        refine wp_seq ?_
        refine wp_seq ?_
        refine wp_region_lit ?_   -- region 5
        have hE := Env.refl a31 [23, 24, 25, 26, 27, 28, 29, 30, 31, 32, 33, 34, 35, 36, 37, 38, 39]
        apply sq_det 23 hE k rfl (by rfl) (by rfl) rfl
        case h =>   -- 0: t23 := Op.move (tmp 1)
          exact x_move rfl (hE.eval 1 (by rfl) e1)
        intro a32 hE e23 kp
        apply sq_det 24 hE k rfl (by rfl) (by rfl) rfl
        case h =>   -- 1: t24 := Op.call {callee := Callee.builtin Builtin.len, args := #[tmp 23], argT
          exact x_len_l Try.underlying9 rfl e23
        intro a33 hE e24 kp
        apply sq_det 25 hE k rfl (by rfl) (by rfl) rfl
        case h =>   -- 2: t25 := Op.binOp BinOp.gtr 3 (tmp 24) (const (Value.int IntKind.i64 0)) 3
          exact x_dec (x_gtr rfl e24 rfl) (decide_eq_false (by omega))
        intro a34 hE e25 kp
        apply sq_det 26 hE k rfl (by rfl) (by rfl) rfl
        case h =>   -- 3: t26 := Op.move (tmp 25)
          exact x_move rfl e25
        intro a35 hE e26 kp
        refine sq_skipg 27 hE k rfl (by rfl) (by rfl) rfl rfl (.inl e26) ?_
        intro a36 hE e27 kp
        replace e26 := (kp 26 rfl).trans e26
        refine sq_skipg 28 hE k rfl (by rfl) (by rfl) rfl rfl (.inl e26) ?_
        intro a37 hE e28 kp
        replace e26 := (kp 26 rfl).trans e26
        replace e27 := (kp 27 rfl).trans e27
        refine sq_skipg 29 hE k rfl (by rfl) (by rfl) rfl rfl (.inl e26) ?_
        intro a38 hE e29 kp
        replace e26 := (kp 26 rfl).trans e26
        replace e27 := (kp 27 rfl).trans e27
        refine sq_skipg 30 hE k rfl (by rfl) (by rfl) rfl rfl (.inl e26) ?_
        intro a39 hE e30 kp
        replace e26 := (kp 26 rfl).trans e26
        replace e27 := (kp 27 rfl).trans e27
        replace e29 := (kp 29 rfl).trans e29
        refine sq_skipg 31 hE k rfl (by rfl) (by rfl) rfl rfl (.inl e26) ?_
        intro a40 hE e31 kp
        replace e26 := (kp 26 rfl).trans e26
        replace e27 := (kp 27 rfl).trans e27
        replace e29 := (kp 29 rfl).trans e29
        refine sq_skipg 32 hE k rfl (by rfl) (by rfl) rfl rfl (.inl e26) ?_
        intro a41 hE e32 kp
        replace e26 := (kp 26 rfl).trans e26
        replace e27 := (kp 27 rfl).trans e27
        refine sq_skipg 33 hE k rfl (by rfl) (by rfl) rfl rfl (.inl e26) ?_
        intro a42 hE e33 kp
        replace e26 := (kp 26 rfl).trans e26
        refine sq_skipg 34 hE k rfl (by rfl) (by rfl) rfl rfl (.inl e26) ?_
        intro a43 hE e34 kp
        replace e26 := (kp 26 rfl).trans e26
        replace e33 := (kp 33 rfl).trans e33
        refine sq_skipg 35 hE k rfl (by rfl) (by rfl) rfl rfl (.inl e26) ?_
        intro a44 hE e35 kp
        replace e26 := (kp 26 rfl).trans e26
        replace e33 := (kp 33 rfl).trans e33
        refine sq_skipg 36 hE k rfl (by rfl) (by rfl) rfl rfl (.inl e26) ?_
        intro a45 hE e36 kp
        replace e26 := (kp 26 rfl).trans e26
        refine sq_skipg 37 hE k rfl (by rfl) (by rfl) rfl rfl (.inl e26) ?_
        intro a46 hE e37 kp
        replace e26 := (kp 26 rfl).trans e26
        refine sq_skipg 38 hE k rfl (by rfl) (by rfl) rfl rfl (.inl e26) ?_
        intro a47 hE e38 kp
        replace e26 := (kp 26 rfl).trans e26
        apply sq_det 39 hE k rfl (by rfl) (by rfl) rfl
        case h =>   -- 16: t39 := Op.pick (tmp 26) (tmp 38) (const (Value.bool false))
          exact x_pick_f rfl e26 rfl
        intro a48 hE e39 kp
        refine wpList_nil ?_
        replace e0 := hE.eval 0 (by rfl) e0
        replace e1 := hE.eval 1 (by rfl) e1
        replace e4 := hE.eval 4 (by rfl) e4
        replace e5 := hE.eval 5 (by rfl) e5
        replace k := k.env hE
        clear hE e22
        refine then_n ?_
        refine cond_f e39 rfl ?_
        refine wp_typed (R := Ext) (w0 := w5) [[], [0], [0, 1], [0, 1, 2], [], [], [5], [5, 6], [5, 6, 7], [], [5, 6, 7, 8, 9], [5, 6, 7, 8, 9, 10], [0, 1, 2, 3, 4, 5, 6, 7, 8, 9, 10, 11], [0, 1, 2, 3, 4, 5, 6, 7, 8, 9, 10, 11, 12]] [53, 54, 55, 56, 57, 58, 59, 60, 61, 62, 63, 64, 65] Ext.refl (fun _ _ _ => Ext.trans) (Ext.drew _) (by kernel_rfl) ?_   -- region 7
        apply Build.det 53 Ext.refl (by rfl) (by rw [k.size]; rfl) rfl
        case h =>   -- 0: t53 := Op.move (tmp 0)
          intro ax wx hE hR hF
          exact x_move rfl (hE.eval 0 (by rfl) e0)
        apply Build.det 54 Ext.refl (by rfl) (by rw [k.size]; rfl) rfl
        case h =>   -- 1: t54 := Op.nilCheck (tmp 53)
          intro ax wx hE hR hF
          have e53 : ax.eval (.tmp 53) = _ := hF 0 (det 53 _) (by decide) (.head _)
          exact x_nil rfl e53
        apply Build.det 55 Ext.refl (by rfl) (by rw [k.size]; rfl) rfl
        case h =>   -- 2: t55 := Op.fieldAddr 80 (tmp 54) 0
          intro ax wx hE hR hF
          have e54 : ax.eval (.tmp 54) = _ := hF 1 (det 54 _) (by decide) (.head _)
          simp [go_sem, BigFrame.eval_const, BigFrame.eval_global, BigFrame.eval_func, ↓IntWalk.iteOmega, ev e54]
          with_reducible rfl
        apply Build.det 56 Ext.refl (by rfl) (by rw [k.size]; rfl) rfl
        case h =>   -- 3: t56 := Op.load 77 (tmp 55)
          intro ax wx hE hR hF
          have e55 : ax.eval (.tmp 55) = _ := hF 2 (det 55 _) (by decide) (.head _)
          have q0 : wx.cell? ⟨ub, 0, none⟩ = some (.slice (some ⟨g1, 0, none⟩) n c1) := (OwnT.blk (OwnT.ext O hR) 0 rfl).cell 0
          simp [go_sem, BigFrame.eval_const, BigFrame.eval_global, BigFrame.eval_func, ↓IntWalk.iteOmega, ev e55, q0]
          with_reducible rfl
        apply Build.det 57 Ext.refl (by rfl) (by rw [k.size]; rfl) rfl
        case h =>   -- 4: t57 := Op.move (tmp 5)
          intro ax wx hE hR hF
          exact x_move rfl (hE.eval 5 (by rfl) e5)
        apply Build.det 58 Ext.refl (by rfl) (by rw [k.size]; rfl) rfl
        case h =>   -- 5: t58 := Op.move (tmp 0)
          intro ax wx hE hR hF
          exact x_move rfl (hE.eval 0 (by rfl) e0)
        apply Build.det 59 Ext.refl (by rfl) (by rw [k.size]; rfl) rfl
        case h =>   -- 6: t59 := Op.nilCheck (tmp 58)
          intro ax wx hE hR hF
          have e58 : ax.eval (.tmp 58) = _ := hF 5 (det 58 _) (by decide) (.head _)
          exact x_nil rfl e58
        apply Build.det 60 Ext.refl (by rfl) (by rw [k.size]; rfl) rfl
        case h =>   -- 7: t60 := Op.fieldAddr 80 (tmp 59) 1
          intro ax wx hE hR hF
          have e59 : ax.eval (.tmp 59) = _ := hF 6 (det 59 _) (by decide) (.head _)
          simp [go_sem, BigFrame.eval_const, BigFrame.eval_global, BigFrame.eval_func, ↓IntWalk.iteOmega, ev e59]
          with_reducible rfl
        apply Build.det 61 Ext.refl (by rfl) (by rw [k.size]; rfl) rfl
        case h =>   -- 8: t61 := Op.load 77 (tmp 60)
          intro ax wx hE hR hF
          have e60 : ax.eval (.tmp 60) = _ := hF 7 (det 60 _) (by decide) (.head _)
          have q0 : wx.cell? ⟨ub, 1, none⟩ = some (.slice (some ⟨g2, 0, none⟩) n c2) := (OwnT.blk (OwnT.ext O hR) 0 rfl).cell 1
          simp [go_sem, BigFrame.eval_const, BigFrame.eval_global, BigFrame.eval_func, ↓IntWalk.iteOmega, ev e60, q0]
          with_reducible rfl
        apply Build.det 62 Ext.refl (by rfl) (by rw [k.size]; rfl) rfl
        case h =>   -- 9: t62 := Op.move (tmp 5)
          intro ax wx hE hR hF
          exact x_move rfl (hE.eval 5 (by rfl) e5)
        apply Build.det 63 Ext.refl (by rfl) (by rw [k.size]; rfl) rfl
        case h =>   -- 10: t63 := Op.indexAddr 77 (tmp 61) (tmp 62)
          intro ax wx hE hR hF
          have e61 : ax.eval (.tmp 61) = _ := hF 8 (det 61 _) (by decide) (.tail _ (.head _))
          have e62 : ax.eval (.tmp 62) = _ := hF 9 (det 62 _) (by decide) (.head _)
          simp [go_sem, BigFrame.eval_const, BigFrame.eval_global, BigFrame.eval_func, ↓IntWalk.iteOmega, ev e61, ev e62]
          with_reducible rfl
        apply Build.det 64 Ext.refl (by rfl) (by rw [k.size]; rfl) rfl
        case h =>   -- 11: t64 := Op.load 9 (tmp 63)
          intro ax wx hE hR hF
          have e63 : ax.eval (.tmp 63) = _ := hF 10 (det 63 _) (by decide) (.head _)
          have cx' : wx.cell? ⟨g2, j, none⟩ = some (.string (sB (S.getD j []))) := (row1_cell (OwnT.get (OwnT.ext O hR) 2 rfl) (i := j) (v := .string (sB (S.getD j []))) (by simp only [strsV, List.getElem?_map, hsj, Option.map_some])).1
          simp [go_sem, BigFrame.eval_const, BigFrame.eval_global, BigFrame.eval_func, ↓IntWalk.iteOmega, ev e63, cx']
          with_reducible rfl
        apply Build.det 65 Ext.refl (by rfl) (by rw [k.size]; rfl) rfl
        case h =>   -- 12: t65 := Op.indexAddr 77 (tmp 56) (tmp 57)
          intro ax wx hE hR hF
          have e56 : ax.eval (.tmp 56) = _ := hF 3 (det 56 _) (by decide) (.tail _ (.tail _ (.tail _ (.tail _ (.tail _ (.tail _ (.tail _ (.tail _ (.head _)))))))))
          have e57 : ax.eval (.tmp 57) = _ := hF 4 (det 57 _) (by decide) (.tail _ (.tail _ (.tail _ (.tail _ (.tail _ (.tail _ (.tail _ (.head _))))))))
          simp [go_sem, BigFrame.eval_const, BigFrame.eval_global, BigFrame.eval_func, ↓IntWalk.iteOmega, ev e56, ev e57]
          with_reducible rfl
        apply Build.stop
        refine ⟨by kernel_rfl, .inr ⟨by kernel_rfl, _, rfl, rfl, ?_⟩⟩
        intro a49 w50 hE R hF
        have e64 : a49.eval (.tmp 64) = _ := hF 11 (det 64 _) (.tail _ (.head _))
        have e65 : a49.eval (.tmp 65) = _ := hF 12 (det 65 _) (.head _)
        clear hF
        replace O := OwnT.ext O R
        clear R
        obtain ⟨hc, hfz⟩ := row1_cell (OwnT.get O 1 rfl) (i := j) (List.getElem?_eq_getElem (by simp only [strsV, List.length_map, seN_len]; omega))
        refine last_skip (w' := w50.setCell ⟨g1, j, none⟩ (.string (sB (S.getD j [])))) rfl (by simp only [execOp]; simp [go_sem, BigFrame.eval_const, BigFrame.eval_global, BigFrame.eval_func, ↓IntWalk.iteOmega, ev e65, ev e64, hc, hfz]) ?_
        replace O := OwnT.push (L := _ :: _ :: _ :: _ :: R) 1 rfl ((OwnT.pull O 1 rfl).setRow1 (i := j) hlt (.string (sB (S.getD j []))))
        clear hc hfz
        rw [← strsV_set, ← seN_no hjS hL hst, ← seS_no hL hst] at O
        generalize (w50.setCell ⟨g1, j, none⟩ (.string (sB (S.getD j [])))) = w51 at O ⊢
        replace e0 := hE.eval 0 (by rfl) e0
        replace e1 := hE.eval 1 (by rfl) e1
        replace e4 := hE.eval 4 (by rfl) e4
        replace e5 := hE.eval 5 (by rfl) e5
        replace k := k.env hE
        clear hE e39 e64 e65
        refine then_n ?_
        obtain ⟨hc, hfz⟩ := row1_cell (OwnT.get O 3 rfl) (i := j) (List.getElem?_eq_getElem (by simp only [boolsV, List.length_map, blJ_len]; omega))
        refine wp_seq ?_
        refine wp_region_lit ?_   -- region 8
        have hE := Env.refl a49 [66, 67, 68, 69, 70, 71]
        apply sq_det 66 hE k rfl (by rfl) (by rfl) rfl
        case h =>   -- 0: t66 := Op.move (tmp 0)
          exact x_move rfl (hE.eval 0 (by rfl) e0)
        intro a52 hE e66 kp
        apply sq_det 67 hE k rfl (by rfl) (by rfl) rfl
        case h =>   -- 1: t67 := Op.nilCheck (tmp 66)
          exact x_nil rfl e66
        intro a53 hE e67 kp
        apply sq_det 68 hE k rfl (by rfl) (by rfl) rfl
        case h =>   -- 2: t68 := Op.fieldAddr 80 (tmp 67) 2
          simp [go_sem, BigFrame.eval_const, BigFrame.eval_global, BigFrame.eval_func, ↓IntWalk.iteOmega, ev e67]
          with_reducible rfl
        intro a54 hE e68 kp
        apply sq_det 69 hE k rfl (by rfl) (by rfl) rfl
        case h =>   -- 3: t69 := Op.load 78 (tmp 68)
          have q0 : w51.cell? ⟨ub, 2, none⟩ = some (.slice (some ⟨g3, 0, none⟩) n c3) := (OwnT.blk O 0 rfl).cell 2
          simp [go_sem, BigFrame.eval_const, BigFrame.eval_global, BigFrame.eval_func, ↓IntWalk.iteOmega, ev e68, q0]
          with_reducible rfl
        intro a55 hE e69 kp
        apply sq_det 70 hE k rfl (by rfl) (by rfl) rfl
        case h =>   -- 4: t70 := Op.move (tmp 5)
          exact x_move rfl (hE.eval 5 (by rfl) e5)
        intro a56 hE e70 kp
        replace e69 := (kp 69 rfl).trans e69
        apply sq_det 71 hE k rfl (by rfl) (by rfl) rfl
        case h =>   -- 5: t71 := Op.indexAddr 78 (tmp 69) (tmp 70)
          simp [go_sem, BigFrame.eval_const, BigFrame.eval_global, BigFrame.eval_func, ↓IntWalk.iteOmega, ev e69, ev e70]
          with_reducible rfl
        intro a57 hE e71 kp
        refine sq_unit (w' := (w51.setCell ⟨g3, j, none⟩ (.bool false))) hE rfl rfl ?_ ?_
        · simp [go_sem, BigFrame.eval_const, BigFrame.eval_global, BigFrame.eval_func, ↓IntWalk.iteOmega, ev e71, hc, hfz]
        replace O := OwnT.push (L := _ :: _ :: _ :: _ :: R) 3 rfl ((OwnT.pull O 3 rfl).setRow1 (i := j) hlt (.bool false))
        clear hc hfz
        rw [show (boolsV (blJ n j (isL n L))).set j (.bool false) = boolsV (blJ n (j + 1) (isL n L)) by rw [← blJ_set]; simp [boolsV, List.map_set]] at O
        generalize (w51.setCell ⟨g3, j, none⟩ (.bool false)) = w58 at O ⊢
        refine wpList_nil ?_
        replace e0 := hE.eval 0 (by rfl) e0
        replace e1 := hE.eval 1 (by rfl) e1
        replace e4 := hE.eval 4 (by rfl) e4
        replace e5 := hE.eval 5 (by rfl) e5
        replace k := k.env hE
        clear hE e71
        refine then_n ?_
        refine wp_region_lit ?_   -- region 9
        have hE := Env.refl a57 [72, 73, 4]
        apply sq_det 72 hE k rfl (by rfl) (by rfl) rfl
        case h =>   -- 0: t72 := Op.move (tmp 4)
          exact x_move rfl e4
        intro a59 hE e72 kp
        replace e4 := (kp 4 rfl).trans e4
        apply sq_det 73 hE k rfl (by rfl) (by rfl) rfl
        case h =>   -- 1: t73 := Op.binOp BinOp.add 3 (tmp 72) (const (Value.int IntKind.i64 1)) 3
          exact x_add rfl e72 rfl (by omega)
        intro a60 hE e73 kp
        replace e4 := (kp 4 rfl).trans e4
        apply sq_det 4 hE k rfl (by rfl) (by rfl) rfl
        case h =>   -- 2: t4 := Op.assign (tmp 73)
          exact x_assign rfl e73
        intro a61 hE e4 kp
        refine wpList_nil ?_
        replace e0 := hE.eval 0 (by rfl) e0
        replace e1 := hE.eval 1 (by rfl) e1
        replace e5 := hE.eval 5 (by rfl) e5
        replace k := k.env hE
        clear hE
        refine block_n ?_
        refine then_n ?_
        refine wp_region_lit ?_   -- region 3
        have hE := Env.refl a61 [13, 14, 5]
        apply sq_det 13 hE k rfl (by rfl) (by rfl) rfl
        case h =>   -- 0: t13 := Op.move (tmp 5)
          exact x_move rfl e5
        intro a62 hE e13 kp
        replace e5 := (kp 5 rfl).trans e5
        apply sq_det 14 hE k rfl (by rfl) (by rfl) rfl
        case h =>   -- 1: t14 := Op.binOp BinOp.add 3 (tmp 13) (const (Value.int IntKind.i64 1)) 3
          exact x_add rfl e13 rfl (by omega)
        intro a63 hE e14 kp
        replace e5 := (kp 5 rfl).trans e5
        apply sq_det 5 hE k rfl (by rfl) (by rfl) rfl
        case h =>   -- 2: t5 := Op.assign (tmp 14)
          exact x_assign rfl e14
        intro a64 hE e5 kp
        refine wpList_nil ?_
        replace e0 := hE.eval 0 (by rfl) e0
        replace e1 := hE.eval 1 (by rfl) e1
        replace e4 := hE.eval 4 (by rfl) e4
        replace k := k.env hE
        clear hE
        refine then_n ?_
        refine ⟨⟨k, e0, e1, j + 1, (by rw [looL_len_yes hL]; exact e4), e5, by omega, O⟩, ?_⟩
        rw [e5, mj]; simp only [intOf]; omega
      · have hql : 0 < q.length := List.length_pos_iff.2 hq0
        by_cases hst : staysB q (looL j L).length = true
        · have hst' := hst
          unfold staysB at hst'
          rw [Bool.and_eq_true] at hst'
          refine wp_seq ?_
          refine wp_seq ?_
          refine wp_region_lit ?_   -- region 5
          have hE := Env.refl a31 [23, 24, 25, 26, 27, 28, 29, 30, 31, 32, 33, 34, 35, 36, 37, 38, 39]
          apply sq_det 23 hE k rfl (by rfl) (by rfl) rfl
          case h =>   -- 0: t23 := Op.move (tmp 1)
            exact x_move rfl (hE.eval 1 (by rfl) e1)
          intro a65 hE e23 kp
          apply sq_det 24 hE k rfl (by rfl) (by rfl) rfl
          case h =>   -- 1: t24 := Op.call {callee := Callee.builtin Builtin.len, args := #[tmp 23], argT
            exact x_len_l Try.underlying9 rfl e23
          intro a66 hE e24 kp
          apply sq_det 25 hE k rfl (by rfl) (by rfl) rfl
          case h =>   -- 2: t25 := Op.binOp BinOp.gtr 3 (tmp 24) (const (Value.int IntKind.i64 0)) 3
            exact x_dec (x_gtr rfl e24 rfl) (decide_eq_true (by omega))
          intro a67 hE e25 kp
          apply sq_det 26 hE k rfl (by rfl) (by rfl) rfl
          case h =>   -- 3: t26 := Op.move (tmp 25)
            exact x_move rfl e25
          intro a68 hE e26 kp
          apply sq_detg 27 hE k rfl (by rfl) (by rfl) rfl rfl e26
          case h =>   -- 4: t27 := Op.move (tmp 1)
            exact x_move rfl (hE.eval 1 (by rfl) e1)
          intro a69 hE e27 kp
          replace e26 := (kp 26 rfl).trans e26
          apply sq_detg 28 hE k rfl (by rfl) (by rfl) rfl rfl e26
          case h =>   -- 5: t28 := Op.move (tmp 4)
            exact x_move rfl (hE.eval 4 (by rfl) e4)
          intro a70 hE e28 kp
          replace e26 := (kp 26 rfl).trans e26
          replace e27 := (kp 27 rfl).trans e27
          apply sq_detg 29 hE k rfl (by rfl) (by rfl) rfl rfl e26
          case h =>   -- 6: t29 := Op.binOp BinOp.quo 3 (tmp 28) (const (Value.int IntKind.i64 8)) 3
            exact x_quoN (m := (looL j L).length) (j := 8) rfl e28 rfl rfl (by decide) (by omega)
          intro a71 hE e29 kp
          replace e26 := (kp 26 rfl).trans e26
          replace e27 := (kp 27 rfl).trans e27
          apply sq_detg 30 hE k rfl (by rfl) (by rfl) rfl rfl e26
          case h =>   -- 7: t30 := Op.move (tmp 1)
            exact x_move rfl (hE.eval 1 (by rfl) e1)
          intro a72 hE e30 kp
          replace e26 := (kp 26 rfl).trans e26
          replace e27 := (kp 27 rfl).trans e27
          replace e29 := (kp 29 rfl).trans e29
          apply sq_detg 31 hE k rfl (by rfl) (by rfl) rfl rfl e26
          case h =>   -- 8: t31 := Op.call {callee := Callee.builtin Builtin.len, args := #[tmp 30], argT
            exact x_len_l Try.underlying9 rfl e30
          intro a73 hE e31 kp
          replace e26 := (kp 26 rfl).trans e26
          replace e27 := (kp 27 rfl).trans e27
          replace e29 := (kp 29 rfl).trans e29
          apply sq_detg 32 hE k rfl (by rfl) (by rfl) rfl rfl e26
          case h =>   -- 9: t32 := Op.binOp BinOp.rem 3 (tmp 29) (tmp 31) 3
            exact x_remN (m := (looL j L).length / 8) (j := q.length) rfl e29 e31 rfl hql
          intro a74 hE e32 kp
          replace e26 := (kp 26 rfl).trans e26
          replace e27 := (kp 27 rfl).trans e27
          apply sq_detg 33 hE k rfl (by rfl) (by rfl) rfl rfl e26
          case h =>   -- 10: t33 := Op.index 9 (tmp 27) (tmp 32)
            exact x_index_s (j := (looL j L).length / 8 % q.length) Try.underlying9 rfl e27 e32 (Nat.mod_lt _ hql)
          intro a75 hE e33 kp
          replace e26 := (kp 26 rfl).trans e26
          apply sq_detg 34 hE k rfl (by rfl) (by rfl) rfl rfl e26
          case h =>   -- 11: t34 := Op.move (tmp 4)
            exact x_move rfl (hE.eval 4 (by rfl) e4)
          intro a76 hE e34 kp
          replace e26 := (kp 26 rfl).trans e26
          replace e33 := (kp 33 rfl).trans e33
          apply sq_detg 35 hE k rfl (by rfl) (by rfl) rfl rfl e26
          case h =>   -- 12: t35 := Op.binOp BinOp.rem 3 (tmp 34) (const (Value.int IntKind.i64 8)) 3
            exact x_remN (m := (looL j L).length) (j := 8) rfl e34 rfl rfl (by decide)
          intro a77 hE e35 kp
          replace e26 := (kp 26 rfl).trans e26
          replace e33 := (kp 33 rfl).trans e33
          apply sq_detg 36 hE k rfl (by rfl) (by rfl) rfl rfl e26
          case h =>   -- 13: t36 := Op.binOp BinOp.shr 5 (tmp 33) (tmp 35) 3
            exact x_shr8 rfl e33 e35 (by omega)
          intro a78 hE e36 kp
          replace e26 := (kp 26 rfl).trans e26
          apply sq_detg 37 hE k rfl (by rfl) (by rfl) rfl rfl e26
          case h =>   -- 14: t37 := Op.binOp BinOp.and 5 (tmp 36) (const (Value.int IntKind.u8 1)) 5
            exact x_and8 rfl e36 rfl
          intro a79 hE e37 kp
          replace e26 := (kp 26 rfl).trans e26
          apply sq_detg 38 hE k rfl (by rfl) (by rfl) rfl rfl e26
          case h =>   -- 15: t38 := Op.binOp BinOp.eql 5 (tmp 37) (const (Value.int IntKind.u8 1)) 5
            exact x_dec (x_eql rfl e37 rfl) (hst'.2)
          intro a80 hE e38 kp
          replace e26 := (kp 26 rfl).trans e26
          apply sq_det 39 hE k rfl (by rfl) (by rfl) rfl
          case h =>   -- 16: t39 := Op.pick (tmp 26) (tmp 38) (const (Value.bool false))
            exact x_pick_t rfl e26 e38
          intro a81 hE e39 kp
          refine wpList_nil ?_
          replace e0 := hE.eval 0 (by rfl) e0
          replace e1 := hE.eval 1 (by rfl) e1
          replace e4 := hE.eval 4 (by rfl) e4
          replace e5 := hE.eval 5 (by rfl) e5
          replace k := k.env hE
          clear hE e22
          refine then_n ?_
          refine cond_t e39 rfl ?_
          refine wp_typed (R := Ext) (w0 := w5) [[], [0], [0, 1], [0, 1, 2], [], [], [5], [5, 6], [5, 6, 7], [], [5, 6, 7, 8, 9], [5, 6, 7, 8, 9, 10], [0, 1, 2, 3, 4, 5, 6, 7, 8, 9, 10, 11], [0, 1, 2, 3, 4, 5, 6, 7, 8, 9, 10, 11, 12]] [40, 41, 42, 43, 44, 45, 46, 47, 48, 49, 50, 51, 52] Ext.refl (fun _ _ _ => Ext.trans) (Ext.drew _) (by kernel_rfl) ?_   -- region 6
          apply Build.det 40 Ext.refl (by rfl) (by rw [k.size]; rfl) rfl
          case h =>   -- 0: t40 := Op.move (tmp 0)
            intro ax wx hE hR hF
            exact x_move rfl (hE.eval 0 (by rfl) e0)
          apply Build.det 41 Ext.refl (by rfl) (by rw [k.size]; rfl) rfl
          case h =>   -- 1: t41 := Op.nilCheck (tmp 40)
            intro ax wx hE hR hF
            have e40 : ax.eval (.tmp 40) = _ := hF 0 (det 40 _) (by decide) (.head _)
            exact x_nil rfl e40
          apply Build.det 42 Ext.refl (by rfl) (by rw [k.size]; rfl) rfl
          case h =>   -- 2: t42 := Op.fieldAddr 80 (tmp 41) 1
            intro ax wx hE hR hF
            have e41 : ax.eval (.tmp 41) = _ := hF 1 (det 41 _) (by decide) (.head _)
            simp [go_sem, BigFrame.eval_const, BigFrame.eval_global, BigFrame.eval_func, ↓IntWalk.iteOmega, ev e41]
            with_reducible rfl
          apply Build.det 43 Ext.refl (by rfl) (by rw [k.size]; rfl) rfl
          case h =>   -- 3: t43 := Op.load 77 (tmp 42)
            intro ax wx hE hR hF
            have e42 : ax.eval (.tmp 42) = _ := hF 2 (det 42 _) (by decide) (.head _)
            have q0 : wx.cell? ⟨ub, 1, none⟩ = some (.slice (some ⟨g2, 0, none⟩) n c2) := (OwnT.blk (OwnT.ext O hR) 0 rfl).cell 1
            simp [go_sem, BigFrame.eval_const, BigFrame.eval_global, BigFrame.eval_func, ↓IntWalk.iteOmega, ev e42, q0]
            with_reducible rfl
          apply Build.det 44 Ext.refl (by rfl) (by rw [k.size]; rfl) rfl
          case h =>   -- 4: t44 := Op.move (tmp 5)
            intro ax wx hE hR hF
            exact x_move rfl (hE.eval 5 (by rfl) e5)
          apply Build.det 45 Ext.refl (by rfl) (by rw [k.size]; rfl) rfl
          case h =>   -- 5: t45 := Op.move (tmp 0)
            intro ax wx hE hR hF
            exact x_move rfl (hE.eval 0 (by rfl) e0)
          apply Build.det 46 Ext.refl (by rfl) (by rw [k.size]; rfl) rfl
          case h =>   -- 6: t46 := Op.nilCheck (tmp 45)
            intro ax wx hE hR hF
            have e45 : ax.eval (.tmp 45) = _ := hF 5 (det 45 _) (by decide) (.head _)
            exact x_nil rfl e45
          apply Build.det 47 Ext.refl (by rfl) (by rw [k.size]; rfl) rfl
          case h =>   -- 7: t47 := Op.fieldAddr 80 (tmp 46) 0
            intro ax wx hE hR hF
            have e46 : ax.eval (.tmp 46) = _ := hF 6 (det 46 _) (by decide) (.head _)
            simp [go_sem, BigFrame.eval_const, BigFrame.eval_global, BigFrame.eval_func, ↓IntWalk.iteOmega, ev e46]
            with_reducible rfl
          apply Build.det 48 Ext.refl (by rfl) (by rw [k.size]; rfl) rfl
          case h =>   -- 8: t48 := Op.load 77 (tmp 47)
            intro ax wx hE hR hF
            have e47 : ax.eval (.tmp 47) = _ := hF 7 (det 47 _) (by decide) (.head _)
            have q0 : wx.cell? ⟨ub, 0, none⟩ = some (.slice (some ⟨g1, 0, none⟩) n c1) := (OwnT.blk (OwnT.ext O hR) 0 rfl).cell 0
            simp [go_sem, BigFrame.eval_const, BigFrame.eval_global, BigFrame.eval_func, ↓IntWalk.iteOmega, ev e47, q0]
            with_reducible rfl
          apply Build.det 49 Ext.refl (by rfl) (by rw [k.size]; rfl) rfl
          case h =>   -- 9: t49 := Op.move (tmp 5)
            intro ax wx hE hR hF
            exact x_move rfl (hE.eval 5 (by rfl) e5)
          apply Build.det 50 Ext.refl (by rfl) (by rw [k.size]; rfl) rfl
          case h =>   -- 10: t50 := Op.indexAddr 77 (tmp 48) (tmp 49)
            intro ax wx hE hR hF
            have e48 : ax.eval (.tmp 48) = _ := hF 8 (det 48 _) (by decide) (.tail _ (.head _))
            have e49 : ax.eval (.tmp 49) = _ := hF 9 (det 49 _) (by decide) (.head _)
            simp [go_sem, BigFrame.eval_const, BigFrame.eval_global, BigFrame.eval_func, ↓IntWalk.iteOmega, ev e48, ev e49]
            with_reducible rfl
          apply Build.det 51 Ext.refl (by rfl) (by rw [k.size]; rfl) rfl
          case h =>   -- 11: t51 := Op.load 9 (tmp 50)
            intro ax wx hE hR hF
            have e50 : ax.eval (.tmp 50) = _ := hF 10 (det 50 _) (by decide) (.head _)
            have cx' : wx.cell? ⟨g1, j, none⟩ = some (.string (sB s)) := (row1_cell (OwnT.get (OwnT.ext O hR) 1 rfl) (i := j) (v := .string (sB s)) (by simp only [strsV, List.getElem?_map, hnj, Option.map_some])).1
            simp [go_sem, BigFrame.eval_const, BigFrame.eval_global, BigFrame.eval_func, ↓IntWalk.iteOmega, ev e50, cx']
            with_reducible rfl
          apply Build.det 52 Ext.refl (by rfl) (by rw [k.size]; rfl) rfl
          case h =>   -- 12: t52 := Op.indexAddr 77 (tmp 43) (tmp 44)
            intro ax wx hE hR hF
            have e43 : ax.eval (.tmp 43) = _ := hF 3 (det 43 _) (by decide) (.tail _ (.tail _ (.tail _ (.tail _ (.tail _ (.tail _ (.tail _ (.tail _ (.head _)))))))))
            have e44 : ax.eval (.tmp 44) = _ := hF 4 (det 44 _) (by decide) (.tail _ (.tail _ (.tail _ (.tail _ (.tail _ (.tail _ (.tail _ (.head _))))))))
            simp [go_sem, BigFrame.eval_const, BigFrame.eval_global, BigFrame.eval_func, ↓IntWalk.iteOmega, ev e43, ev e44]
            with_reducible rfl
          apply Build.stop
          refine ⟨by kernel_rfl, .inr ⟨by kernel_rfl, _, rfl, rfl, ?_⟩⟩
          intro a82 w83 hE R hF
          have e51 : a82.eval (.tmp 51) = _ := hF 11 (det 51 _) (.tail _ (.head _))
          have e52 : a82.eval (.tmp 52) = _ := hF 12 (det 52 _) (.head _)
          clear hF
          replace O := OwnT.ext O R
          clear R
          obtain ⟨hc, hfz⟩ := row1_cell (OwnT.get O 2 rfl) (i := j) (List.getElem?_eq_getElem (by simp only [strsV, List.length_map, setK_len]; omega))
          refine last_skip (w' := w83.setCell ⟨g2, j, none⟩ (.string (sB s))) rfl (by simp [go_sem, BigFrame.eval_const, BigFrame.eval_global, BigFrame.eval_func, ↓IntWalk.iteOmega, ev e52, ev e51, hc, hfz]) ?_
          replace O := OwnT.push (L := _ :: _ :: _ :: _ :: R) 2 rfl ((OwnT.pull O 2 rfl).setRow1 (i := j) hlt (.string (sB s)))
          clear hc hfz
          rw [← strsV_set, ← seS_yes hL hst, ← seN_yes hjS hL hst] at O
          generalize (w83.setCell ⟨g2, j, none⟩ (.string (sB s))) = w84 at O ⊢
          replace e0 := hE.eval 0 (by rfl) e0
          replace e1 := hE.eval 1 (by rfl) e1
          replace e4 := hE.eval 4 (by rfl) e4
          replace e5 := hE.eval 5 (by rfl) e5
          replace k := k.env hE
          clear hE e39 e51 e52
          refine then_n ?_
          obtain ⟨hc, hfz⟩ := row1_cell (OwnT.get O 3 rfl) (i := j) (List.getElem?_eq_getElem (by simp only [boolsV, List.length_map, blJ_len]; omega))
          refine wp_seq ?_
          refine wp_region_lit ?_   -- region 8
          have hE := Env.refl a82 [66, 67, 68, 69, 70, 71]
          apply sq_det 66 hE k rfl (by rfl) (by rfl) rfl
          case h =>   -- 0: t66 := Op.move (tmp 0)
            exact x_move rfl (hE.eval 0 (by rfl) e0)
          intro a85 hE e66 kp
          apply sq_det 67 hE k rfl (by rfl) (by rfl) rfl
          case h =>   -- 1: t67 := Op.nilCheck (tmp 66)
            exact x_nil rfl e66
          intro a86 hE e67 kp
          apply sq_det 68 hE k rfl (by rfl) (by rfl) rfl
          case h =>   -- 2: t68 := Op.fieldAddr 80 (tmp 67) 2
            simp [go_sem, BigFrame.eval_const, BigFrame.eval_global, BigFrame.eval_func, ↓IntWalk.iteOmega, ev e67]
            with_reducible rfl
          intro a87 hE e68 kp
          apply sq_det 69 hE k rfl (by rfl) (by rfl) rfl
          case h =>   -- 3: t69 := Op.load 78 (tmp 68)
            have q0 : w84.cell? ⟨ub, 2, none⟩ = some (.slice (some ⟨g3, 0, none⟩) n c3) := (OwnT.blk O 0 rfl).cell 2
            simp [go_sem, BigFrame.eval_const, BigFrame.eval_global, BigFrame.eval_func, ↓IntWalk.iteOmega, ev e68, q0]
            with_reducible rfl
          intro a88 hE e69 kp
          apply sq_det 70 hE k rfl (by rfl) (by rfl) rfl
          case h =>   -- 4: t70 := Op.move (tmp 5)
            exact x_move rfl (hE.eval 5 (by rfl) e5)
          intro a89 hE e70 kp
          replace e69 := (kp 69 rfl).trans e69
          apply sq_det 71 hE k rfl (by rfl) (by rfl) rfl
          case h =>   -- 5: t71 := Op.indexAddr 78 (tmp 69) (tmp 70)
            simp [go_sem, BigFrame.eval_const, BigFrame.eval_global, BigFrame.eval_func, ↓IntWalk.iteOmega, ev e69, ev e70]
            with_reducible rfl
          intro a90 hE e71 kp
          refine sq_unit (w' := (w84.setCell ⟨g3, j, none⟩ (.bool false))) hE rfl rfl ?_ ?_
          · simp [go_sem, BigFrame.eval_const, BigFrame.eval_global, BigFrame.eval_func, ↓IntWalk.iteOmega, ev e71, hc, hfz]
          replace O := OwnT.push (L := _ :: _ :: _ :: _ :: R) 3 rfl ((OwnT.pull O 3 rfl).setRow1 (i := j) hlt (.bool false))
          clear hc hfz
          rw [show (boolsV (blJ n j (isL n L))).set j (.bool false) = boolsV (blJ n (j + 1) (isL n L)) by rw [← blJ_set]; simp [boolsV, List.map_set]] at O
          generalize (w84.setCell ⟨g3, j, none⟩ (.bool false)) = w91 at O ⊢
          refine wpList_nil ?_
          replace e0 := hE.eval 0 (by rfl) e0
          replace e1 := hE.eval 1 (by rfl) e1
          replace e4 := hE.eval 4 (by rfl) e4
          replace e5 := hE.eval 5 (by rfl) e5
          replace k := k.env hE
          clear hE e71
          refine then_n ?_
          refine wp_region_lit ?_   -- region 9
          have hE := Env.refl a90 [72, 73, 4]
          apply sq_det 72 hE k rfl (by rfl) (by rfl) rfl
          case h =>   -- 0: t72 := Op.move (tmp 4)
            exact x_move rfl e4
          intro a92 hE e72 kp
          replace e4 := (kp 4 rfl).trans e4
          apply sq_det 73 hE k rfl (by rfl) (by rfl) rfl
          case h =>   -- 1: t73 := Op.binOp BinOp.add 3 (tmp 72) (const (Value.int IntKind.i64 1)) 3
            exact x_add rfl e72 rfl (by omega)
          intro a93 hE e73 kp
          replace e4 := (kp 4 rfl).trans e4
          apply sq_det 4 hE k rfl (by rfl) (by rfl) rfl
          case h =>   -- 2: t4 := Op.assign (tmp 73)
            exact x_assign rfl e73
          intro a94 hE e4 kp
          refine wpList_nil ?_
          replace e0 := hE.eval 0 (by rfl) e0
          replace e1 := hE.eval 1 (by rfl) e1
          replace e5 := hE.eval 5 (by rfl) e5
          replace k := k.env hE
          clear hE
          refine block_n ?_
          refine then_n ?_
          refine wp_region_lit ?_   -- region 3
          have hE := Env.refl a94 [13, 14, 5]
          apply sq_det 13 hE k rfl (by rfl) (by rfl) rfl
          case h =>   -- 0: t13 := Op.move (tmp 5)
            exact x_move rfl e5
          intro a95 hE e13 kp
          replace e5 := (kp 5 rfl).trans e5
          apply sq_det 14 hE k rfl (by rfl) (by rfl) rfl
          case h =>   -- 1: t14 := Op.binOp BinOp.add 3 (tmp 13) (const (Value.int IntKind.i64 1)) 3
            exact x_add rfl e13 rfl (by omega)
          intro a96 hE e14 kp
          replace e5 := (kp 5 rfl).trans e5
          apply sq_det 5 hE k rfl (by rfl) (by rfl) rfl
          case h =>   -- 2: t5 := Op.assign (tmp 14)
            exact x_assign rfl e14
          intro a97 hE e5 kp
          refine wpList_nil ?_
          replace e0 := hE.eval 0 (by rfl) e0
          replace e1 := hE.eval 1 (by rfl) e1
          replace e4 := hE.eval 4 (by rfl) e4
          replace k := k.env hE
          clear hE
          refine then_n ?_
          refine ⟨⟨k, e0, e1, j + 1, (by rw [looL_len_yes hL]; exact e4), e5, by omega, O⟩, ?_⟩
          rw [e5, mj]; simp only [intOf]; omega
        · replace hst := Bool.eq_false_iff.2 hst
          have hst' := hst
          unfold staysB at hst'
          rw [decide_eq_true hq0, Bool.true_and] at hst'
          refine wp_seq ?_
          refine wp_seq ?_
          refine wp_region_lit ?_   -- region 5
          have hE := Env.refl a31 [23, 24, 25, 26, 27, 28, 29, 30, 31, 32, 33, 34, 35, 36, 37, 38, 39]
          apply sq_det 23 hE k rfl (by rfl) (by rfl) rfl
          case h =>   -- 0: t23 := Op.move (tmp 1)
            exact x_move rfl (hE.eval 1 (by rfl) e1)
          intro a98 hE e23 kp
          apply sq_det 24 hE k rfl (by rfl) (by rfl) rfl
          case h =>   -- 1: t24 := Op.call {callee := Callee.builtin Builtin.len, args := #[tmp 23], argT
            exact x_len_l Try.underlying9 rfl e23
          intro a99 hE e24 kp
          apply sq_det 25 hE k rfl (by rfl) (by rfl) rfl
          case h =>   -- 2: t25 := Op.binOp BinOp.gtr 3 (tmp 24) (const (Value.int IntKind.i64 0)) 3
            exact x_dec (x_gtr rfl e24 rfl) (decide_eq_true (by omega))
          intro a100 hE e25 kp
          apply sq_det 26 hE k rfl (by rfl) (by rfl) rfl
          case h =>   -- 3: t26 := Op.move (tmp 25)
            exact x_move rfl e25
          intro a101 hE e26 kp
          apply sq_detg 27 hE k rfl (by rfl) (by rfl) rfl rfl e26
          case h =>   -- 4: t27 := Op.move (tmp 1)
            exact x_move rfl (hE.eval 1 (by rfl) e1)
          intro a102 hE e27 kp
          replace e26 := (kp 26 rfl).trans e26
          apply sq_detg 28 hE k rfl (by rfl) (by rfl) rfl rfl e26
          case h =>   -- 5: t28 := Op.move (tmp 4)
            exact x_move rfl (hE.eval 4 (by rfl) e4)
          intro a103 hE e28 kp
          replace e26 := (kp 26 rfl).trans e26
          replace e27 := (kp 27 rfl).trans e27
          apply sq_detg 29 hE k rfl (by rfl) (by rfl) rfl rfl e26
          case h =>   -- 6: t29 := Op.binOp BinOp.quo 3 (tmp 28) (const (Value.int IntKind.i64 8)) 3
            exact x_quoN (m := (looL j L).length) (j := 8) rfl e28 rfl rfl (by decide) (by omega)
          intro a104 hE e29 kp
          replace e26 := (kp 26 rfl).trans e26
          replace e27 := (kp 27 rfl).trans e27
          apply sq_detg 30 hE k rfl (by rfl) (by rfl) rfl rfl e26
          case h =>   -- 7: t30 := Op.move (tmp 1)
            exact x_move rfl (hE.eval 1 (by rfl) e1)
          intro a105 hE e30 kp
          replace e26 := (kp 26 rfl).trans e26
          replace e27 := (kp 27 rfl).trans e27
          replace e29 := (kp 29 rfl).trans e29
          apply sq_detg 31 hE k rfl (by rfl) (by rfl) rfl rfl e26
          case h =>   -- 8: t31 := Op.call {callee := Callee.builtin Builtin.len, args := #[tmp 30], argT
            exact x_len_l Try.underlying9 rfl e30
          intro a106 hE e31 kp
          replace e26 := (kp 26 rfl).trans e26
          replace e27 := (kp 27 rfl).trans e27
          replace e29 := (kp 29 rfl).trans e29
          apply sq_detg 32 hE k rfl (by rfl) (by rfl) rfl rfl e26
          case h =>   -- 9: t32 := Op.binOp BinOp.rem 3 (tmp 29) (tmp 31) 3
            exact x_remN (m := (looL j L).length / 8) (j := q.length) rfl e29 e31 rfl hql
          intro a107 hE e32 kp
          replace e26 := (kp 26 rfl).trans e26
          replace e27 := (kp 27 rfl).trans e27
          apply sq_detg 33 hE k rfl (by rfl) (by rfl) rfl rfl e26
          case h =>   -- 10: t33 := Op.index 9 (tmp 27) (tmp 32)
            exact x_index_s (j := (looL j L).length / 8 % q.length) Try.underlying9 rfl e27 e32 (Nat.mod_lt _ hql)
          intro a108 hE e33 kp
          replace e26 := (kp 26 rfl).trans e26
          apply sq_detg 34 hE k rfl (by rfl) (by rfl) rfl rfl e26
          case h =>   -- 11: t34 := Op.move (tmp 4)
            exact x_move rfl (hE.eval 4 (by rfl) e4)
          intro a109 hE e34 kp
          replace e26 := (kp 26 rfl).trans e26
          replace e33 := (kp 33 rfl).trans e33
          apply sq_detg 35 hE k rfl (by rfl) (by rfl) rfl rfl e26
          case h =>   -- 12: t35 := Op.binOp BinOp.rem 3 (tmp 34) (const (Value.int IntKind.i64 8)) 3
            exact x_remN (m := (looL j L).length) (j := 8) rfl e34 rfl rfl (by decide)
          intro a110 hE e35 kp
          replace e26 := (kp 26 rfl).trans e26
          replace e33 := (kp 33 rfl).trans e33
          apply sq_detg 36 hE k rfl (by rfl) (by rfl) rfl rfl e26
          case h =>   -- 13: t36 := Op.binOp BinOp.shr 5 (tmp 33) (tmp 35) 3
            exact x_shr8 rfl e33 e35 (by omega)
          intro a111 hE e36 kp
          replace e26 := (kp 26 rfl).trans e26
          apply sq_detg 37 hE k rfl (by rfl) (by rfl) rfl rfl e26
          case h =>   -- 14: t37 := Op.binOp BinOp.and 5 (tmp 36) (const (Value.int IntKind.u8 1)) 5
            exact x_and8 rfl e36 rfl
          intro a112 hE e37 kp
          replace e26 := (kp 26 rfl).trans e26
          apply sq_detg 38 hE k rfl (by rfl) (by rfl) rfl rfl e26
          case h =>   -- 15: t38 := Op.binOp BinOp.eql 5 (tmp 37) (const (Value.int IntKind.u8 1)) 5
            exact x_dec (x_eql rfl e37 rfl) (hst')
          intro a113 hE e38 kp
          replace e26 := (kp 26 rfl).trans e26
          apply sq_det 39 hE k rfl (by rfl) (by rfl) rfl
          case h =>   -- 16: t39 := Op.pick (tmp 26) (tmp 38) (const (Value.bool false))
            exact x_pick_t rfl e26 e38
          intro a114 hE e39 kp
          refine wpList_nil ?_
          replace e0 := hE.eval 0 (by rfl) e0
          replace e1 := hE.eval 1 (by rfl) e1
          replace e4 := hE.eval 4 (by rfl) e4
          replace e5 := hE.eval 5 (by rfl) e5
          replace k := k.env hE
          clear hE e22
          refine then_n ?_
          refine cond_f e39 rfl ?_
          refine wp_typed (R := Ext) (w0 := w5) [[], [0], [0, 1], [0, 1, 2], [], [], [5], [5, 6], [5, 6, 7], [], [5, 6, 7, 8, 9], [5, 6, 7, 8, 9, 10], [0, 1, 2, 3, 4, 5, 6, 7, 8, 9, 10, 11], [0, 1, 2, 3, 4, 5, 6, 7, 8, 9, 10, 11, 12]] [53, 54, 55, 56, 57, 58, 59, 60, 61, 62, 63, 64, 65] Ext.refl (fun _ _ _ => Ext.trans) (Ext.drew _) (by kernel_rfl) ?_   -- region 7
          apply Build.det 53 Ext.refl (by rfl) (by rw [k.size]; rfl) rfl
          case h =>   -- 0: t53 := Op.move (tmp 0)
            intro ax wx hE hR hF
            exact x_move rfl (hE.eval 0 (by rfl) e0)
          apply Build.det 54 Ext.refl (by rfl) (by rw [k.size]; rfl) rfl
          case h =>   -- 1: t54 := Op.nilCheck (tmp 53)
            intro ax wx hE hR hF
            have e53 : ax.eval (.tmp 53) = _ := hF 0 (det 53 _) (by decide) (.head _)
            exact x_nil rfl e53
          apply Build.det 55 Ext.refl (by rfl) (by rw [k.size]; rfl) rfl
          case h =>   -- 2: t55 := Op.fieldAddr 80 (tmp 54) 0
            intro ax wx hE hR hF
            have e54 : ax.eval (.tmp 54) = _ := hF 1 (det 54 _) (by decide) (.head _)
            simp [go_sem, BigFrame.eval_const, BigFrame.eval_global, BigFrame.eval_func, ↓IntWalk.iteOmega, ev e54]
            with_reducible rfl
          apply Build.det 56 Ext.refl (by rfl) (by rw [k.size]; rfl) rfl
          case h =>   -- 3: t56 := Op.load 77 (tmp 55)
            intro ax wx hE hR hF
            have e55 : ax.eval (.tmp 55) = _ := hF 2 (det 55 _) (by decide) (.head _)
            have q0 : wx.cell? ⟨ub, 0, none⟩ = some (.slice (some ⟨g1, 0, none⟩) n c1) := (OwnT.blk (OwnT.ext O hR) 0 rfl).cell 0
            simp [go_sem, BigFrame.eval_const, BigFrame.eval_global, BigFrame.eval_func, ↓IntWalk.iteOmega, ev e55, q0]
            with_reducible rfl
          apply Build.det 57 Ext.refl (by rfl) (by rw [k.size]; rfl) rfl
          case h =>   -- 4: t57 := Op.move (tmp 5)
            intro ax wx hE hR hF
            exact x_move rfl (hE.eval 5 (by rfl) e5)
          apply Build.det 58 Ext.refl (by rfl) (by rw [k.size]; rfl) rfl
          case h =>   -- 5: t58 := Op.move (tmp 0)
            intro ax wx hE hR hF
            exact x_move rfl (hE.eval 0 (by rfl) e0)
          apply Build.det 59 Ext.refl (by rfl) (by rw [k.size]; rfl) rfl
          case h =>   -- 6: t59 := Op.nilCheck (tmp 58)
            intro ax wx hE hR hF
            have e58 : ax.eval (.tmp 58) = _ := hF 5 (det 58 _) (by decide) (.head _)
            exact x_nil rfl e58
          apply Build.det 60 Ext.refl (by rfl) (by rw [k.size]; rfl) rfl
          case h =>   -- 7: t60 := Op.fieldAddr 80 (tmp 59) 1
            intro ax wx hE hR hF
            have e59 : ax.eval (.tmp 59) = _ := hF 6 (det 59 _) (by decide) (.head _)
            simp [go_sem, BigFrame.eval_const, BigFrame.eval_global, BigFrame.eval_func, ↓IntWalk.iteOmega, ev e59]
            with_reducible rfl
          apply Build.det 61 Ext.refl (by rfl) (by rw [k.size]; rfl) rfl
          case h =>   -- 8: t61 := Op.load 77 (tmp 60)
            intro ax wx hE hR hF
            have e60 : ax.eval (.tmp 60) = _ := hF 7 (det 60 _) (by decide) (.head _)
            have q0 : wx.cell? ⟨ub, 1, none⟩ = some (.slice (some ⟨g2, 0, none⟩) n c2) := (OwnT.blk (OwnT.ext O hR) 0 rfl).cell 1
            simp [go_sem, BigFrame.eval_const, BigFrame.eval_global, BigFrame.eval_func, ↓IntWalk.iteOmega, ev e60, q0]
            with_reducible rfl
          apply Build.det 62 Ext.refl (by rfl) (by rw [k.size]; rfl) rfl
          case h =>   -- 9: t62 := Op.move (tmp 5)
            intro ax wx hE hR hF
            exact x_move rfl (hE.eval 5 (by rfl) e5)
          apply Build.det 63 Ext.refl (by rfl) (by rw [k.size]; rfl) rfl
          case h =>   -- 10: t63 := Op.indexAddr 77 (tmp 61) (tmp 62)
            intro ax wx hE hR hF
            have e61 : ax.eval (.tmp 61) = _ := hF 8 (det 61 _) (by decide) (.tail _ (.head _))
            have e62 : ax.eval (.tmp 62) = _ := hF 9 (det 62 _) (by decide) (.head _)
            simp [go_sem, BigFrame.eval_const, BigFrame.eval_global, BigFrame.eval_func, ↓IntWalk.iteOmega, ev e61, ev e62]
            with_reducible rfl
          apply Build.det 64 Ext.refl (by rfl) (by rw [k.size]; rfl) rfl
          case h =>   -- 11: t64 := Op.load 9 (tmp 63)
            intro ax wx hE hR hF
            have e63 : ax.eval (.tmp 63) = _ := hF 10 (det 63 _) (by decide) (.head _)
            have cx' : wx.cell? ⟨g2, j, none⟩ = some (.string (sB (S.getD j []))) := (row1_cell (OwnT.get (OwnT.ext O hR) 2 rfl) (i := j) (v := .string (sB (S.getD j []))) (by simp only [strsV, List.getElem?_map, hsj, Option.map_some])).1
            simp [go_sem, BigFrame.eval_const, BigFrame.eval_global, BigFrame.eval_func, ↓IntWalk.iteOmega, ev e63, cx']
            with_reducible rfl
          apply Build.det 65 Ext.refl (by rfl) (by rw [k.size]; rfl) rfl
          case h =>   -- 12: t65 := Op.indexAddr 77 (tmp 56) (tmp 57)
            intro ax wx hE hR hF
            have e56 : ax.eval (.tmp 56) = _ := hF 3 (det 56 _) (by decide) (.tail _ (.tail _ (.tail _ (.tail _ (.tail _ (.tail _ (.tail _ (.tail _ (.head _)))))))))
            have e57 : ax.eval (.tmp 57) = _ := hF 4 (det 57 _) (by decide) (.tail _ (.tail _ (.tail _ (.tail _ (.tail _ (.tail _ (.tail _ (.head _))))))))
            simp [go_sem, BigFrame.eval_const, BigFrame.eval_global, BigFrame.eval_func, ↓IntWalk.iteOmega, ev e56, ev e57]
            with_reducible rfl
          apply Build.stop
          refine ⟨by kernel_rfl, .inr ⟨by kernel_rfl, _, rfl, rfl, ?_⟩⟩
          intro a115 w116 hE R hF
          have e64 : a115.eval (.tmp 64) = _ := hF 11 (det 64 _) (.tail _ (.head _))
          have e65 : a115.eval (.tmp 65) = _ := hF 12 (det 65 _) (.head _)
          clear hF
          replace O := OwnT.ext O R
          clear R
          obtain ⟨hc, hfz⟩ := row1_cell (OwnT.get O 1 rfl) (i := j) (List.getElem?_eq_getElem (by simp only [strsV, List.length_map, seN_len]; omega))
          refine last_skip (w' := w116.setCell ⟨g1, j, none⟩ (.string (sB (S.getD j [])))) rfl (by simp only [execOp]; simp [go_sem, BigFrame.eval_const, BigFrame.eval_global, BigFrame.eval_func, ↓IntWalk.iteOmega, ev e65, ev e64, hc, hfz]) ?_
          replace O := OwnT.push (L := _ :: _ :: _ :: _ :: R) 1 rfl ((OwnT.pull O 1 rfl).setRow1 (i := j) hlt (.string (sB (S.getD j []))))
          clear hc hfz
          rw [← strsV_set, ← seN_no hjS hL hst, ← seS_no hL hst] at O
          generalize (w116.setCell ⟨g1, j, none⟩ (.string (sB (S.getD j [])))) = w117 at O ⊢
          replace e0 := hE.eval 0 (by rfl) e0
          replace e1 := hE.eval 1 (by rfl) e1
          replace e4 := hE.eval 4 (by rfl) e4
          replace e5 := hE.eval 5 (by rfl) e5
          replace k := k.env hE
          clear hE e39 e64 e65
          refine then_n ?_
          obtain ⟨hc, hfz⟩ := row1_cell (OwnT.get O 3 rfl) (i := j) (List.getElem?_eq_getElem (by simp only [boolsV, List.length_map, blJ_len]; omega))
          refine wp_seq ?_
          refine wp_region_lit ?_   -- region 8
          have hE := Env.refl a115 [66, 67, 68, 69, 70, 71]
          apply sq_det 66 hE k rfl (by rfl) (by rfl) rfl
          case h =>   -- 0: t66 := Op.move (tmp 0)
            exact x_move rfl (hE.eval 0 (by rfl) e0)
          intro a118 hE e66 kp
          apply sq_det 67 hE k rfl (by rfl) (by rfl) rfl
          case h =>   -- 1: t67 := Op.nilCheck (tmp 66)
            exact x_nil rfl e66
          intro a119 hE e67 kp
          apply sq_det 68 hE k rfl (by rfl) (by rfl) rfl
          case h =>   -- 2: t68 := Op.fieldAddr 80 (tmp 67) 2
            simp [go_sem, BigFrame.eval_const, BigFrame.eval_global, BigFrame.eval_func, ↓IntWalk.iteOmega, ev e67]
            with_reducible rfl
          intro a120 hE e68 kp
          apply sq_det 69 hE k rfl (by rfl) (by rfl) rfl
          case h =>   -- 3: t69 := Op.load 78 (tmp 68)
            have q0 : w117.cell? ⟨ub, 2, none⟩ = some (.slice (some ⟨g3, 0, none⟩) n c3) := (OwnT.blk O 0 rfl).cell 2
            simp [go_sem, BigFrame.eval_const, BigFrame.eval_global, BigFrame.eval_func, ↓IntWalk.iteOmega, ev e68, q0]
            with_reducible rfl
          intro a121 hE e69 kp
          apply sq_det 70 hE k rfl (by rfl) (by rfl) rfl
          case h =>   -- 4: t70 := Op.move (tmp 5)
            exact x_move rfl (hE.eval 5 (by rfl) e5)
          intro a122 hE e70 kp
          replace e69 := (kp 69 rfl).trans e69
          apply sq_det 71 hE k rfl (by rfl) (by rfl) rfl
          case h =>   -- 5: t71 := Op.indexAddr 78 (tmp 69) (tmp 70)
            simp [go_sem, BigFrame.eval_const, BigFrame.eval_global, BigFrame.eval_func, ↓IntWalk.iteOmega, ev e69, ev e70]
            with_reducible rfl
          intro a123 hE e71 kp
          refine sq_unit (w' := (w117.setCell ⟨g3, j, none⟩ (.bool false))) hE rfl rfl ?_ ?_
          · simp [go_sem, BigFrame.eval_const, BigFrame.eval_global, BigFrame.eval_func, ↓IntWalk.iteOmega, ev e71, hc, hfz]
          replace O := OwnT.push (L := _ :: _ :: _ :: _ :: R) 3 rfl ((OwnT.pull O 3 rfl).setRow1 (i := j) hlt (.bool false))
          clear hc hfz
          rw [show (boolsV (blJ n j (isL n L))).set j (.bool false) = boolsV (blJ n (j + 1) (isL n L)) by rw [← blJ_set]; simp [boolsV, List.map_set]] at O
          generalize (w117.setCell ⟨g3, j, none⟩ (.bool false)) = w124 at O ⊢
          refine wpList_nil ?_
          replace e0 := hE.eval 0 (by rfl) e0
          replace e1 := hE.eval 1 (by rfl) e1
          replace e4 := hE.eval 4 (by rfl) e4
          replace e5 := hE.eval 5 (by rfl) e5
          replace k := k.env hE
          clear hE e71
          refine then_n ?_
          refine wp_region_lit ?_   -- region 9
          have hE := Env.refl a123 [72, 73, 4]
          apply sq_det 72 hE k rfl (by rfl) (by rfl) rfl
          case h =>   -- 0: t72 := Op.move (tmp 4)
            exact x_move rfl e4
          intro a125 hE e72 kp
          replace e4 := (kp 4 rfl).trans e4
          apply sq_det 73 hE k rfl (by rfl) (by rfl) rfl
          case h =>   -- 1: t73 := Op.binOp BinOp.add 3 (tmp 72) (const (Value.int IntKind.i64 1)) 3
            exact x_add rfl e72 rfl (by omega)
          intro a126 hE e73 kp
          replace e4 := (kp 4 rfl).trans e4
          apply sq_det 4 hE k rfl (by rfl) (by rfl) rfl
          case h =>   -- 2: t4 := Op.assign (tmp 73)
            exact x_assign rfl e73
          intro a127 hE e4 kp
          refine wpList_nil ?_
          replace e0 := hE.eval 0 (by rfl) e0
          replace e1 := hE.eval 1 (by rfl) e1
          replace e5 := hE.eval 5 (by rfl) e5
          replace k := k.env hE
          clear hE
          refine block_n ?_
          refine then_n ?_
          refine wp_region_lit ?_   -- region 3
          have hE := Env.refl a127 [13, 14, 5]
          apply sq_det 13 hE k rfl (by rfl) (by rfl) rfl
          case h =>   -- 0: t13 := Op.move (tmp 5)
            exact x_move rfl e5
          intro a128 hE e13 kp
          replace e5 := (kp 5 rfl).trans e5
          apply sq_det 14 hE k rfl (by rfl) (by rfl) rfl
          case h =>   -- 1: t14 := Op.binOp BinOp.add 3 (tmp 13) (const (Value.int IntKind.i64 1)) 3
            exact x_add rfl e13 rfl (by omega)
          intro a129 hE e14 kp
          replace e5 := (kp 5 rfl).trans e5
          apply sq_det 5 hE k rfl (by rfl) (by rfl) rfl
          case h =>   -- 2: t5 := Op.assign (tmp 14)
            exact x_assign rfl e14
          intro a130 hE e5 kp
          refine wpList_nil ?_
          replace e0 := hE.eval 0 (by rfl) e0
          replace e1 := hE.eval 1 (by rfl) e1
          replace e4 := hE.eval 4 (by rfl) e4
          replace k := k.env hE
          clear hE
          refine then_n ?_
          refine ⟨⟨k, e0, e1, j + 1, (by rw [looL_len_yes hL]; exact e4), e5, by omega, O⟩, ?_⟩
          rw [e5, mj]; simp only [intOf]; omega
  · have hltI : ¬ (j : Int) < (n : Int) := by omega
    refine cond_f e12 (congrArg Value.bool (decide_eq_false (by omega))) ?_
    clear e0 e1 e4 e5 e12
    obtain rfl : j = n := by omega
    rw [seN_all hS, blJ_all] at O
    refine wp_exit ?_
    refine then_x ?_
    refine then_x ?_
    refine block_x ?_
    refine end_F0 rfl k ?_
    exact ⟨rfl, O⟩
end Go.Proofs.Ytdpohbaeopidmaa
