/- disc: has, Write, Read, Flush (printed by XDiscC.gen.py). -/
import Derived.Test.YtdpohbaeopidmaaKChunkExact09
namespace Go.Proofs.Ytdpohbaeopidmaa
attribute [local simp] BigFrame.eval_const BigFrame.eval_global BigFrame.eval_func
set_option linter.unusedVariables false
set_option linter.unusedSimpArgs false
open Go.RowKit Go.Maps

def fitsB (n : Nat) (x k : Int) : Bool := decide (0 ≤ x ∧ 0 ≤ k ∧ x ≤ n ∧ k ≤ n - x)
set_option maxRecDepth 100000 in
set_option maxHeartbeats 4000000 in
theorem dhas_any {p mb n cap bm : Nat} {B : Option Addr} {S : List Sec} {L : Int → Option Sec} (x y : Int) (w : World) (h : DiscR p mb B n cap bm S L w) : Calls Try.prog 80 #[.pointer (some ⟨p, 0, none⟩), .int .i64 x, .int .i64 y] w fun e w' => e = .returned (.bool (fitsB n x y)) ∧ w = w' := by
  have c1 : w.cell? ⟨p, 1, none⟩ = some (.slice B n cap) := h.blk.cell 1
  have hn := h.ok.le
  clear h
  by_cases h0 : 0 ≤ x
  rotate_left
  · skip
    refine calls_F Try.func80 rfl 33 rfl (by rfl) ?_
    intro a1 k hargs
    have e0 : a1.eval (.tmp 0) = .pointer (some ⟨p, 0, none⟩) := hargs 0 _ rfl
    have e1 : a1.eval (.tmp 1) = .int .i64 x := hargs 1 _ rfl
    have e2 : a1.eval (.tmp 2) = .int .i64 y := hargs 2 _ rfl
    clear hargs
    refine wp_seq ?_
    refine wp_region_lit ?_
    have hE := Env.refl a1 [6]
    apply sq_det 6 hE k rfl (by rfl) (by rfl) rfl
    case h =>
      exact x_assign rfl rfl
    intro a2 hE e6 kp
    refine wpList_nil ?_
    replace e0 := hE.eval 0 (by rfl) e0
    replace e1 := hE.eval 1 (by rfl) e1
    replace e2 := hE.eval 2 (by rfl) e2
    replace k := k.env hE
    clear hE e6
    refine then_n ?_
    refine wp_seq ?_
    refine wp_region_lit ?_
    have hE := Env.refl a2 [7, 8, 9, 10, 11, 12, 13, 14, 15, 16, 17, 18, 19, 20, 21, 22, 23, 24, 25, 26, 27, 28, 29, 30, 31, 32, 6]
    apply sq_det 7 hE k rfl (by rfl) (by rfl) rfl
    case h =>
      exact x_move rfl (hE.eval 1 (by rfl) e1)
    intro a3 hE e7 kp
    apply sq_det 8 hE k rfl (by rfl) (by rfl) rfl
    case h =>
      exact x_dec (x_geq rfl e7 rfl) (decide_eq_false (by omega))
    intro a4 hE e8 kp
    apply sq_det 9 hE k rfl (by rfl) (by rfl) rfl
    case h =>
      exact x_move rfl e8
    intro a5 hE e9 kp
    refine sq_skipg 10 hE k rfl (by rfl) (by rfl) rfl rfl (.inl e9) ?_
    intro a6 hE e10 kp
    replace e9 := (kp 9 rfl).trans e9
    refine sq_skipg 11 hE k rfl (by rfl) (by rfl) rfl rfl (.inl e9) ?_
    intro a7 hE e11 kp
    replace e9 := (kp 9 rfl).trans e9
    apply sq_det 12 hE k rfl (by rfl) (by rfl) rfl
    case h =>
      exact x_pick_f rfl e9 rfl
    intro a8 hE e12 kp
    apply sq_det 13 hE k rfl (by rfl) (by rfl) rfl
    case h =>
      exact x_move rfl e12
    intro a9 hE e13 kp
    refine sq_skipg 14 hE k rfl (by rfl) (by rfl) rfl rfl (.inl e13) ?_
    intro a10 hE e14 kp
    replace e13 := (kp 13 rfl).trans e13
    refine sq_skipg 15 hE k rfl (by rfl) (by rfl) rfl rfl (.inl e13) ?_
    intro a11 hE e15 kp
    replace e13 := (kp 13 rfl).trans e13
    replace e14 := (kp 14 rfl).trans e14
    refine sq_skipg 16 hE k rfl (by rfl) (by rfl) rfl rfl (.inl e13) ?_
    intro a12 hE e16 kp
    replace e13 := (kp 13 rfl).trans e13
    replace e14 := (kp 14 rfl).trans e14
    refine sq_skipg 17 hE k rfl (by rfl) (by rfl) rfl rfl (.inl e13) ?_
    intro a13 hE e17 kp
    replace e13 := (kp 13 rfl).trans e13
    replace e14 := (kp 14 rfl).trans e14
    refine sq_skipg 18 hE k rfl (by rfl) (by rfl) rfl rfl (.inl e13) ?_
    intro a14 hE e18 kp
    replace e13 := (kp 13 rfl).trans e13
    replace e14 := (kp 14 rfl).trans e14
    refine sq_skipg 19 hE k rfl (by rfl) (by rfl) rfl rfl (.inl e13) ?_
    intro a15 hE e19 kp
    replace e13 := (kp 13 rfl).trans e13
    replace e14 := (kp 14 rfl).trans e14
    refine sq_skipg 20 hE k rfl (by rfl) (by rfl) rfl rfl (.inl e13) ?_
    intro a16 hE e20 kp
    replace e13 := (kp 13 rfl).trans e13
    apply sq_det 21 hE k rfl (by rfl) (by rfl) rfl
    case h =>
      exact x_pick_f rfl e13 rfl
    intro a17 hE e21 kp
    apply sq_det 22 hE k rfl (by rfl) (by rfl) rfl
    case h =>
      exact x_move rfl e21
    intro a18 hE e22 kp
    refine sq_skipg 23 hE k rfl (by rfl) (by rfl) rfl rfl (.inl e22) ?_
    intro a19 hE e23 kp
    replace e22 := (kp 22 rfl).trans e22
    refine sq_skipg 24 hE k rfl (by rfl) (by rfl) rfl rfl (.inl e22) ?_
    intro a20 hE e24 kp
    replace e22 := (kp 22 rfl).trans e22
    replace e23 := (kp 23 rfl).trans e23
    refine sq_skipg 25 hE k rfl (by rfl) (by rfl) rfl rfl (.inl e22) ?_
    intro a21 hE e25 kp
    replace e22 := (kp 22 rfl).trans e22
    replace e23 := (kp 23 rfl).trans e23
    refine sq_skipg 26 hE k rfl (by rfl) (by rfl) rfl rfl (.inl e22) ?_
    intro a22 hE e26 kp
    replace e22 := (kp 22 rfl).trans e22
    replace e23 := (kp 23 rfl).trans e23
    refine sq_skipg 27 hE k rfl (by rfl) (by rfl) rfl rfl (.inl e22) ?_
    intro a23 hE e27 kp
    replace e22 := (kp 22 rfl).trans e22
    replace e23 := (kp 23 rfl).trans e23
    refine sq_skipg 28 hE k rfl (by rfl) (by rfl) rfl rfl (.inl e22) ?_
    intro a24 hE e28 kp
    replace e22 := (kp 22 rfl).trans e22
    replace e23 := (kp 23 rfl).trans e23
    refine sq_skipg 29 hE k rfl (by rfl) (by rfl) rfl rfl (.inl e22) ?_
    intro a25 hE e29 kp
    replace e22 := (kp 22 rfl).trans e22
    replace e23 := (kp 23 rfl).trans e23
    replace e28 := (kp 28 rfl).trans e28
    refine sq_skipg 30 hE k rfl (by rfl) (by rfl) rfl rfl (.inl e22) ?_
    intro a26 hE e30 kp
    replace e22 := (kp 22 rfl).trans e22
    replace e23 := (kp 23 rfl).trans e23
    refine sq_skipg 31 hE k rfl (by rfl) (by rfl) rfl rfl (.inl e22) ?_
    intro a27 hE e31 kp
    replace e22 := (kp 22 rfl).trans e22
    apply sq_det 32 hE k rfl (by rfl) (by rfl) rfl
    case h =>
      exact x_pick_f rfl e22 rfl
    intro a28 hE e32 kp
    apply sq_det 6 hE k rfl (by rfl) (by rfl) rfl
    case h =>
      exact x_assign rfl e32
    intro a29 hE e6 kp
    refine wpList_nil ?_
    replace k := k.env hE
    clear hE e0 e1 e2
    refine then_n ?_
    refine wp_ret ?_
    refine ret_F1 rfl k e6 ?_
    exact ⟨congrArg (fun b => Ending.returned (.bool b)) (show false = fitsB n x y from (decide_eq_false (by omega)).symm), rfl⟩
  by_cases h1 : 0 ≤ y
  rotate_left
  · skip
    refine calls_F Try.func80 rfl 33 rfl (by rfl) ?_
    intro a1 k hargs
    have e0 : a1.eval (.tmp 0) = .pointer (some ⟨p, 0, none⟩) := hargs 0 _ rfl
    have e1 : a1.eval (.tmp 1) = .int .i64 x := hargs 1 _ rfl
    have e2 : a1.eval (.tmp 2) = .int .i64 y := hargs 2 _ rfl
    clear hargs
    refine wp_seq ?_
    refine wp_region_lit ?_
    have hE := Env.refl a1 [6]
    apply sq_det 6 hE k rfl (by rfl) (by rfl) rfl
    case h =>
      exact x_assign rfl rfl
    intro a2 hE e6 kp
    refine wpList_nil ?_
    replace e0 := hE.eval 0 (by rfl) e0
    replace e1 := hE.eval 1 (by rfl) e1
    replace e2 := hE.eval 2 (by rfl) e2
    replace k := k.env hE
    clear hE e6
    refine then_n ?_
    refine wp_seq ?_
    refine wp_region_lit ?_
    have hE := Env.refl a2 [7, 8, 9, 10, 11, 12, 13, 14, 15, 16, 17, 18, 19, 20, 21, 22, 23, 24, 25, 26, 27, 28, 29, 30, 31, 32, 6]
    apply sq_det 7 hE k rfl (by rfl) (by rfl) rfl
    case h =>
      exact x_move rfl (hE.eval 1 (by rfl) e1)
    intro a3 hE e7 kp
    apply sq_det 8 hE k rfl (by rfl) (by rfl) rfl
    case h =>
      exact x_dec (x_geq rfl e7 rfl) (decide_eq_true (by omega))
    intro a4 hE e8 kp
    apply sq_det 9 hE k rfl (by rfl) (by rfl) rfl
    case h =>
      exact x_move rfl e8
    intro a5 hE e9 kp
    apply sq_detg 10 hE k rfl (by rfl) (by rfl) rfl rfl e9
    case h =>
      exact x_move rfl (hE.eval 2 (by rfl) e2)
    intro a6 hE e10 kp
    replace e9 := (kp 9 rfl).trans e9
    apply sq_detg 11 hE k rfl (by rfl) (by rfl) rfl rfl e9
    case h =>
      exact x_dec (x_geq rfl e10 rfl) (decide_eq_false (by omega))
    intro a7 hE e11 kp
    replace e9 := (kp 9 rfl).trans e9
    apply sq_det 12 hE k rfl (by rfl) (by rfl) rfl
    case h =>
      exact x_pick_t rfl e9 e11
    intro a8 hE e12 kp
    apply sq_det 13 hE k rfl (by rfl) (by rfl) rfl
    case h =>
      exact x_move rfl e12
    intro a9 hE e13 kp
    refine sq_skipg 14 hE k rfl (by rfl) (by rfl) rfl rfl (.inl e13) ?_
    intro a10 hE e14 kp
    replace e13 := (kp 13 rfl).trans e13
    refine sq_skipg 15 hE k rfl (by rfl) (by rfl) rfl rfl (.inl e13) ?_
    intro a11 hE e15 kp
    replace e13 := (kp 13 rfl).trans e13
    replace e14 := (kp 14 rfl).trans e14
    refine sq_skipg 16 hE k rfl (by rfl) (by rfl) rfl rfl (.inl e13) ?_
    intro a12 hE e16 kp
    replace e13 := (kp 13 rfl).trans e13
    replace e14 := (kp 14 rfl).trans e14
    refine sq_skipg 17 hE k rfl (by rfl) (by rfl) rfl rfl (.inl e13) ?_
    intro a13 hE e17 kp
    replace e13 := (kp 13 rfl).trans e13
    replace e14 := (kp 14 rfl).trans e14
    refine sq_skipg 18 hE k rfl (by rfl) (by rfl) rfl rfl (.inl e13) ?_
    intro a14 hE e18 kp
    replace e13 := (kp 13 rfl).trans e13
    replace e14 := (kp 14 rfl).trans e14
    refine sq_skipg 19 hE k rfl (by rfl) (by rfl) rfl rfl (.inl e13) ?_
    intro a15 hE e19 kp
    replace e13 := (kp 13 rfl).trans e13
    replace e14 := (kp 14 rfl).trans e14
    refine sq_skipg 20 hE k rfl (by rfl) (by rfl) rfl rfl (.inl e13) ?_
    intro a16 hE e20 kp
    replace e13 := (kp 13 rfl).trans e13
    apply sq_det 21 hE k rfl (by rfl) (by rfl) rfl
    case h =>
      exact x_pick_f rfl e13 rfl
    intro a17 hE e21 kp
    apply sq_det 22 hE k rfl (by rfl) (by rfl) rfl
    case h =>
      exact x_move rfl e21
    intro a18 hE e22 kp
    refine sq_skipg 23 hE k rfl (by rfl) (by rfl) rfl rfl (.inl e22) ?_
    intro a19 hE e23 kp
    replace e22 := (kp 22 rfl).trans e22
    refine sq_skipg 24 hE k rfl (by rfl) (by rfl) rfl rfl (.inl e22) ?_
    intro a20 hE e24 kp
    replace e22 := (kp 22 rfl).trans e22
    replace e23 := (kp 23 rfl).trans e23
    refine sq_skipg 25 hE k rfl (by rfl) (by rfl) rfl rfl (.inl e22) ?_
    intro a21 hE e25 kp
    replace e22 := (kp 22 rfl).trans e22
    replace e23 := (kp 23 rfl).trans e23
    refine sq_skipg 26 hE k rfl (by rfl) (by rfl) rfl rfl (.inl e22) ?_
    intro a22 hE e26 kp
    replace e22 := (kp 22 rfl).trans e22
    replace e23 := (kp 23 rfl).trans e23
    refine sq_skipg 27 hE k rfl (by rfl) (by rfl) rfl rfl (.inl e22) ?_
    intro a23 hE e27 kp
    replace e22 := (kp 22 rfl).trans e22
    replace e23 := (kp 23 rfl).trans e23
    refine sq_skipg 28 hE k rfl (by rfl) (by rfl) rfl rfl (.inl e22) ?_
    intro a24 hE e28 kp
    replace e22 := (kp 22 rfl).trans e22
    replace e23 := (kp 23 rfl).trans e23
    refine sq_skipg 29 hE k rfl (by rfl) (by rfl) rfl rfl (.inl e22) ?_
    intro a25 hE e29 kp
    replace e22 := (kp 22 rfl).trans e22
    replace e23 := (kp 23 rfl).trans e23
    replace e28 := (kp 28 rfl).trans e28
    refine sq_skipg 30 hE k rfl (by rfl) (by rfl) rfl rfl (.inl e22) ?_
    intro a26 hE e30 kp
    replace e22 := (kp 22 rfl).trans e22
    replace e23 := (kp 23 rfl).trans e23
    refine sq_skipg 31 hE k rfl (by rfl) (by rfl) rfl rfl (.inl e22) ?_
    intro a27 hE e31 kp
    replace e22 := (kp 22 rfl).trans e22
    apply sq_det 32 hE k rfl (by rfl) (by rfl) rfl
    case h =>
      exact x_pick_f rfl e22 rfl
    intro a28 hE e32 kp
    apply sq_det 6 hE k rfl (by rfl) (by rfl) rfl
    case h =>
      exact x_assign rfl e32
    intro a29 hE e6 kp
    refine wpList_nil ?_
    replace k := k.env hE
    clear hE e0 e1 e2
    refine then_n ?_
    refine wp_ret ?_
    refine ret_F1 rfl k e6 ?_
    exact ⟨congrArg (fun b => Ending.returned (.bool b)) (show false = fitsB n x y from (decide_eq_false (by omega)).symm), rfl⟩
  by_cases h2 : x ≤ n
  rotate_left
  · skip
    refine calls_F Try.func80 rfl 33 rfl (by rfl) ?_
    intro a1 k hargs
    have e0 : a1.eval (.tmp 0) = .pointer (some ⟨p, 0, none⟩) := hargs 0 _ rfl
    have e1 : a1.eval (.tmp 1) = .int .i64 x := hargs 1 _ rfl
    have e2 : a1.eval (.tmp 2) = .int .i64 y := hargs 2 _ rfl
    clear hargs
    refine wp_seq ?_
    refine wp_region_lit ?_
    have hE := Env.refl a1 [6]
    apply sq_det 6 hE k rfl (by rfl) (by rfl) rfl
    case h =>
      exact x_assign rfl rfl
    intro a2 hE e6 kp
    refine wpList_nil ?_
    replace e0 := hE.eval 0 (by rfl) e0
    replace e1 := hE.eval 1 (by rfl) e1
    replace e2 := hE.eval 2 (by rfl) e2
    replace k := k.env hE
    clear hE e6
    refine then_n ?_
    refine wp_seq ?_
    refine wp_region_lit ?_
    have hE := Env.refl a2 [7, 8, 9, 10, 11, 12, 13, 14, 15, 16, 17, 18, 19, 20, 21, 22, 23, 24, 25, 26, 27, 28, 29, 30, 31, 32, 6]
    apply sq_det 7 hE k rfl (by rfl) (by rfl) rfl
    case h =>
      exact x_move rfl (hE.eval 1 (by rfl) e1)
    intro a3 hE e7 kp
    apply sq_det 8 hE k rfl (by rfl) (by rfl) rfl
    case h =>
      exact x_dec (x_geq rfl e7 rfl) (decide_eq_true (by omega))
    intro a4 hE e8 kp
    apply sq_det 9 hE k rfl (by rfl) (by rfl) rfl
    case h =>
      exact x_move rfl e8
    intro a5 hE e9 kp
    apply sq_detg 10 hE k rfl (by rfl) (by rfl) rfl rfl e9
    case h =>
      exact x_move rfl (hE.eval 2 (by rfl) e2)
    intro a6 hE e10 kp
    replace e9 := (kp 9 rfl).trans e9
    apply sq_detg 11 hE k rfl (by rfl) (by rfl) rfl rfl e9
    case h =>
      exact x_dec (x_geq rfl e10 rfl) (decide_eq_true (by omega))
    intro a7 hE e11 kp
    replace e9 := (kp 9 rfl).trans e9
    apply sq_det 12 hE k rfl (by rfl) (by rfl) rfl
    case h =>
      exact x_pick_t rfl e9 e11
    intro a8 hE e12 kp
    apply sq_det 13 hE k rfl (by rfl) (by rfl) rfl
    case h =>
      exact x_move rfl e12
    intro a9 hE e13 kp
    apply sq_detg 14 hE k rfl (by rfl) (by rfl) rfl rfl e13
    case h =>
      exact x_move rfl (hE.eval 1 (by rfl) e1)
    intro a10 hE e14 kp
    replace e13 := (kp 13 rfl).trans e13
    apply sq_detg 15 hE k rfl (by rfl) (by rfl) rfl rfl e13
    case h =>
      exact x_move rfl (hE.eval 0 (by rfl) e0)
    intro a11 hE e15 kp
    replace e13 := (kp 13 rfl).trans e13
    replace e14 := (kp 14 rfl).trans e14
    apply sq_detg 16 hE k rfl (by rfl) (by rfl) rfl rfl e13
    case h =>
      exact x_nil rfl e15
    intro a12 hE e16 kp
    replace e13 := (kp 13 rfl).trans e13
    replace e14 := (kp 14 rfl).trans e14
    apply sq_detg 17 hE k rfl (by rfl) (by rfl) rfl rfl e13
    case h =>
      simp [go_sem, ↓IntWalk.iteOmega, ev e16]
      with_reducible rfl
    intro a13 hE e17 kp
    replace e13 := (kp 13 rfl).trans e13
    replace e14 := (kp 14 rfl).trans e14
    apply sq_detg 18 hE k rfl (by rfl) (by rfl) rfl rfl e13
    case h =>
      simp [go_sem, ↓IntWalk.iteOmega, ev e17, c1]
      with_reducible rfl
    intro a14 hE e18 kp
    replace e13 := (kp 13 rfl).trans e13
    replace e14 := (kp 14 rfl).trans e14
    apply sq_detg 19 hE k rfl (by rfl) (by rfl) rfl rfl e13
    case h =>
      exact x_len Try.underlying77 rfl e18
    intro a15 hE e19 kp
    replace e13 := (kp 13 rfl).trans e13
    replace e14 := (kp 14 rfl).trans e14
    apply sq_detg 20 hE k rfl (by rfl) (by rfl) rfl rfl e13
    case h =>
      exact x_dec (x_leq rfl e14 e19) (decide_eq_false (by omega))
    intro a16 hE e20 kp
    replace e13 := (kp 13 rfl).trans e13
    apply sq_det 21 hE k rfl (by rfl) (by rfl) rfl
    case h =>
      exact x_pick_t rfl e13 e20
    intro a17 hE e21 kp
    apply sq_det 22 hE k rfl (by rfl) (by rfl) rfl
    case h =>
      exact x_move rfl e21
    intro a18 hE e22 kp
    refine sq_skipg 23 hE k rfl (by rfl) (by rfl) rfl rfl (.inl e22) ?_
    intro a19 hE e23 kp
    replace e22 := (kp 22 rfl).trans e22
    refine sq_skipg 24 hE k rfl (by rfl) (by rfl) rfl rfl (.inl e22) ?_
    intro a20 hE e24 kp
    replace e22 := (kp 22 rfl).trans e22
    replace e23 := (kp 23 rfl).trans e23
    refine sq_skipg 25 hE k rfl (by rfl) (by rfl) rfl rfl (.inl e22) ?_
    intro a21 hE e25 kp
    replace e22 := (kp 22 rfl).trans e22
    replace e23 := (kp 23 rfl).trans e23
    refine sq_skipg 26 hE k rfl (by rfl) (by rfl) rfl rfl (.inl e22) ?_
    intro a22 hE e26 kp
    replace e22 := (kp 22 rfl).trans e22
    replace e23 := (kp 23 rfl).trans e23
    refine sq_skipg 27 hE k rfl (by rfl) (by rfl) rfl rfl (.inl e22) ?_
    intro a23 hE e27 kp
    replace e22 := (kp 22 rfl).trans e22
    replace e23 := (kp 23 rfl).trans e23
    refine sq_skipg 28 hE k rfl (by rfl) (by rfl) rfl rfl (.inl e22) ?_
    intro a24 hE e28 kp
    replace e22 := (kp 22 rfl).trans e22
    replace e23 := (kp 23 rfl).trans e23
    refine sq_skipg 29 hE k rfl (by rfl) (by rfl) rfl rfl (.inl e22) ?_
    intro a25 hE e29 kp
    replace e22 := (kp 22 rfl).trans e22
    replace e23 := (kp 23 rfl).trans e23
    replace e28 := (kp 28 rfl).trans e28
    refine sq_skipg 30 hE k rfl (by rfl) (by rfl) rfl rfl (.inl e22) ?_
    intro a26 hE e30 kp
    replace e22 := (kp 22 rfl).trans e22
    replace e23 := (kp 23 rfl).trans e23
    refine sq_skipg 31 hE k rfl (by rfl) (by rfl) rfl rfl (.inl e22) ?_
    intro a27 hE e31 kp
    replace e22 := (kp 22 rfl).trans e22
    apply sq_det 32 hE k rfl (by rfl) (by rfl) rfl
    case h =>
      exact x_pick_f rfl e22 rfl
    intro a28 hE e32 kp
    apply sq_det 6 hE k rfl (by rfl) (by rfl) rfl
    case h =>
      exact x_assign rfl e32
    intro a29 hE e6 kp
    refine wpList_nil ?_
    replace k := k.env hE
    clear hE e0 e1 e2
    refine then_n ?_
    refine wp_ret ?_
    refine ret_F1 rfl k e6 ?_
    exact ⟨congrArg (fun b => Ending.returned (.bool b)) (show false = fitsB n x y from (decide_eq_false (by omega)).symm), rfl⟩
  by_cases h3 : y ≤ n - x
  rotate_left
  · skip
    refine calls_F Try.func80 rfl 33 rfl (by rfl) ?_
    intro a1 k hargs
    have e0 : a1.eval (.tmp 0) = .pointer (some ⟨p, 0, none⟩) := hargs 0 _ rfl
    have e1 : a1.eval (.tmp 1) = .int .i64 x := hargs 1 _ rfl
    have e2 : a1.eval (.tmp 2) = .int .i64 y := hargs 2 _ rfl
    clear hargs
    refine wp_seq ?_
    refine wp_region_lit ?_
    have hE := Env.refl a1 [6]
    apply sq_det 6 hE k rfl (by rfl) (by rfl) rfl
    case h =>
      exact x_assign rfl rfl
    intro a2 hE e6 kp
    refine wpList_nil ?_
    replace e0 := hE.eval 0 (by rfl) e0
    replace e1 := hE.eval 1 (by rfl) e1
    replace e2 := hE.eval 2 (by rfl) e2
    replace k := k.env hE
    clear hE e6
    refine then_n ?_
    refine wp_seq ?_
    refine wp_region_lit ?_
    have hE := Env.refl a2 [7, 8, 9, 10, 11, 12, 13, 14, 15, 16, 17, 18, 19, 20, 21, 22, 23, 24, 25, 26, 27, 28, 29, 30, 31, 32, 6]
    apply sq_det 7 hE k rfl (by rfl) (by rfl) rfl
    case h =>
      exact x_move rfl (hE.eval 1 (by rfl) e1)
    intro a3 hE e7 kp
    apply sq_det 8 hE k rfl (by rfl) (by rfl) rfl
    case h =>
      exact x_dec (x_geq rfl e7 rfl) (decide_eq_true (by omega))
    intro a4 hE e8 kp
    apply sq_det 9 hE k rfl (by rfl) (by rfl) rfl
    case h =>
      exact x_move rfl e8
    intro a5 hE e9 kp
    apply sq_detg 10 hE k rfl (by rfl) (by rfl) rfl rfl e9
    case h =>
      exact x_move rfl (hE.eval 2 (by rfl) e2)
    intro a6 hE e10 kp
    replace e9 := (kp 9 rfl).trans e9
    apply sq_detg 11 hE k rfl (by rfl) (by rfl) rfl rfl e9
    case h =>
      exact x_dec (x_geq rfl e10 rfl) (decide_eq_true (by omega))
    intro a7 hE e11 kp
    replace e9 := (kp 9 rfl).trans e9
    apply sq_det 12 hE k rfl (by rfl) (by rfl) rfl
    case h =>
      exact x_pick_t rfl e9 e11
    intro a8 hE e12 kp
    apply sq_det 13 hE k rfl (by rfl) (by rfl) rfl
    case h =>
      exact x_move rfl e12
    intro a9 hE e13 kp
    apply sq_detg 14 hE k rfl (by rfl) (by rfl) rfl rfl e13
    case h =>
      exact x_move rfl (hE.eval 1 (by rfl) e1)
    intro a10 hE e14 kp
    replace e13 := (kp 13 rfl).trans e13
    apply sq_detg 15 hE k rfl (by rfl) (by rfl) rfl rfl e13
    case h =>
      exact x_move rfl (hE.eval 0 (by rfl) e0)
    intro a11 hE e15 kp
    replace e13 := (kp 13 rfl).trans e13
    replace e14 := (kp 14 rfl).trans e14
    apply sq_detg 16 hE k rfl (by rfl) (by rfl) rfl rfl e13
    case h =>
      exact x_nil rfl e15
    intro a12 hE e16 kp
    replace e13 := (kp 13 rfl).trans e13
    replace e14 := (kp 14 rfl).trans e14
    apply sq_detg 17 hE k rfl (by rfl) (by rfl) rfl rfl e13
    case h =>
      simp [go_sem, ↓IntWalk.iteOmega, ev e16]
      with_reducible rfl
    intro a13 hE e17 kp
    replace e13 := (kp 13 rfl).trans e13
    replace e14 := (kp 14 rfl).trans e14
    apply sq_detg 18 hE k rfl (by rfl) (by rfl) rfl rfl e13
    case h =>
      simp [go_sem, ↓IntWalk.iteOmega, ev e17, c1]
      with_reducible rfl
    intro a14 hE e18 kp
    replace e13 := (kp 13 rfl).trans e13
    replace e14 := (kp 14 rfl).trans e14
    apply sq_detg 19 hE k rfl (by rfl) (by rfl) rfl rfl e13
    case h =>
      exact x_len Try.underlying77 rfl e18
    intro a15 hE e19 kp
    replace e13 := (kp 13 rfl).trans e13
    replace e14 := (kp 14 rfl).trans e14
    apply sq_detg 20 hE k rfl (by rfl) (by rfl) rfl rfl e13
    case h =>
      exact x_dec (x_leq rfl e14 e19) (decide_eq_true (by omega))
    intro a16 hE e20 kp
    replace e13 := (kp 13 rfl).trans e13
    apply sq_det 21 hE k rfl (by rfl) (by rfl) rfl
    case h =>
      exact x_pick_t rfl e13 e20
    intro a17 hE e21 kp
    apply sq_det 22 hE k rfl (by rfl) (by rfl) rfl
    case h =>
      exact x_move rfl e21
    intro a18 hE e22 kp
    apply sq_detg 23 hE k rfl (by rfl) (by rfl) rfl rfl e22
    case h =>
      exact x_move rfl (hE.eval 2 (by rfl) e2)
    intro a19 hE e23 kp
    replace e22 := (kp 22 rfl).trans e22
    apply sq_detg 24 hE k rfl (by rfl) (by rfl) rfl rfl e22
    case h =>
      exact x_move rfl (hE.eval 0 (by rfl) e0)
    intro a20 hE e24 kp
    replace e22 := (kp 22 rfl).trans e22
    replace e23 := (kp 23 rfl).trans e23
    apply sq_detg 25 hE k rfl (by rfl) (by rfl) rfl rfl e22
    case h =>
      exact x_nil rfl e24
    intro a21 hE e25 kp
    replace e22 := (kp 22 rfl).trans e22
    replace e23 := (kp 23 rfl).trans e23
    apply sq_detg 26 hE k rfl (by rfl) (by rfl) rfl rfl e22
    case h =>
      simp [go_sem, ↓IntWalk.iteOmega, ev e25]
      with_reducible rfl
    intro a22 hE e26 kp
    replace e22 := (kp 22 rfl).trans e22
    replace e23 := (kp 23 rfl).trans e23
    apply sq_detg 27 hE k rfl (by rfl) (by rfl) rfl rfl e22
    case h =>
      simp [go_sem, ↓IntWalk.iteOmega, ev e26, c1]
      with_reducible rfl
    intro a23 hE e27 kp
    replace e22 := (kp 22 rfl).trans e22
    replace e23 := (kp 23 rfl).trans e23
    apply sq_detg 28 hE k rfl (by rfl) (by rfl) rfl rfl e22
    case h =>
      exact x_len Try.underlying77 rfl e27
    intro a24 hE e28 kp
    replace e22 := (kp 22 rfl).trans e22
    replace e23 := (kp 23 rfl).trans e23
    apply sq_detg 29 hE k rfl (by rfl) (by rfl) rfl rfl e22
    case h =>
      exact x_move rfl (hE.eval 1 (by rfl) e1)
    intro a25 hE e29 kp
    replace e22 := (kp 22 rfl).trans e22
    replace e23 := (kp 23 rfl).trans e23
    replace e28 := (kp 28 rfl).trans e28
    apply sq_detg 30 hE k rfl (by rfl) (by rfl) rfl rfl e22
    case h =>
      exact x_sub rfl e28 e29 (by omega)
    intro a26 hE e30 kp
    replace e22 := (kp 22 rfl).trans e22
    replace e23 := (kp 23 rfl).trans e23
    apply sq_detg 31 hE k rfl (by rfl) (by rfl) rfl rfl e22
    case h =>
      exact x_dec (x_leq rfl e23 e30) (decide_eq_false (by omega))
    intro a27 hE e31 kp
    replace e22 := (kp 22 rfl).trans e22
    apply sq_det 32 hE k rfl (by rfl) (by rfl) rfl
    case h =>
      exact x_pick_t rfl e22 e31
    intro a28 hE e32 kp
    apply sq_det 6 hE k rfl (by rfl) (by rfl) rfl
    case h =>
      exact x_assign rfl e32
    intro a29 hE e6 kp
    refine wpList_nil ?_
    replace k := k.env hE
    clear hE e0 e1 e2
    refine then_n ?_
    refine wp_ret ?_
    refine ret_F1 rfl k e6 ?_
    exact ⟨congrArg (fun b => Ending.returned (.bool b)) (show false = fitsB n x y from (decide_eq_false (by omega)).symm), rfl⟩
  refine calls_F Try.func80 rfl 33 rfl (by rfl) ?_
  intro a1 k hargs
  have e0 : a1.eval (.tmp 0) = .pointer (some ⟨p, 0, none⟩) := hargs 0 _ rfl
  have e1 : a1.eval (.tmp 1) = .int .i64 x := hargs 1 _ rfl
  have e2 : a1.eval (.tmp 2) = .int .i64 y := hargs 2 _ rfl
  clear hargs
  refine wp_seq ?_
  refine wp_region_lit ?_
  have hE := Env.refl a1 [6]
  apply sq_det 6 hE k rfl (by rfl) (by rfl) rfl
  case h =>
    exact x_assign rfl rfl
  intro a2 hE e6 kp
  refine wpList_nil ?_
  replace e0 := hE.eval 0 (by rfl) e0
  replace e1 := hE.eval 1 (by rfl) e1
  replace e2 := hE.eval 2 (by rfl) e2
  replace k := k.env hE
  clear hE e6
  refine then_n ?_
  refine wp_seq ?_
  refine wp_region_lit ?_
  have hE := Env.refl a2 [7, 8, 9, 10, 11, 12, 13, 14, 15, 16, 17, 18, 19, 20, 21, 22, 23, 24, 25, 26, 27, 28, 29, 30, 31, 32, 6]
  apply sq_det 7 hE k rfl (by rfl) (by rfl) rfl
  case h =>
    exact x_move rfl (hE.eval 1 (by rfl) e1)
  intro a3 hE e7 kp
  apply sq_det 8 hE k rfl (by rfl) (by rfl) rfl
  case h =>
    exact x_dec (x_geq rfl e7 rfl) (decide_eq_true (by omega))
  intro a4 hE e8 kp
  apply sq_det 9 hE k rfl (by rfl) (by rfl) rfl
  case h =>
    exact x_move rfl e8
  intro a5 hE e9 kp
  apply sq_detg 10 hE k rfl (by rfl) (by rfl) rfl rfl e9
  case h =>
    exact x_move rfl (hE.eval 2 (by rfl) e2)
  intro a6 hE e10 kp
  replace e9 := (kp 9 rfl).trans e9
  apply sq_detg 11 hE k rfl (by rfl) (by rfl) rfl rfl e9
  case h =>
    exact x_dec (x_geq rfl e10 rfl) (decide_eq_true (by omega))
  intro a7 hE e11 kp
  replace e9 := (kp 9 rfl).trans e9
  apply sq_det 12 hE k rfl (by rfl) (by rfl) rfl
  case h =>
    exact x_pick_t rfl e9 e11
  intro a8 hE e12 kp
  apply sq_det 13 hE k rfl (by rfl) (by rfl) rfl
  case h =>
    exact x_move rfl e12
  intro a9 hE e13 kp
  apply sq_detg 14 hE k rfl (by rfl) (by rfl) rfl rfl e13
  case h =>
    exact x_move rfl (hE.eval 1 (by rfl) e1)
  intro a10 hE e14 kp
  replace e13 := (kp 13 rfl).trans e13
  apply sq_detg 15 hE k rfl (by rfl) (by rfl) rfl rfl e13
  case h =>
    exact x_move rfl (hE.eval 0 (by rfl) e0)
  intro a11 hE e15 kp
  replace e13 := (kp 13 rfl).trans e13
  replace e14 := (kp 14 rfl).trans e14
  apply sq_detg 16 hE k rfl (by rfl) (by rfl) rfl rfl e13
  case h =>
    exact x_nil rfl e15
  intro a12 hE e16 kp
  replace e13 := (kp 13 rfl).trans e13
  replace e14 := (kp 14 rfl).trans e14
  apply sq_detg 17 hE k rfl (by rfl) (by rfl) rfl rfl e13
  case h =>
    simp [go_sem, ↓IntWalk.iteOmega, ev e16]
    with_reducible rfl
  intro a13 hE e17 kp
  replace e13 := (kp 13 rfl).trans e13
  replace e14 := (kp 14 rfl).trans e14
  apply sq_detg 18 hE k rfl (by rfl) (by rfl) rfl rfl e13
  case h =>
    simp [go_sem, ↓IntWalk.iteOmega, ev e17, c1]
    with_reducible rfl
  intro a14 hE e18 kp
  replace e13 := (kp 13 rfl).trans e13
  replace e14 := (kp 14 rfl).trans e14
  apply sq_detg 19 hE k rfl (by rfl) (by rfl) rfl rfl e13
  case h =>
    exact x_len Try.underlying77 rfl e18
  intro a15 hE e19 kp
  replace e13 := (kp 13 rfl).trans e13
  replace e14 := (kp 14 rfl).trans e14
  apply sq_detg 20 hE k rfl (by rfl) (by rfl) rfl rfl e13
  case h =>
    exact x_dec (x_leq rfl e14 e19) (decide_eq_true (by omega))
  intro a16 hE e20 kp
  replace e13 := (kp 13 rfl).trans e13
  apply sq_det 21 hE k rfl (by rfl) (by rfl) rfl
  case h =>
    exact x_pick_t rfl e13 e20
  intro a17 hE e21 kp
  apply sq_det 22 hE k rfl (by rfl) (by rfl) rfl
  case h =>
    exact x_move rfl e21
  intro a18 hE e22 kp
  apply sq_detg 23 hE k rfl (by rfl) (by rfl) rfl rfl e22
  case h =>
    exact x_move rfl (hE.eval 2 (by rfl) e2)
  intro a19 hE e23 kp
  replace e22 := (kp 22 rfl).trans e22
  apply sq_detg 24 hE k rfl (by rfl) (by rfl) rfl rfl e22
  case h =>
    exact x_move rfl (hE.eval 0 (by rfl) e0)
  intro a20 hE e24 kp
  replace e22 := (kp 22 rfl).trans e22
  replace e23 := (kp 23 rfl).trans e23
  apply sq_detg 25 hE k rfl (by rfl) (by rfl) rfl rfl e22
  case h =>
    exact x_nil rfl e24
  intro a21 hE e25 kp
  replace e22 := (kp 22 rfl).trans e22
  replace e23 := (kp 23 rfl).trans e23
  apply sq_detg 26 hE k rfl (by rfl) (by rfl) rfl rfl e22
  case h =>
    simp [go_sem, ↓IntWalk.iteOmega, ev e25]
    with_reducible rfl
  intro a22 hE e26 kp
  replace e22 := (kp 22 rfl).trans e22
  replace e23 := (kp 23 rfl).trans e23
  apply sq_detg 27 hE k rfl (by rfl) (by rfl) rfl rfl e22
  case h =>
    simp [go_sem, ↓IntWalk.iteOmega, ev e26, c1]
    with_reducible rfl
  intro a23 hE e27 kp
  replace e22 := (kp 22 rfl).trans e22
  replace e23 := (kp 23 rfl).trans e23
  apply sq_detg 28 hE k rfl (by rfl) (by rfl) rfl rfl e22
  case h =>
    exact x_len Try.underlying77 rfl e27
  intro a24 hE e28 kp
  replace e22 := (kp 22 rfl).trans e22
  replace e23 := (kp 23 rfl).trans e23
  apply sq_detg 29 hE k rfl (by rfl) (by rfl) rfl rfl e22
  case h =>
    exact x_move rfl (hE.eval 1 (by rfl) e1)
  intro a25 hE e29 kp
  replace e22 := (kp 22 rfl).trans e22
  replace e23 := (kp 23 rfl).trans e23
  replace e28 := (kp 28 rfl).trans e28
  apply sq_detg 30 hE k rfl (by rfl) (by rfl) rfl rfl e22
  case h =>
    exact x_sub rfl e28 e29 (by omega)
  intro a26 hE e30 kp
  replace e22 := (kp 22 rfl).trans e22
  replace e23 := (kp 23 rfl).trans e23
  apply sq_detg 31 hE k rfl (by rfl) (by rfl) rfl rfl e22
  case h =>
    exact x_dec (x_leq rfl e23 e30) (decide_eq_true (by omega))
  intro a27 hE e31 kp
  replace e22 := (kp 22 rfl).trans e22
  apply sq_det 32 hE k rfl (by rfl) (by rfl) rfl
  case h =>
    exact x_pick_t rfl e22 e31
  intro a28 hE e32 kp
  apply sq_det 6 hE k rfl (by rfl) (by rfl) rfl
  case h =>
    exact x_assign rfl e32
  intro a29 hE e6 kp
  refine wpList_nil ?_
  replace k := k.env hE
  clear hE e0 e1 e2
  refine then_n ?_
  refine wp_ret ?_
  refine ret_F1 rfl k e6 ?_
  exact ⟨congrArg (fun b => Ending.returned (.bool b)) (show true = fitsB n x y from (decide_eq_true (by omega)).symm), rfl⟩
set_option maxRecDepth 100000 in
set_option maxHeartbeats 4000000 in
theorem dwrite_arg {H : Nat} {A0 : World} {R : List Thing} {p mb n cap bm : Nat} {B : Option Addr} {S : List Sec} {L : Int → Option Sec} {M : Mn} (x : Int) (l : List UInt8) (w : World) (O : OwnT H A0 (tDisc p mb B n cap bm S L :: tMn mb M :: R) w) (hl : l.length ≤ 1000000000000) (hm : ¬ l.length % 16 = 0) : Calls Try.prog 36 #[.pointer (some ⟨p, 0, none⟩), .int .i64 x, .string (sB l)] w fun e w' => e = .returned (.int .i64 1) ∧ OwnT H A0 (tDisc p mb B n cap bm S L :: tMn mb M :: R) w' := by
  have hk := O.dok
  have hnl := hk.le
  refine calls_F Try.func36 rfl 45 rfl (by rfl) ?_
  intro a1 k hargs
  have e0 : a1.eval (.tmp 0) = .pointer (some ⟨p, 0, none⟩) := hargs 0 _ rfl
  have e1 : a1.eval (.tmp 1) = .int .i64 x := hargs 1 _ rfl
  have e2 : a1.eval (.tmp 2) = .string (sB l) := hargs 2 _ rfl
  clear hargs
  refine wp_seq ?_
  refine wp_region_lit ?_
  have hE := Env.refl a1 [6]
  apply sq_det 6 hE k rfl (by rfl) (by rfl) rfl
  case h =>
    exact x_assign rfl rfl
  intro a2 hE e6 kp
  refine wpList_nil ?_
  replace e0 := hE.eval 0 (by rfl) e0
  replace e1 := hE.eval 1 (by rfl) e1
  replace e2 := hE.eval 2 (by rfl) e2
  replace k := k.env hE
  clear hE e6
  refine then_n ?_
  refine wp_seq ?_
  refine wp_block ?_
  refine wp_seq ?_
  refine wp_region_lit ?_
  have hE := Env.refl a2 [9, 10, 8]
  apply sq_det 9 hE k rfl (by rfl) (by rfl) rfl
  case h =>
    exact x_move rfl (hE.eval 0 (by rfl) e0)
  intro a3 hE e9 kp
  apply sq_det 10 hE k rfl (by rfl) (by rfl) rfl
  case h =>
    simp [go_sem, ↓IntWalk.iteOmega, ev e9]
    with_reducible rfl
  intro a4 hE e10 kp
  apply sq_det 8 hE k rfl (by rfl) (by rfl) rfl
  case h =>
    exact x_assign rfl e10
  intro a5 hE e8 kp
  refine wpList_nil ?_
  replace e0 := hE.eval 0 (by rfl) e0
  replace e1 := hE.eval 1 (by rfl) e1
  replace e2 := hE.eval 2 (by rfl) e2
  replace k := k.env hE
  clear hE
  refine then_n ?_
  refine cond_f e8 rfl ?_
  refine wp_seq ?_
  refine wp_region_lit ?_
  have hE := Env.refl a5 [12, 13, 14, 15, 11]
  apply sq_det 12 hE k rfl (by rfl) (by rfl) rfl
  case h =>
    exact x_move rfl (hE.eval 2 (by rfl) e2)
  intro a6 hE e12 kp
  apply sq_det 13 hE k rfl (by rfl) (by rfl) rfl
  case h =>
    exact x_len_l Try.underlying9 rfl e12
  intro a7 hE e13 kp
  apply sq_det 14 hE k rfl (by rfl) (by rfl) rfl
  case h =>
    exact x_remN (m := l.length) (j := 16) rfl e13 rfl rfl (by decide)
  intro a8 hE e14 kp
  apply sq_det 15 hE k rfl (by rfl) (by rfl) rfl
  case h =>
    exact x_dec (x_neq rfl e14 rfl) (decide_eq_true (by omega))
  intro a9 hE e15 kp
  apply sq_det 11 hE k rfl (by rfl) (by rfl) rfl
  case h =>
    exact x_assign rfl e15
  intro a10 hE e11 kp
  refine wpList_nil ?_
  replace e0 := hE.eval 0 (by rfl) e0
  replace e1 := hE.eval 1 (by rfl) e1
  replace e2 := hE.eval 2 (by rfl) e2
  replace k := k.env hE
  clear hE e8
  refine then_n ?_
  refine cond_t e11 rfl ?_
  refine wp_seq ?_
  refine wp_region_lit ?_
  have hE := Env.refl a10 [6]
  apply sq_det 6 hE k rfl (by rfl) (by rfl) rfl
  case h =>
    exact x_assign rfl rfl
  intro a11 hE e6 kp
  refine wpList_nil ?_
  replace k := k.env hE
  clear hE e0 e1 e2 e11
  refine then_n ?_
  refine wp_ret ?_
  refine block_r ?_
  refine then_r ?_
  refine ret_F1 rfl k e6 ?_
  exact ⟨rfl, O⟩
set_option maxRecDepth 100000 in
set_option maxHeartbeats 4000000 in
theorem dwrite_range {H : Nat} {A0 : World} {R : List Thing} {p mb n cap bm : Nat} {B : Option Addr} {S : List Sec} {L : Int → Option Sec} {M : Mn} (x : Int) (l : List UInt8) (w : World) (O : OwnT H A0 (tDisc p mb B n cap bm S L :: tMn mb M :: R) w) (hl : l.length ≤ 1000000000000) (hm : l.length % 16 = 0) (hf : fitsB n x ((l.length / 16 : Nat) : Int) = false) : Calls Try.prog 36 #[.pointer (some ⟨p, 0, none⟩), .int .i64 x, .string (sB l)] w fun e w' => e = .returned (.int .i64 9) ∧ OwnT H A0 (tDisc p mb B n cap bm S L :: tMn mb M :: R) w' := by
  have hk := O.dok
  have hnl := hk.le
  refine calls_F Try.func36 rfl 45 rfl (by rfl) ?_
  intro a1 k hargs
  have e0 : a1.eval (.tmp 0) = .pointer (some ⟨p, 0, none⟩) := hargs 0 _ rfl
  have e1 : a1.eval (.tmp 1) = .int .i64 x := hargs 1 _ rfl
  have e2 : a1.eval (.tmp 2) = .string (sB l) := hargs 2 _ rfl
  clear hargs
  refine wp_seq ?_
  refine wp_region_lit ?_
  have hE := Env.refl a1 [6]
  apply sq_det 6 hE k rfl (by rfl) (by rfl) rfl
  case h =>
    exact x_assign rfl rfl
  intro a2 hE e6 kp
  refine wpList_nil ?_
  replace e0 := hE.eval 0 (by rfl) e0
  replace e1 := hE.eval 1 (by rfl) e1
  replace e2 := hE.eval 2 (by rfl) e2
  replace k := k.env hE
  clear hE e6
  refine then_n ?_
  refine wp_seq ?_
  refine wp_block ?_
  refine wp_seq ?_
  refine wp_region_lit ?_
  have hE := Env.refl a2 [9, 10, 8]
  apply sq_det 9 hE k rfl (by rfl) (by rfl) rfl
  case h =>
    exact x_move rfl (hE.eval 0 (by rfl) e0)
  intro a3 hE e9 kp
  apply sq_det 10 hE k rfl (by rfl) (by rfl) rfl
  case h =>
    simp [go_sem, ↓IntWalk.iteOmega, ev e9]
    with_reducible rfl
  intro a4 hE e10 kp
  apply sq_det 8 hE k rfl (by rfl) (by rfl) rfl
  case h =>
    exact x_assign rfl e10
  intro a5 hE e8 kp
  refine wpList_nil ?_
  replace e0 := hE.eval 0 (by rfl) e0
  replace e1 := hE.eval 1 (by rfl) e1
  replace e2 := hE.eval 2 (by rfl) e2
  replace k := k.env hE
  clear hE
  refine then_n ?_
  refine cond_f e8 rfl ?_
  refine wp_seq ?_
  refine wp_region_lit ?_
  have hE := Env.refl a5 [12, 13, 14, 15, 11]
  apply sq_det 12 hE k rfl (by rfl) (by rfl) rfl
  case h =>
    exact x_move rfl (hE.eval 2 (by rfl) e2)
  intro a6 hE e12 kp
  apply sq_det 13 hE k rfl (by rfl) (by rfl) rfl
  case h =>
    exact x_len_l Try.underlying9 rfl e12
  intro a7 hE e13 kp
  apply sq_det 14 hE k rfl (by rfl) (by rfl) rfl
  case h =>
    exact x_remN (m := l.length) (j := 16) rfl e13 rfl rfl (by decide)
  intro a8 hE e14 kp
  apply sq_det 15 hE k rfl (by rfl) (by rfl) rfl
  case h =>
    exact x_dec (x_neq rfl e14 rfl) (decide_eq_false (by omega))
  intro a9 hE e15 kp
  apply sq_det 11 hE k rfl (by rfl) (by rfl) rfl
  case h =>
    exact x_assign rfl e15
  intro a10 hE e11 kp
  refine wpList_nil ?_
  replace e0 := hE.eval 0 (by rfl) e0
  replace e1 := hE.eval 1 (by rfl) e1
  replace e2 := hE.eval 2 (by rfl) e2
  replace k := k.env hE
  clear hE e8
  refine then_n ?_
  refine cond_f e11 rfl ?_
  refine wp_seq ?_
  refine wp_region_lit ?_
  have hE := Env.refl a10 [17, 18, 19, 20, 21, 22, 23, 16]
  apply sq_det 17 hE k rfl (by rfl) (by rfl) rfl
  case h =>
    exact x_move rfl (hE.eval 0 (by rfl) e0)
  intro a11 hE e17 kp
  apply sq_det 18 hE k rfl (by rfl) (by rfl) rfl
  case h =>
    exact x_move rfl (hE.eval 1 (by rfl) e1)
  intro a12 hE e18 kp
  replace e17 := (kp 17 rfl).trans e17
  apply sq_det 19 hE k rfl (by rfl) (by rfl) rfl
  case h =>
    exact x_move rfl (hE.eval 2 (by rfl) e2)
  intro a13 hE e19 kp
  replace e17 := (kp 17 rfl).trans e17
  replace e18 := (kp 18 rfl).trans e18
  apply sq_det 20 hE k rfl (by rfl) (by rfl) rfl
  case h =>
    exact x_len_l Try.underlying9 rfl e19
  intro a14 hE e20 kp
  replace e17 := (kp 17 rfl).trans e17
  replace e18 := (kp 18 rfl).trans e18
  apply sq_det 21 hE k rfl (by rfl) (by rfl) rfl
  case h =>
    exact x_quoN (m := l.length) (j := 16) rfl e20 rfl rfl (by decide) (by omega)
  intro a15 hE e21 kp
  replace e17 := (kp 17 rfl).trans e17
  replace e18 := (kp 18 rfl).trans e18
  apply sq_call 22 hE k rfl (by rfl) (by rfl) rfl
  case h =>
    simp [go_sem, ↓IntWalk.iteOmega, ev e17, ev e18, ev e21]
    with_reducible exact ⟨rfl, rfl⟩
  case hc => exact dhas_any _ _ _ (OwnT.disc O)
  rintro e _ ⟨rfl, rfl⟩
  refine ⟨_, congrArg (fun b => Ending.returned (.bool b)) hf, ?_⟩
  intro a16 hE e22 kp
  apply sq_det 23 hE k rfl (by rfl) (by rfl) rfl
  case h =>
    exact x_not rfl e22
  intro a17 hE e23 kp
  apply sq_det 16 hE k rfl (by rfl) (by rfl) rfl
  case h =>
    exact x_assign rfl e23
  intro a18 hE e16 kp
  refine wpList_nil ?_
  replace e0 := hE.eval 0 (by rfl) e0
  replace e1 := hE.eval 1 (by rfl) e1
  replace e2 := hE.eval 2 (by rfl) e2
  replace k := k.env hE
  clear hE e11
  refine then_n ?_
  refine cond_t e16 rfl ?_
  refine wp_seq ?_
  refine wp_region_lit ?_
  have hE := Env.refl a18 [6]
  apply sq_det 6 hE k rfl (by rfl) (by rfl) rfl
  case h =>
    exact x_assign rfl rfl
  intro a19 hE e6 kp
  refine wpList_nil ?_
  replace k := k.env hE
  clear hE e0 e1 e2 e16
  refine then_n ?_
  refine wp_ret ?_
  refine block_r ?_
  refine then_r ?_
  refine ret_F1 rfl k e6 ?_
  exact ⟨rfl, O⟩
set_option maxRecDepth 100000 in
set_option maxHeartbeats 4000000 in
theorem dwrite_go {H : Nat} {A0 : World} {R : List Thing} {p mb n cap bm : Nat} {B : Option Addr} {S : List Sec} {L : Int → Option Sec} {M : Mn} {c : Int} (x : Int) (l : List UInt8) (w : World) (O : OwnT H A0 (tDisc p mb B n cap bm S L :: tMn mb M :: R) w) (hl : l.length ≤ 1000000000000) (hm : l.length % 16 = 0) (hf : fitsB n x ((l.length / 16 : Nat) : Int) = true) (hM : M.Ok c) (hc : c ≤ 1000000000000) : Calls Try.prog 36 #[.pointer (some ⟨p, 0, none⟩), .int .i64 x, .string (sB l)] w fun e w' => ∃ j, j ≤ l.length / 16 ∧ (∀ i, i < j → (M.useN i).up = true) ∧ ((j = l.length / 16 ∧ e = .returned (.int .i64 0) ∧ OwnT H A0 (tDisc p mb B n cap bm S (wrS l x L j) :: tMn mb (M.useN j) :: R) w') ∨ (j < l.length / 16 ∧ (M.useN j).up = false ∧ e = .returned (.int .i64 4) ∧ OwnT H A0 (tDisc p mb B n cap bm S (wrS l x L j) :: tMn mb (M.useN (j + 1)) :: R) w')) := by
  have hk := O.dok
  have hnl := hk.le
  refine calls_F Try.func36 rfl 45 rfl (by rfl) ?_
  intro a1 k hargs
  have e0 : a1.eval (.tmp 0) = .pointer (some ⟨p, 0, none⟩) := hargs 0 _ rfl
  have e1 : a1.eval (.tmp 1) = .int .i64 x := hargs 1 _ rfl
  have e2 : a1.eval (.tmp 2) = .string (sB l) := hargs 2 _ rfl
  clear hargs
  have hf' := of_decide_eq_true hf
  refine wp_seq ?_
  refine wp_region_lit ?_
  have hE := Env.refl a1 [6]
  apply sq_det 6 hE k rfl (by rfl) (by rfl) rfl
  case h =>
    exact x_assign rfl rfl
  intro a2 hE e6 kp
  refine wpList_nil ?_
  replace e0 := hE.eval 0 (by rfl) e0
  replace e1 := hE.eval 1 (by rfl) e1
  replace e2 := hE.eval 2 (by rfl) e2
  replace k := k.env hE
  clear hE e6
  refine then_n ?_
  refine wp_seq ?_
  refine wp_block ?_
  refine wp_seq ?_
  refine wp_region_lit ?_
  have hE := Env.refl a2 [9, 10, 8]
  apply sq_det 9 hE k rfl (by rfl) (by rfl) rfl
  case h =>
    exact x_move rfl (hE.eval 0 (by rfl) e0)
  intro a3 hE e9 kp
  apply sq_det 10 hE k rfl (by rfl) (by rfl) rfl
  case h =>
    simp [go_sem, ↓IntWalk.iteOmega, ev e9]
    with_reducible rfl
  intro a4 hE e10 kp
  apply sq_det 8 hE k rfl (by rfl) (by rfl) rfl
  case h =>
    exact x_assign rfl e10
  intro a5 hE e8 kp
  refine wpList_nil ?_
  replace e0 := hE.eval 0 (by rfl) e0
  replace e1 := hE.eval 1 (by rfl) e1
  replace e2 := hE.eval 2 (by rfl) e2
  replace k := k.env hE
  clear hE
  refine then_n ?_
  refine cond_f e8 rfl ?_
  refine wp_seq ?_
  refine wp_region_lit ?_
  have hE := Env.refl a5 [12, 13, 14, 15, 11]
  apply sq_det 12 hE k rfl (by rfl) (by rfl) rfl
  case h =>
    exact x_move rfl (hE.eval 2 (by rfl) e2)
  intro a6 hE e12 kp
  apply sq_det 13 hE k rfl (by rfl) (by rfl) rfl
  case h =>
    exact x_len_l Try.underlying9 rfl e12
  intro a7 hE e13 kp
  apply sq_det 14 hE k rfl (by rfl) (by rfl) rfl
  case h =>
    exact x_remN (m := l.length) (j := 16) rfl e13 rfl rfl (by decide)
  intro a8 hE e14 kp
  apply sq_det 15 hE k rfl (by rfl) (by rfl) rfl
  case h =>
    exact x_dec (x_neq rfl e14 rfl) (decide_eq_false (by omega))
  intro a9 hE e15 kp
  apply sq_det 11 hE k rfl (by rfl) (by rfl) rfl
  case h =>
    exact x_assign rfl e15
  intro a10 hE e11 kp
  refine wpList_nil ?_
  replace e0 := hE.eval 0 (by rfl) e0
  replace e1 := hE.eval 1 (by rfl) e1
  replace e2 := hE.eval 2 (by rfl) e2
  replace k := k.env hE
  clear hE e8
  refine then_n ?_
  refine cond_f e11 rfl ?_
  refine wp_seq ?_
  refine wp_region_lit ?_
  have hE := Env.refl a10 [17, 18, 19, 20, 21, 22, 23, 16]
  apply sq_det 17 hE k rfl (by rfl) (by rfl) rfl
  case h =>
    exact x_move rfl (hE.eval 0 (by rfl) e0)
  intro a11 hE e17 kp
  apply sq_det 18 hE k rfl (by rfl) (by rfl) rfl
  case h =>
    exact x_move rfl (hE.eval 1 (by rfl) e1)
  intro a12 hE e18 kp
  replace e17 := (kp 17 rfl).trans e17
  apply sq_det 19 hE k rfl (by rfl) (by rfl) rfl
  case h =>
    exact x_move rfl (hE.eval 2 (by rfl) e2)
  intro a13 hE e19 kp
  replace e17 := (kp 17 rfl).trans e17
  replace e18 := (kp 18 rfl).trans e18
  apply sq_det 20 hE k rfl (by rfl) (by rfl) rfl
  case h =>
    exact x_len_l Try.underlying9 rfl e19
  intro a14 hE e20 kp
  replace e17 := (kp 17 rfl).trans e17
  replace e18 := (kp 18 rfl).trans e18
  apply sq_det 21 hE k rfl (by rfl) (by rfl) rfl
  case h =>
    exact x_quoN (m := l.length) (j := 16) rfl e20 rfl rfl (by decide) (by omega)
  intro a15 hE e21 kp
  replace e17 := (kp 17 rfl).trans e17
  replace e18 := (kp 18 rfl).trans e18
  apply sq_call 22 hE k rfl (by rfl) (by rfl) rfl
  case h =>
    simp [go_sem, ↓IntWalk.iteOmega, ev e17, ev e18, ev e21]
    with_reducible exact ⟨rfl, rfl⟩
  case hc => exact dhas_any _ _ _ (OwnT.disc O)
  rintro e _ ⟨rfl, rfl⟩
  refine ⟨_, congrArg (fun b => Ending.returned (.bool b)) hf, ?_⟩
  intro a16 hE e22 kp
  apply sq_det 23 hE k rfl (by rfl) (by rfl) rfl
  case h =>
    exact x_not rfl e22
  intro a17 hE e23 kp
  apply sq_det 16 hE k rfl (by rfl) (by rfl) rfl
  case h =>
    exact x_assign rfl e23
  intro a18 hE e16 kp
  refine wpList_nil ?_
  replace e0 := hE.eval 0 (by rfl) e0
  replace e1 := hE.eval 1 (by rfl) e1
  replace e2 := hE.eval 2 (by rfl) e2
  replace k := k.env hE
  clear hE e11
  refine then_n ?_
  refine cond_f e16 rfl ?_
  refine wp_skip ?_
  refine block_n ?_
  refine then_n ?_
  refine wp_seq ?_
  refine wp_block ?_
  clear hf
  refine wp_loop (fun a w => Fr 45 a ∧ a.eval (.tmp 0) = .pointer (some ⟨p, 0, none⟩) ∧ ∃ j : Nat, a.eval (.tmp 1) = .int .i64 (x + ↑j) ∧ a.eval (.tmp 2) = .string (sB (l.drop (16 * j))) ∧ j ≤ l.length / 16 ∧ (∀ i, i < j → (M.useN i).up = true) ∧ OwnT H A0 ((tDisc p mb B n cap bm S (wrS l x L j)) :: (tMn mb (M.useN j)) :: R) w) (fun a w => (x + ↑(l.length / 16) - intOf (a.eval (.tmp 1))).toNat) ?_ ?_
  · exact ⟨k, e0, 0, e1.trans (int_eq (by omega)), e2, Nat.zero_le _, (fun i hi => absurd hi (Nat.not_lt_zero _)), O⟩
  intro a19 w20 hI
  clear k e0
  obtain ⟨k, e0, h_⟩ := hI
  clear O e1 e2
  obtain ⟨j, e1, e2, hj, hup, O⟩ := h_
  have m1 := e1
  have hd : (l.drop (16 * j)).length = l.length - 16 * j := List.length_drop
  
  by_cases hlt : j < l.length / 16
  · have hne : l.drop (16 * j) ≠ [] := fun e => by rw [e] at hd; simp at hd; omega
    refine wp_seq ?_
    refine wp_seq ?_
    refine wp_region_lit ?_
    have hE := Env.refl a19 [24, 25]
    apply sq_det 24 hE k rfl (by rfl) (by rfl) rfl
    case h =>
      exact x_move rfl (hE.eval 2 (by rfl) e2)
    intro a21 hE e24 kp
    apply sq_det 25 hE k rfl (by rfl) (by rfl) rfl
    case h =>
      exact x_dec (x_nes (l := l.drop (16 * j)) (m := []) rfl e24 rfl) (decide_eq_true hne)
    intro a22 hE e25 kp
    refine wpList_nil ?_
    replace e0 := hE.eval 0 (by rfl) e0
    replace e1 := hE.eval 1 (by rfl) e1
    replace e2 := hE.eval 2 (by rfl) e2
    replace k := k.env hE
    clear hE
    refine then_n ?_
    refine cond_t e25 rfl ?_
    refine wp_skip ?_
    refine then_n ?_
    refine wp_seq ?_
    refine wp_block ?_
    by_cases hu : (M.useN j).up = true
    · skip
      refine wp_seq ?_
      refine wp_seq ?_
      refine wp_region_lit ?_
      have hE := Env.refl a22 [28, 29, 30, 31, 32, 7]
      apply sq_det 28 hE k rfl (by rfl) (by rfl) rfl
      case h =>
        exact x_move rfl (hE.eval 0 (by rfl) e0)
      intro a23 hE e28 kp
      apply sq_det 29 hE k rfl (by rfl) (by rfl) rfl
      case h =>
        exact x_nil rfl e28
      intro a24 hE e29 kp
      apply sq_det 30 hE k rfl (by rfl) (by rfl) rfl
      case h =>
        simp [go_sem, ↓IntWalk.iteOmega, ev e29]
        with_reducible rfl
      intro a25 hE e30 kp
      apply sq_det 31 hE k rfl (by rfl) (by rfl) rfl
      case h =>
        have c0 : w20.cell? ⟨p, 0, none⟩ = some (.pointer (some ⟨mb, 0, none⟩)) := (OwnT.disc O).blk.cell 0
        simp [go_sem, ↓IntWalk.iteOmega, ev e30, c0]
        with_reducible rfl
      intro a26 hE e31 kp
      apply sq_call 32 hE k rfl (by rfl) (by rfl) rfl
      case h =>
        simp [go_sem, ↓IntWalk.iteOmega, ev e31]
        with_reducible exact ⟨rfl, rfl⟩
      case hc => exact use_mn1 O (hM.useN j) (by omega)
      clear O
      rintro e w28 ⟨he, O⟩
      simp only [hu, if_true] at he
      refine ⟨_, he, ?_⟩
      intro a27 hE e32 kp
      apply sq_det 7 hE k rfl (by rfl) (by rfl) rfl
      case h =>
        exact x_assign rfl e32
      intro a29 hE e7 kp
      refine wpList_nil ?_
      replace e0 := hE.eval 0 (by rfl) e0
      replace e1 := hE.eval 1 (by rfl) e1
      replace e2 := hE.eval 2 (by rfl) e2
      replace k := k.env hE
      clear hE e25
      refine then_n ?_
      refine wp_seq ?_
      refine wp_region_lit ?_
      have hE := Env.refl a29 [33, 34]
      apply sq_det 33 hE k rfl (by rfl) (by rfl) rfl
      case h =>
        exact x_move rfl (hE.eval 7 (by rfl) e7)
      intro a30 hE e33 kp
      apply sq_det 34 hE k rfl (by rfl) (by rfl) rfl
      case h =>
        exact x_neq rfl e33 rfl
      intro a31 hE e34 kp
      refine wpList_nil ?_
      replace e0 := hE.eval 0 (by rfl) e0
      replace e1 := hE.eval 1 (by rfl) e1
      replace e2 := hE.eval 2 (by rfl) e2
      replace e7 := hE.eval 7 (by rfl) e7
      replace k := k.env hE
      clear hE
      refine then_n ?_
      refine cond_f e34 rfl ?_
      refine wp_skip ?_
      refine then_n ?_
      have hx : wfV (x + j) := wfV_of (by omega) (by omega)
      refine wp_seq ?_
      refine wp_typed (R := Ext) (w0 := w28) [[], [0], [0, 1], [0, 1, 2], [], [], [5], [0, 1, 2, 3, 4, 5, 6]] [36, 37, 38, 39, 40, 41, 42] Ext.refl (fun _ _ _ => Ext.trans) (Ext.drew _) (by kernel_rfl) ?_
      apply Build.det 36 Ext.refl (by rfl) (by rw [k.size]; rfl) rfl
      case h =>
        intro ax wx hE hR hF
        exact x_move rfl (hE.eval 0 (by rfl) e0)
      apply Build.det 37 Ext.refl (by rfl) (by rw [k.size]; rfl) rfl
      case h =>
        intro ax wx hE hR hF
        have e36 : ax.eval (.tmp 36) = _ := hF 0 (det 36 _) (by decide) (.head _)
        exact x_nil rfl e36
      apply Build.det 38 Ext.refl (by rfl) (by rw [k.size]; rfl) rfl
      case h =>
        intro ax wx hE hR hF
        have e37 : ax.eval (.tmp 37) = _ := hF 1 (det 37 _) (by decide) (.head _)
        simp [go_sem, ↓IntWalk.iteOmega, ev e37]
        with_reducible rfl
      apply Build.det 39 Ext.refl (by rfl) (by rw [k.size]; rfl) rfl
      case h =>
        intro ax wx hE hR hF
        have e38 : ax.eval (.tmp 38) = _ := hF 2 (det 38 _) (by decide) (.head _)
        have c2 : wx.cell? ⟨p, 2, none⟩ = some (.map (some bm)) := ((OwnT.disc O).ext hR).blk.cell 2
        simp [go_sem, ↓IntWalk.iteOmega, ev e38, c2]
        with_reducible rfl
      apply Build.det 40 Ext.refl (by rfl) (by rw [k.size]; rfl) rfl
      case h =>
        intro ax wx hE hR hF
        exact x_move rfl (hE.eval 1 (by rfl) e1)
      apply Build.det 41 Ext.refl (by rfl) (by rw [k.size]; rfl) rfl
      case h =>
        intro ax wx hE hR hF
        exact x_move rfl (hE.eval 2 (by rfl) e2)
      apply Build.det 42 Ext.refl (by rfl) (by rw [k.size]; rfl) rfl
      case h =>
        intro ax wx hE hR hF
        have e41 : ax.eval (.tmp 41) = _ := hF 5 (det 41 _) (by decide) (.head _)
        exact x_cut_hi (l := l.drop (16 * j)) Try.underlying9 rfl e41 rfl 16 rfl (by omega)
      apply Build.stop
      refine ⟨by kernel_rfl, .inr ⟨by kernel_rfl, _, rfl, rfl, ?_⟩⟩
      intro a32 w33 hE R hF
      have e39 : a32.eval (.tmp 39) = _ := hF 3 (det 39 _) (.tail _ (.tail _ (.tail _ (.head _))))
      have e40 : a32.eval (.tmp 40) = _ := hF 4 (det 40 _) (.tail _ (.tail _ (.head _)))
      have e42 : a32.eval (.tmp 42) = _ := hF 6 (det 42 _) (.head _)
      clear hF
      replace O := OwnT.ext O R
      clear R
      refine wp_vm_store (.tmp 39) (.tmp 40) (.tmp 42) 133 9 rfl Try.underlying133 (by decide) e39 (OwnT.disc O).map (c := x + j) e40 hx (u := .string (sB (secOf l j))) e42 ?_
      intro w9 hV hC
      skip
      replace O := OwnT.mapSet2 (OwnT.openD O) hV hC
      rw [← looV_put] at O
      replace O : OwnT H A0 (tDisc p mb B n cap bm S (wrS l x L (j + 1)) :: tMn mb (M.useN (j + 1)) :: R) w9 := OwnT.closeD O (hk.wr (by omega) (by omega) (by omega))
      clear hV hC
      replace e0 := hE.eval 0 (by rfl) e0
      replace e1 := hE.eval 1 (by rfl) e1
      replace e2 := hE.eval 2 (by rfl) e2
      replace k := k.env hE
      clear hE e7 e34 e39 e40 e42
      refine then_n ?_
      refine wp_region_lit ?_
      have hE := Env.refl a32 [43, 44, 1]
      apply sq_det 43 hE k rfl (by rfl) (by rfl) rfl
      case h =>
        exact x_move rfl e1
      intro a34 hE e43 kp
      replace e1 := (kp 1 rfl).trans e1
      apply sq_det 44 hE k rfl (by rfl) (by rfl) rfl
      case h =>
        exact x_add rfl e43 rfl (by omega)
      intro a35 hE e44 kp
      replace e1 := (kp 1 rfl).trans e1
      apply sq_det 1 hE k rfl (by rfl) (by rfl) rfl
      case h =>
        exact x_assign rfl e44
      intro a36 hE e1 kp
      refine wpList_nil ?_
      replace e0 := hE.eval 0 (by rfl) e0
      replace e2 := hE.eval 2 (by rfl) e2
      replace k := k.env hE
      clear hE
      refine block_n ?_
      refine then_n ?_
      refine wp_region_lit ?_
      have hE := Env.refl a36 [26, 27, 2]
      apply sq_det 26 hE k rfl (by rfl) (by rfl) rfl
      case h =>
        exact x_move rfl e2
      intro a37 hE e26 kp
      replace e2 := (kp 2 rfl).trans e2
      apply sq_det 27 hE k rfl (by rfl) (by rfl) rfl
      case h =>
        exact x_cut_lo (l := l.drop (16 * j)) Try.underlying9 rfl e26 rfl 16 rfl (by omega)
      intro a38 hE e27 kp
      replace e2 := (kp 2 rfl).trans e2
      apply sq_det 2 hE k rfl (by rfl) (by rfl) rfl
      case h =>
        exact x_assign rfl e27
      intro a39 hE e2 kp
      refine wpList_nil ?_
      replace e0 := hE.eval 0 (by rfl) e0
      replace e1 := hE.eval 1 (by rfl) e1
      replace k := k.env hE
      clear hE
      refine then_n ?_
      rw [List.drop_drop, show 16 * j + 16 = 16 * (j + 1) by omega] at e2
      rw [show x + (j : Int) + 1 = x + ((j + 1 : Nat) : Int) by omega] at e1
      refine ⟨⟨k, e0, j + 1, e1, e2, by omega, fun i hi => ?_, O⟩, ?_⟩
      · by_cases e : i = j
        · rw [e]; exact hu
        · exact hup i (by omega)
      · rw [e1, m1]; simp only [intOf]; omega
    · replace hu : (M.useN j).up = false := Bool.eq_false_iff.2 hu
      refine wp_seq ?_
      refine wp_seq ?_
      refine wp_region_lit ?_
      have hE := Env.refl a22 [28, 29, 30, 31, 32, 7]
      apply sq_det 28 hE k rfl (by rfl) (by rfl) rfl
      case h =>
        exact x_move rfl (hE.eval 0 (by rfl) e0)
      intro a40 hE e28 kp
      apply sq_det 29 hE k rfl (by rfl) (by rfl) rfl
      case h =>
        exact x_nil rfl e28
      intro a41 hE e29 kp
      apply sq_det 30 hE k rfl (by rfl) (by rfl) rfl
      case h =>
        simp [go_sem, ↓IntWalk.iteOmega, ev e29]
        with_reducible rfl
      intro a42 hE e30 kp
      apply sq_det 31 hE k rfl (by rfl) (by rfl) rfl
      case h =>
        have c0 : w20.cell? ⟨p, 0, none⟩ = some (.pointer (some ⟨mb, 0, none⟩)) := (OwnT.disc O).blk.cell 0
        simp [go_sem, ↓IntWalk.iteOmega, ev e30, c0]
        with_reducible rfl
      intro a43 hE e31 kp
      apply sq_call 32 hE k rfl (by rfl) (by rfl) rfl
      case h =>
        simp [go_sem, ↓IntWalk.iteOmega, ev e31]
        with_reducible exact ⟨rfl, rfl⟩
      case hc => exact use_mn1 O (hM.useN j) (by omega)
      clear O
      rintro e w45 ⟨he, O⟩
      simp only [hu, Bool.false_eq_true, if_false] at he
      refine ⟨_, he, ?_⟩
      intro a44 hE e32 kp
      apply sq_det 7 hE k rfl (by rfl) (by rfl) rfl
      case h =>
        exact x_assign rfl e32
      intro a46 hE e7 kp
      refine wpList_nil ?_
      replace e0 := hE.eval 0 (by rfl) e0
      replace e1 := hE.eval 1 (by rfl) e1
      replace e2 := hE.eval 2 (by rfl) e2
      replace k := k.env hE
      clear hE e25
      refine then_n ?_
      refine wp_seq ?_
      refine wp_region_lit ?_
      have hE := Env.refl a46 [33, 34]
      apply sq_det 33 hE k rfl (by rfl) (by rfl) rfl
      case h =>
        exact x_move rfl (hE.eval 7 (by rfl) e7)
      intro a47 hE e33 kp
      apply sq_det 34 hE k rfl (by rfl) (by rfl) rfl
      case h =>
        exact x_neq rfl e33 rfl
      intro a48 hE e34 kp
      refine wpList_nil ?_
      replace e0 := hE.eval 0 (by rfl) e0
      replace e1 := hE.eval 1 (by rfl) e1
      replace e2 := hE.eval 2 (by rfl) e2
      replace e7 := hE.eval 7 (by rfl) e7
      replace k := k.env hE
      clear hE
      refine then_n ?_
      refine cond_t e34 rfl ?_
      refine wp_seq ?_
      refine wp_region_lit ?_
      have hE := Env.refl a48 [35, 6]
      apply sq_det 35 hE k rfl (by rfl) (by rfl) rfl
      case h =>
        exact x_move rfl (hE.eval 7 (by rfl) e7)
      intro a49 hE e35 kp
      apply sq_det 6 hE k rfl (by rfl) (by rfl) rfl
      case h =>
        exact x_assign rfl e35
      intro a50 hE e6 kp
      refine wpList_nil ?_
      replace k := k.env hE
      clear hE e0 e1 e2 e7 e34
      refine then_n ?_
      refine wp_ret ?_
      refine then_r ?_
      refine block_r ?_
      refine then_r ?_
      refine then_r ?_
      refine block_r ?_
      refine then_r ?_
      refine ret_F1 rfl k e6 ?_
      exact ⟨j, hj, hup, .inr ⟨hlt, hu, rfl, O⟩⟩
  · have hne : l.drop (16 * j) = [] := List.eq_nil_of_length_eq_zero (by omega)
    refine wp_seq ?_
    refine wp_seq ?_
    refine wp_region_lit ?_
    have hE := Env.refl a19 [24, 25]
    apply sq_det 24 hE k rfl (by rfl) (by rfl) rfl
    case h =>
      exact x_move rfl (hE.eval 2 (by rfl) e2)
    intro a51 hE e24 kp
    apply sq_det 25 hE k rfl (by rfl) (by rfl) rfl
    case h =>
      exact x_dec (x_nes (l := l.drop (16 * j)) (m := []) rfl e24 rfl) (decide_eq_false (fun h => h hne))
    intro a52 hE e25 kp
    refine wpList_nil ?_
    replace e0 := hE.eval 0 (by rfl) e0
    replace e1 := hE.eval 1 (by rfl) e1
    replace e2 := hE.eval 2 (by rfl) e2
    replace k := k.env hE
    clear hE
    refine then_n ?_
    refine cond_f e25 rfl ?_
    refine wp_exit ?_
    refine then_x ?_
    refine then_x ?_
    refine block_x ?_
    refine then_n ?_
    refine wp_seq ?_
    refine wp_region_lit ?_
    have hE := Env.refl a52 [6]
    apply sq_det 6 hE k rfl (by rfl) (by rfl) rfl
    case h =>
      exact x_assign rfl rfl
    intro a53 hE e6 kp
    refine wpList_nil ?_
    replace k := k.env hE
    clear hE e0 e1 e2 e25
    refine then_n ?_
    refine wp_ret ?_
    refine ret_F1 rfl k e6 ?_
    exact ⟨j, hj, hup, .inl ⟨by omega, rfl, O⟩⟩
set_option maxRecDepth 100000 in
set_option maxHeartbeats 4000000 in
theorem dread_range {p mb n cap bm : Nat} {B : Option Addr} {S : List Sec} {L : Int → Option Sec} {M : Mn} (x y : Int) (W0 : World) (h : DiscR p mb B n cap bm S L W0) (hm : (tMn mb M).holds W0) (hf : fitsB n x y = false) : Calls Try.prog 35 #[.pointer (some ⟨p, 0, none⟩), .int .i64 x, .int .i64 y] W0 fun e w' => e = .returned (.tuple #[.string (sB []), .int .i64 9]) ∧ Ext W0 w' := by
  have hn := h.ok.le
  have O := OwnT.start W0
  have c0 : W0.cell? ⟨p, 0, none⟩ = some (.pointer (some ⟨mb, 0, none⟩)) := h.blk.cell 0
  refine calls_F Try.func35 rfl 38 rfl (by rfl) ?_
  intro a1 k hargs
  have e0 : a1.eval (.tmp 0) = .pointer (some ⟨p, 0, none⟩) := hargs 0 _ rfl
  have e1 : a1.eval (.tmp 1) = .int .i64 x := hargs 1 _ rfl
  have e2 : a1.eval (.tmp 2) = .int .i64 y := hargs 2 _ rfl
  clear hargs
  refine wp_seq ?_
  refine wp_region_lit ?_
  have hE := Env.refl a1 [6, 7]
  apply sq_det 6 hE k rfl (by rfl) (by rfl) rfl
  case h =>
    exact x_assign rfl rfl
  intro a2 hE e6 kp
  apply sq_det 7 hE k rfl (by rfl) (by rfl) rfl
  case h =>
    exact x_assign rfl rfl
  intro a3 hE e7 kp
  refine wpList_nil ?_
  replace e0 := hE.eval 0 (by rfl) e0
  replace e1 := hE.eval 1 (by rfl) e1
  replace e2 := hE.eval 2 (by rfl) e2
  replace k := k.env hE
  clear hE e7
  refine then_n ?_
  refine wp_seq ?_
  refine wp_block ?_
  refine wp_seq ?_
  refine wp_region_lit ?_
  have hE := Env.refl a3 [11, 12, 10]
  apply sq_det 11 hE k rfl (by rfl) (by rfl) rfl
  case h =>
    exact x_move rfl (hE.eval 0 (by rfl) e0)
  intro a4 hE e11 kp
  apply sq_det 12 hE k rfl (by rfl) (by rfl) rfl
  case h =>
    simp [go_sem, ↓IntWalk.iteOmega, ev e11]
    with_reducible rfl
  intro a5 hE e12 kp
  apply sq_det 10 hE k rfl (by rfl) (by rfl) rfl
  case h =>
    exact x_assign rfl e12
  intro a6 hE e10 kp
  refine wpList_nil ?_
  replace e0 := hE.eval 0 (by rfl) e0
  replace e1 := hE.eval 1 (by rfl) e1
  replace e2 := hE.eval 2 (by rfl) e2
  replace k := k.env hE
  clear hE
  refine then_n ?_
  refine cond_f e10 rfl ?_
  refine wp_seq ?_
  refine wp_region_lit ?_
  have hE := Env.refl a6 [14, 15, 16, 17, 18, 13]
  apply sq_det 14 hE k rfl (by rfl) (by rfl) rfl
  case h =>
    exact x_move rfl (hE.eval 0 (by rfl) e0)
  intro a7 hE e14 kp
  apply sq_det 15 hE k rfl (by rfl) (by rfl) rfl
  case h =>
    exact x_move rfl (hE.eval 1 (by rfl) e1)
  intro a8 hE e15 kp
  replace e14 := (kp 14 rfl).trans e14
  apply sq_det 16 hE k rfl (by rfl) (by rfl) rfl
  case h =>
    exact x_move rfl (hE.eval 2 (by rfl) e2)
  intro a9 hE e16 kp
  replace e14 := (kp 14 rfl).trans e14
  replace e15 := (kp 15 rfl).trans e15
  apply sq_call 17 hE k rfl (by rfl) (by rfl) rfl
  case h =>
    simp [go_sem, ↓IntWalk.iteOmega, ev e14, ev e15, ev e16]
    with_reducible exact ⟨rfl, rfl⟩
  case hc => exact dhas_any _ _ _ h
  rintro e _ ⟨rfl, rfl⟩
  refine ⟨_, congrArg (fun b => Ending.returned (.bool b)) hf, ?_⟩
  intro a10 hE e17 kp
  apply sq_det 18 hE k rfl (by rfl) (by rfl) rfl
  case h =>
    exact x_not rfl e17
  intro a11 hE e18 kp
  apply sq_det 13 hE k rfl (by rfl) (by rfl) rfl
  case h =>
    exact x_assign rfl e18
  intro a12 hE e13 kp
  refine wpList_nil ?_
  replace e0 := hE.eval 0 (by rfl) e0
  replace e1 := hE.eval 1 (by rfl) e1
  replace e2 := hE.eval 2 (by rfl) e2
  replace k := k.env hE
  clear hE e10
  refine then_n ?_
  refine cond_t e13 rfl ?_
  refine wp_seq ?_
  refine wp_region_lit ?_
  have hE := Env.refl a12 [6, 7]
  apply sq_det 6 hE k rfl (by rfl) (by rfl) rfl
  case h =>
    exact x_assign rfl rfl
  intro a13 hE e6 kp
  apply sq_det 7 hE k rfl (by rfl) (by rfl) rfl
  case h =>
    exact x_assign rfl rfl
  intro a14 hE e7 kp
  replace e6 := (kp 6 rfl).trans e6
  refine wpList_nil ?_
  replace k := k.env hE
  clear hE e0 e1 e2 e13
  refine then_n ?_
  refine wp_ret ?_
  refine block_r ?_
  refine then_r ?_
  refine ret_F2 rfl k e6 e7 ?_
  exact ⟨rfl, O.below⟩
set_option maxRecDepth 100000 in
set_option maxHeartbeats 4000000 in
theorem dread_down {p mb n cap bm : Nat} {B : Option Addr} {S : List Sec} {L : Int → Option Sec} {M : Mn} (x y : Int) (W0 : World) (h : DiscR p mb B n cap bm S L W0) (hm : (tMn mb M).holds W0) (hf : fitsB n x y = true) (ha : M.away = true) : Calls Try.prog 35 #[.pointer (some ⟨p, 0, none⟩), .int .i64 x, .int .i64 y] W0 fun e w' => e = .returned (.tuple #[.string (sB []), .int .i64 4]) ∧ Ext W0 w' := by
  have hn := h.ok.le
  have O := OwnT.start W0
  have c0 : W0.cell? ⟨p, 0, none⟩ = some (.pointer (some ⟨mb, 0, none⟩)) := h.blk.cell 0
  refine calls_F Try.func35 rfl 38 rfl (by rfl) ?_
  intro a1 k hargs
  have e0 : a1.eval (.tmp 0) = .pointer (some ⟨p, 0, none⟩) := hargs 0 _ rfl
  have e1 : a1.eval (.tmp 1) = .int .i64 x := hargs 1 _ rfl
  have e2 : a1.eval (.tmp 2) = .int .i64 y := hargs 2 _ rfl
  clear hargs
  refine wp_seq ?_
  refine wp_region_lit ?_
  have hE := Env.refl a1 [6, 7]
  apply sq_det 6 hE k rfl (by rfl) (by rfl) rfl
  case h =>
    exact x_assign rfl rfl
  intro a2 hE e6 kp
  apply sq_det 7 hE k rfl (by rfl) (by rfl) rfl
  case h =>
    exact x_assign rfl rfl
  intro a3 hE e7 kp
  refine wpList_nil ?_
  replace e0 := hE.eval 0 (by rfl) e0
  replace e1 := hE.eval 1 (by rfl) e1
  replace e2 := hE.eval 2 (by rfl) e2
  replace k := k.env hE
  clear hE e7
  refine then_n ?_
  refine wp_seq ?_
  refine wp_block ?_
  refine wp_seq ?_
  refine wp_region_lit ?_
  have hE := Env.refl a3 [11, 12, 10]
  apply sq_det 11 hE k rfl (by rfl) (by rfl) rfl
  case h =>
    exact x_move rfl (hE.eval 0 (by rfl) e0)
  intro a4 hE e11 kp
  apply sq_det 12 hE k rfl (by rfl) (by rfl) rfl
  case h =>
    simp [go_sem, ↓IntWalk.iteOmega, ev e11]
    with_reducible rfl
  intro a5 hE e12 kp
  apply sq_det 10 hE k rfl (by rfl) (by rfl) rfl
  case h =>
    exact x_assign rfl e12
  intro a6 hE e10 kp
  refine wpList_nil ?_
  replace e0 := hE.eval 0 (by rfl) e0
  replace e1 := hE.eval 1 (by rfl) e1
  replace e2 := hE.eval 2 (by rfl) e2
  replace k := k.env hE
  clear hE
  refine then_n ?_
  refine cond_f e10 rfl ?_
  refine wp_seq ?_
  refine wp_region_lit ?_
  have hE := Env.refl a6 [14, 15, 16, 17, 18, 13]
  apply sq_det 14 hE k rfl (by rfl) (by rfl) rfl
  case h =>
    exact x_move rfl (hE.eval 0 (by rfl) e0)
  intro a7 hE e14 kp
  apply sq_det 15 hE k rfl (by rfl) (by rfl) rfl
  case h =>
    exact x_move rfl (hE.eval 1 (by rfl) e1)
  intro a8 hE e15 kp
  replace e14 := (kp 14 rfl).trans e14
  apply sq_det 16 hE k rfl (by rfl) (by rfl) rfl
  case h =>
    exact x_move rfl (hE.eval 2 (by rfl) e2)
  intro a9 hE e16 kp
  replace e14 := (kp 14 rfl).trans e14
  replace e15 := (kp 15 rfl).trans e15
  apply sq_call 17 hE k rfl (by rfl) (by rfl) rfl
  case h =>
    simp [go_sem, ↓IntWalk.iteOmega, ev e14, ev e15, ev e16]
    with_reducible exact ⟨rfl, rfl⟩
  case hc => exact dhas_any _ _ _ h
  rintro e _ ⟨rfl, rfl⟩
  refine ⟨_, congrArg (fun b => Ending.returned (.bool b)) hf, ?_⟩
  intro a10 hE e17 kp
  apply sq_det 18 hE k rfl (by rfl) (by rfl) rfl
  case h =>
    exact x_not rfl e17
  intro a11 hE e18 kp
  apply sq_det 13 hE k rfl (by rfl) (by rfl) rfl
  case h =>
    exact x_assign rfl e18
  intro a12 hE e13 kp
  refine wpList_nil ?_
  replace e0 := hE.eval 0 (by rfl) e0
  replace e1 := hE.eval 1 (by rfl) e1
  replace e2 := hE.eval 2 (by rfl) e2
  replace k := k.env hE
  clear hE e10
  refine then_n ?_
  refine cond_f e13 rfl ?_
  refine wp_seq ?_
  refine wp_region_lit ?_
  have hE := Env.refl a12 [20, 21, 22, 23, 24, 25, 19]
  apply sq_det 20 hE k rfl (by rfl) (by rfl) rfl
  case h =>
    exact x_move rfl (hE.eval 0 (by rfl) e0)
  intro a13 hE e20 kp
  apply sq_det 21 hE k rfl (by rfl) (by rfl) rfl
  case h =>
    exact x_nil rfl e20
  intro a14 hE e21 kp
  apply sq_det 22 hE k rfl (by rfl) (by rfl) rfl
  case h =>
    simp [go_sem, ↓IntWalk.iteOmega, ev e21]
    with_reducible rfl
  intro a15 hE e22 kp
  apply sq_det 23 hE k rfl (by rfl) (by rfl) rfl
  case h =>
    simp [go_sem, ↓IntWalk.iteOmega, ev e22, c0]
    with_reducible rfl
  intro a16 hE e23 kp
  apply sq_call 24 hE k rfl (by rfl) (by rfl) rfl
  case h =>
    simp [go_sem, ↓IntWalk.iteOmega, ev e23]
    with_reducible exact ⟨rfl, rfl⟩
  case hc => exact on_mn hm
  rintro e _ ⟨rfl, rfl⟩
  refine ⟨_, congrArg (fun b => Ending.returned (.bool !b)) ha, ?_⟩
  intro a17 hE e24 kp
  apply sq_det 25 hE k rfl (by rfl) (by rfl) rfl
  case h =>
    exact x_not rfl e24
  intro a18 hE e25 kp
  apply sq_det 19 hE k rfl (by rfl) (by rfl) rfl
  case h =>
    exact x_assign rfl e25
  intro a19 hE e19 kp
  refine wpList_nil ?_
  replace e0 := hE.eval 0 (by rfl) e0
  replace e1 := hE.eval 1 (by rfl) e1
  replace e2 := hE.eval 2 (by rfl) e2
  replace k := k.env hE
  clear hE e13
  refine then_n ?_
  refine cond_t e19 rfl ?_
  refine wp_seq ?_
  refine wp_region_lit ?_
  have hE := Env.refl a19 [6, 7]
  apply sq_det 6 hE k rfl (by rfl) (by rfl) rfl
  case h =>
    exact x_assign rfl rfl
  intro a20 hE e6 kp
  apply sq_det 7 hE k rfl (by rfl) (by rfl) rfl
  case h =>
    exact x_assign rfl rfl
  intro a21 hE e7 kp
  replace e6 := (kp 6 rfl).trans e6
  refine wpList_nil ?_
  replace k := k.env hE
  clear hE e0 e1 e2 e19
  refine then_n ?_
  refine wp_ret ?_
  refine block_r ?_
  refine then_r ?_
  refine ret_F2 rfl k e6 e7 ?_
  exact ⟨rfl, O.below⟩
set_option maxRecDepth 100000 in
set_option maxHeartbeats 4000000 in
theorem dread_ok {p mb n cap bm : Nat} {B : Option Addr} {S : List Sec} {L : Int → Option Sec} {M : Mn} (x y : Nat) (W0 : World) (h : DiscR p mb B n cap bm S L W0) (hm : (tMn mb M).holds W0) (hxy : x + y ≤ n) (ha : M.away = false) : Calls Try.prog 35 #[.pointer (some ⟨p, 0, none⟩), .int .i64 x, .int .i64 y] W0 fun e w' => e = .returned (.tuple #[.string (sB (readL S L x y)), .int .i64 0]) ∧ Ext W0 w' := by
  have hn := h.ok.le
  have O := OwnT.start W0
  have c0 : W0.cell? ⟨p, 0, none⟩ = some (.pointer (some ⟨mb, 0, none⟩)) := h.blk.cell 0
  have hf : fitsB n x y = true := decide_eq_true (by omega)
  refine calls_F Try.func35 rfl 38 rfl (by rfl) ?_
  intro a1 k hargs
  have e0 : a1.eval (.tmp 0) = .pointer (some ⟨p, 0, none⟩) := hargs 0 _ rfl
  have e1 : a1.eval (.tmp 1) = .int .i64 ↑x := hargs 1 _ rfl
  have e2 : a1.eval (.tmp 2) = .int .i64 ↑y := hargs 2 _ rfl
  clear hargs
  refine wp_seq ?_
  refine wp_region_lit ?_
  have hE := Env.refl a1 [6, 7]
  apply sq_det 6 hE k rfl (by rfl) (by rfl) rfl
  case h =>
    exact x_assign rfl rfl
  intro a2 hE e6 kp
  apply sq_det 7 hE k rfl (by rfl) (by rfl) rfl
  case h =>
    exact x_assign rfl rfl
  intro a3 hE e7 kp
  refine wpList_nil ?_
  replace e0 := hE.eval 0 (by rfl) e0
  replace e1 := hE.eval 1 (by rfl) e1
  replace e2 := hE.eval 2 (by rfl) e2
  replace k := k.env hE
  clear hE e7
  refine then_n ?_
  refine wp_seq ?_
  refine wp_block ?_
  refine wp_seq ?_
  refine wp_region_lit ?_
  have hE := Env.refl a3 [11, 12, 10]
  apply sq_det 11 hE k rfl (by rfl) (by rfl) rfl
  case h =>
    exact x_move rfl (hE.eval 0 (by rfl) e0)
  intro a4 hE e11 kp
  apply sq_det 12 hE k rfl (by rfl) (by rfl) rfl
  case h =>
    simp [go_sem, ↓IntWalk.iteOmega, ev e11]
    with_reducible rfl
  intro a5 hE e12 kp
  apply sq_det 10 hE k rfl (by rfl) (by rfl) rfl
  case h =>
    exact x_assign rfl e12
  intro a6 hE e10 kp
  refine wpList_nil ?_
  replace e0 := hE.eval 0 (by rfl) e0
  replace e1 := hE.eval 1 (by rfl) e1
  replace e2 := hE.eval 2 (by rfl) e2
  replace k := k.env hE
  clear hE
  refine then_n ?_
  refine cond_f e10 rfl ?_
  refine wp_seq ?_
  refine wp_region_lit ?_
  have hE := Env.refl a6 [14, 15, 16, 17, 18, 13]
  apply sq_det 14 hE k rfl (by rfl) (by rfl) rfl
  case h =>
    exact x_move rfl (hE.eval 0 (by rfl) e0)
  intro a7 hE e14 kp
  apply sq_det 15 hE k rfl (by rfl) (by rfl) rfl
  case h =>
    exact x_move rfl (hE.eval 1 (by rfl) e1)
  intro a8 hE e15 kp
  replace e14 := (kp 14 rfl).trans e14
  apply sq_det 16 hE k rfl (by rfl) (by rfl) rfl
  case h =>
    exact x_move rfl (hE.eval 2 (by rfl) e2)
  intro a9 hE e16 kp
  replace e14 := (kp 14 rfl).trans e14
  replace e15 := (kp 15 rfl).trans e15
  apply sq_call 17 hE k rfl (by rfl) (by rfl) rfl
  case h =>
    simp [go_sem, ↓IntWalk.iteOmega, ev e14, ev e15, ev e16]
    with_reducible exact ⟨rfl, rfl⟩
  case hc => exact dhas_any _ _ _ h
  rintro e _ ⟨rfl, rfl⟩
  refine ⟨_, congrArg (fun b => Ending.returned (.bool b)) hf, ?_⟩
  intro a10 hE e17 kp
  apply sq_det 18 hE k rfl (by rfl) (by rfl) rfl
  case h =>
    exact x_not rfl e17
  intro a11 hE e18 kp
  apply sq_det 13 hE k rfl (by rfl) (by rfl) rfl
  case h =>
    exact x_assign rfl e18
  intro a12 hE e13 kp
  refine wpList_nil ?_
  replace e0 := hE.eval 0 (by rfl) e0
  replace e1 := hE.eval 1 (by rfl) e1
  replace e2 := hE.eval 2 (by rfl) e2
  replace k := k.env hE
  clear hE e10
  refine then_n ?_
  refine cond_f e13 rfl ?_
  refine wp_seq ?_
  refine wp_region_lit ?_
  have hE := Env.refl a12 [20, 21, 22, 23, 24, 25, 19]
  apply sq_det 20 hE k rfl (by rfl) (by rfl) rfl
  case h =>
    exact x_move rfl (hE.eval 0 (by rfl) e0)
  intro a13 hE e20 kp
  apply sq_det 21 hE k rfl (by rfl) (by rfl) rfl
  case h =>
    exact x_nil rfl e20
  intro a14 hE e21 kp
  apply sq_det 22 hE k rfl (by rfl) (by rfl) rfl
  case h =>
    simp [go_sem, ↓IntWalk.iteOmega, ev e21]
    with_reducible rfl
  intro a15 hE e22 kp
  apply sq_det 23 hE k rfl (by rfl) (by rfl) rfl
  case h =>
    simp [go_sem, ↓IntWalk.iteOmega, ev e22, c0]
    with_reducible rfl
  intro a16 hE e23 kp
  apply sq_call 24 hE k rfl (by rfl) (by rfl) rfl
  case h =>
    simp [go_sem, ↓IntWalk.iteOmega, ev e23]
    with_reducible exact ⟨rfl, rfl⟩
  case hc => exact on_mn hm
  rintro e _ ⟨rfl, rfl⟩
  refine ⟨_, congrArg (fun b => Ending.returned (.bool !b)) ha, ?_⟩
  intro a17 hE e24 kp
  apply sq_det 25 hE k rfl (by rfl) (by rfl) rfl
  case h =>
    exact x_not rfl e24
  intro a18 hE e25 kp
  apply sq_det 19 hE k rfl (by rfl) (by rfl) rfl
  case h =>
    exact x_assign rfl e25
  intro a19 hE e19 kp
  refine wpList_nil ?_
  replace e0 := hE.eval 0 (by rfl) e0
  replace e1 := hE.eval 1 (by rfl) e1
  replace e2 := hE.eval 2 (by rfl) e2
  replace k := k.env hE
  clear hE e13
  refine then_n ?_
  refine cond_f e19 rfl ?_
  refine wp_skip ?_
  refine block_n ?_
  refine then_n ?_
  refine wp_seq ?_
  refine wp_region_lit ?_
  have hE := Env.refl a19 [8]
  refine sq_new O (cs := #[.pointer none, .slice none 0 0]) (t := 139) 8 hE k rfl (by rfl) (by rfl) rfl (by simp [go_sem, ↓IntWalk.iteOmega]) ?_
  clear O
  intro bb a20 w21 O hE e8 kp
  refine wpList_nil ?_
  replace e0 := hE.eval 0 (by rfl) e0
  replace e1 := hE.eval 1 (by rfl) e1
  replace e2 := hE.eval 2 (by rfl) e2
  replace k := k.env hE
  clear hE e19
  refine then_n ?_
  replace O := OwnT.asWr O
  refine wp_seq ?_
  refine wp_seq ?_
  refine wp_region_lit ?_
  have hE := Env.refl a20 [26, 27]
  apply sq_det 26 hE k rfl (by rfl) (by rfl) rfl
  case h =>
    exact x_move rfl (hE.eval 2 (by rfl) e2)
  intro a22 hE e26 kp
  apply sq_det 27 hE k rfl (by rfl) (by rfl) rfl
  case h =>
    exact x_move rfl rfl
  intro a23 hE e27 kp
  replace e26 := (kp 26 rfl).trans e26
  refine wpList_nil ?_
  replace e0 := hE.eval 0 (by rfl) e0
  replace e1 := hE.eval 1 (by rfl) e1
  replace e8 := hE.eval 8 (by rfl) e8
  replace k := k.env hE
  clear hE e2
  refine then_n ?_
  refine wp_block ?_
  refine wp_loop (fun a w => Fr 38 a ∧ a.eval (.tmp 0) = .pointer (some ⟨p, 0, none⟩) ∧ a.eval (.tmp 1) = .int .i64 ↑x ∧ a.eval (.tmp 8) = .pointer (some ⟨bb, 0, none⟩) ∧ a.eval (.tmp 26) = .int .i64 ↑y ∧ ∃ (j : Nat) (g : Option Nat), a.eval (.tmp 27) = .int .i64 ↑j ∧ j ≤ y ∧ OwnT W0.heap.size W0 [tWr bb g (readL S L x j)] w) (fun a w => y - (intOf (a.eval (.tmp 27))).toNat) ?_ ?_
  · exact ⟨k, e0, e1, e8, e26, 0, none, e27, Nat.zero_le _, O⟩
  intro a24 w25 hI
  clear k e0 e1 e8 e26
  obtain ⟨k, e0, e1, e8, e26, h_⟩ := hI
  clear O e27
  obtain ⟨j, g, e27, hj, O⟩ := h_
  have m27 := e27
  
  refine wp_seq ?_
  refine wp_region_lit ?_
  have hE := Env.refl a24 [28]
  apply sq_det 28 hE k rfl (by rfl) (by rfl) rfl
  case h =>
    exact x_lss rfl (hE.eval 27 (by rfl) e27) (hE.eval 26 (by rfl) e26)
  intro a26 hE e28 kp
  refine wpList_nil ?_
  replace e0 := hE.eval 0 (by rfl) e0
  replace e1 := hE.eval 1 (by rfl) e1
  replace e8 := hE.eval 8 (by rfl) e8
  replace e26 := hE.eval 26 (by rfl) e26
  replace e27 := hE.eval 27 (by rfl) e27
  replace k := k.env hE
  clear hE
  refine then_n ?_
  refine wp_seq ?_
  by_cases hlt : j < y
  · have hltI : (j : Int) < (y : Int) := by omega
    refine cond_t e28 (congrArg Value.bool (decide_eq_true (by omega))) ?_
    clear e28
    refine wp_skip ?_
    refine then_n ?_
    refine wp_seq ?_
    refine wp_block ?_
    refine wp_seq ?_
    refine wp_region_lit ?_
    have hE := Env.refl a26 [29, 9]
    apply sq_det 29 hE k rfl (by rfl) (by rfl) rfl
    case h =>
      exact x_move rfl (hE.eval 27 (by rfl) e27)
    intro a27 hE e29 kp
    apply sq_det 9 hE k rfl (by rfl) (by rfl) rfl
    case h =>
      exact x_assign rfl e29
    intro a28 hE e9 kp
    refine wpList_nil ?_
    replace e0 := hE.eval 0 (by rfl) e0
    replace e1 := hE.eval 1 (by rfl) e1
    replace e8 := hE.eval 8 (by rfl) e8
    replace e26 := hE.eval 26 (by rfl) e26
    replace e27 := hE.eval 27 (by rfl) e27
    replace k := k.env hE
    clear hE
    refine then_n ?_
    refine wp_region_lit ?_
    have hE := Env.refl a28 [30, 31, 32, 33, 34, 35]
    apply sq_det 30 hE k rfl (by rfl) (by rfl) rfl
    case h =>
      exact x_move rfl (hE.eval 0 (by rfl) e0)
    intro a29 hE e30 kp
    apply sq_det 31 hE k rfl (by rfl) (by rfl) rfl
    case h =>
      exact x_move rfl (hE.eval 1 (by rfl) e1)
    intro a30 hE e31 kp
    replace e30 := (kp 30 rfl).trans e30
    apply sq_det 32 hE k rfl (by rfl) (by rfl) rfl
    case h =>
      exact x_move rfl (hE.eval 9 (by rfl) e9)
    intro a31 hE e32 kp
    replace e30 := (kp 30 rfl).trans e30
    replace e31 := (kp 31 rfl).trans e31
    apply sq_det 33 hE k rfl (by rfl) (by rfl) rfl
    case h =>
      exact x_add rfl e31 e32 (by omega)
    intro a32 hE e33 kp
    replace e30 := (kp 30 rfl).trans e30
    replace e33 := e33.trans (int_eq (show (x : Int) + (j : Int) = ((x + j : Nat) : Int) by omega))
    apply sq_call 34 hE k rfl (by rfl) (by rfl) rfl
    case h =>
      simp [go_sem, ↓IntWalk.iteOmega, ev e30, ev e33]
      with_reducible exact ⟨rfl, rfl⟩
    case hc => exact dsector_any (x + j) _ (h.ext O.below) (by omega)
    rintro e _ ⟨rfl, rfl⟩
    refine ⟨_, rfl, ?_⟩
    intro a33 hE e34 kp
    apply sq_call 35 hE k rfl (by rfl) (by rfl) rfl
    case h =>
      simp [go_sem, ↓IntWalk.iteOmega, ev (hE.eval 8 (by rfl) e8), ev e34]
      with_reducible exact ⟨rfl, rfl⟩
    case hc => exact wr_string (nowAt S L ↑(x + j)) O (by rw [readL_len h.ok (by omega), nowAt_len h.ok (by omega)]; omega)
    clear O
    rintro e w35 ⟨g', rfl, O⟩
    rw [← readL_succ] at O
    refine ⟨_, rfl, ?_⟩
    intro a34 hE e35 kp
    refine wpList_nil ?_
    replace e0 := hE.eval 0 (by rfl) e0
    replace e1 := hE.eval 1 (by rfl) e1
    replace e8 := hE.eval 8 (by rfl) e8
    replace e26 := hE.eval 26 (by rfl) e26
    replace e27 := hE.eval 27 (by rfl) e27
    replace k := k.env hE
    clear hE e9 e35
    refine block_n ?_
    refine then_n ?_
    refine wp_region_lit ?_
    have hE := Env.refl a34 [36, 27]
    apply sq_det 36 hE k rfl (by rfl) (by rfl) rfl
    case h =>
      exact x_add rfl e27 rfl (by omega)
    intro a36 hE e36 kp
    replace e27 := (kp 27 rfl).trans e27
    apply sq_det 27 hE k rfl (by rfl) (by rfl) rfl
    case h =>
      exact x_move rfl e36
    intro a37 hE e27 kp
    refine wpList_nil ?_
    replace e0 := hE.eval 0 (by rfl) e0
    replace e1 := hE.eval 1 (by rfl) e1
    replace e8 := hE.eval 8 (by rfl) e8
    replace e26 := hE.eval 26 (by rfl) e26
    replace k := k.env hE
    clear hE
    refine then_n ?_
    refine ⟨⟨k, e0, e1, e8, e26, j + 1, g', e27, by omega, O⟩, ?_⟩
    rw [e27, m27]; simp only [intOf]; omega
  · have hltI : ¬ (j : Int) < (y : Int) := by omega
    refine cond_f e28 (congrArg Value.bool (decide_eq_false (by omega))) ?_
    clear e0 e1 e26 e27 e28
    obtain rfl : j = y := by omega
    refine wp_exit ?_
    refine then_x ?_
    refine then_x ?_
    refine block_x ?_
    refine then_n ?_
    refine wp_seq ?_
    refine wp_region_lit ?_
    have hE := Env.refl a26 [37, 6, 7]
    apply sq_call 37 hE k rfl (by rfl) (by rfl) rfl
    case h =>
      simp [go_sem, ↓IntWalk.iteOmega, ev (hE.eval 8 (by rfl) e8)]
      with_reducible exact ⟨rfl, rfl⟩
    case hc => exact wr_end O
    rintro e w39 ⟨rfl, hb⟩
    refine ⟨_, rfl, ?_⟩
    intro a38 hE e37 kp
    apply sq_det 6 hE k rfl (by rfl) (by rfl) rfl
    case h =>
      exact x_assign rfl e37
    intro a40 hE e6 kp
    apply sq_det 7 hE k rfl (by rfl) (by rfl) rfl
    case h =>
      exact x_assign rfl rfl
    intro a41 hE e7 kp
    replace e6 := (kp 6 rfl).trans e6
    refine wpList_nil ?_
    replace k := k.env hE
    clear hE e8
    refine then_n ?_
    refine wp_ret ?_
    refine ret_F2 rfl k e6 e7 ?_
    exact ⟨rfl, hb⟩
set_option maxRecDepth 100000 in
set_option maxHeartbeats 4000000 in
theorem dflush_down {H : Nat} {A0 : World} {R : List Thing} {p mb n cap bm : Nat} {B : Option Addr} {S : List Sec} {L : Int → Option Sec} {M : Mn} {c : Int} (w : World) (O : OwnT H A0 (tDisc p mb B n cap bm S L :: tMn mb M :: R) w) (hM : M.Ok c) (hc : c ≤ 1000000000000) (hu : M.up = false) : Calls Try.prog 37 #[.pointer (some ⟨p, 0, none⟩)] w fun e w' => e = .returned (.int .i64 4) ∧ OwnT H A0 (tDisc p mb B n cap bm S L :: tMn mb M.use :: R) w' := by
  have hk := O.dok
  have hnl := hk.le
  have c0 : w.cell? ⟨p, 0, none⟩ = some (.pointer (some ⟨mb, 0, none⟩)) := (OwnT.disc O).blk.cell 0
  refine calls_F Try.func37 rfl 37 rfl (by rfl) ?_
  intro a1 k hargs
  have e0 : a1.eval (.tmp 0) = .pointer (some ⟨p, 0, none⟩) := hargs 0 _ rfl
  clear hargs
  refine wp_seq ?_
  refine wp_region_lit ?_
  have hE := Env.refl a1 [2]
  apply sq_det 2 hE k rfl (by rfl) (by rfl) rfl
  case h =>
    exact x_assign rfl rfl
  intro a2 hE e2 kp
  refine wpList_nil ?_
  replace e0 := hE.eval 0 (by rfl) e0
  replace k := k.env hE
  clear hE e2
  refine then_n ?_
  refine wp_seq ?_
  refine wp_seq ?_
  refine wp_region_lit ?_
  have hE := Env.refl a2 [6, 7]
  apply sq_det 6 hE k rfl (by rfl) (by rfl) rfl
  case h =>
    exact x_move rfl (hE.eval 0 (by rfl) e0)
  intro a3 hE e6 kp
  apply sq_det 7 hE k rfl (by rfl) (by rfl) rfl
  case h =>
    simp [go_sem, ↓IntWalk.iteOmega, ev e6]
    with_reducible rfl
  intro a4 hE e7 kp
  refine wpList_nil ?_
  replace e0 := hE.eval 0 (by rfl) e0
  replace k := k.env hE
  clear hE
  refine then_n ?_
  refine cond_f e7 rfl ?_
  refine wp_skip ?_
  refine then_n ?_
  refine wp_seq ?_
  refine wp_seq ?_
  refine wp_region_lit ?_
  have hE := Env.refl a4 [8, 9, 10, 11, 12, 3]
  apply sq_det 8 hE k rfl (by rfl) (by rfl) rfl
  case h =>
    exact x_move rfl (hE.eval 0 (by rfl) e0)
  intro a5 hE e8 kp
  apply sq_det 9 hE k rfl (by rfl) (by rfl) rfl
  case h =>
    exact x_nil rfl e8
  intro a6 hE e9 kp
  apply sq_det 10 hE k rfl (by rfl) (by rfl) rfl
  case h =>
    simp [go_sem, ↓IntWalk.iteOmega, ev e9]
    with_reducible rfl
  intro a7 hE e10 kp
  apply sq_det 11 hE k rfl (by rfl) (by rfl) rfl
  case h =>
    simp [go_sem, ↓IntWalk.iteOmega, ev e10, c0]
    with_reducible rfl
  intro a8 hE e11 kp
  apply sq_call 12 hE k rfl (by rfl) (by rfl) rfl
  case h =>
    simp [go_sem, ↓IntWalk.iteOmega, ev e11]
    with_reducible exact ⟨rfl, rfl⟩
  case hc => exact use_mn1 O hM (by omega)
  clear O
  rintro e w10 ⟨he, O⟩
  simp only [hu, Bool.false_eq_true, if_false] at he
  refine ⟨_, he, ?_⟩
  intro a9 hE e12 kp
  apply sq_det 3 hE k rfl (by rfl) (by rfl) rfl
  case h =>
    exact x_assign rfl e12
  intro a11 hE e3 kp
  refine wpList_nil ?_
  replace e0 := hE.eval 0 (by rfl) e0
  replace k := k.env hE
  clear hE e7
  refine then_n ?_
  refine wp_seq ?_
  refine wp_region_lit ?_
  have hE := Env.refl a11 [13, 14]
  apply sq_det 13 hE k rfl (by rfl) (by rfl) rfl
  case h =>
    exact x_move rfl (hE.eval 3 (by rfl) e3)
  intro a12 hE e13 kp
  apply sq_det 14 hE k rfl (by rfl) (by rfl) rfl
  case h =>
    exact x_neq rfl e13 rfl
  intro a13 hE e14 kp
  refine wpList_nil ?_
  replace e0 := hE.eval 0 (by rfl) e0
  replace e3 := hE.eval 3 (by rfl) e3
  replace k := k.env hE
  clear hE
  refine then_n ?_
  refine cond_t e14 rfl ?_
  refine wp_seq ?_
  refine wp_region_lit ?_
  have hE := Env.refl a13 [15, 2]
  apply sq_det 15 hE k rfl (by rfl) (by rfl) rfl
  case h =>
    exact x_move rfl (hE.eval 3 (by rfl) e3)
  intro a14 hE e15 kp
  apply sq_det 2 hE k rfl (by rfl) (by rfl) rfl
  case h =>
    exact x_assign rfl e15
  intro a15 hE e2 kp
  refine wpList_nil ?_
  replace k := k.env hE
  clear hE e0 e3 e14
  refine then_n ?_
  refine wp_ret ?_
  refine then_r ?_
  refine ret_F1 rfl k e2 ?_
  exact ⟨rfl, O⟩
set_option maxRecDepth 100000 in
set_option maxHeartbeats 4000000 in
theorem dflush_ok {H : Nat} {A0 : World} {R : List Thing} {p mb n cap bm : Nat} {B : Option Addr} {S : List Sec} {L : Int → Option Sec} {M : Mn} {c : Int} (w : World) (O : OwnT H A0 (tDisc p mb B n cap bm S L :: tMn mb M :: R) w) (hM : M.Ok c) (hc : c ≤ 1000000000000) (hu : M.up = true) : Calls Try.prog 37 #[.pointer (some ⟨p, 0, none⟩)] w fun e w' => e = .returned (.int .i64 0) ∧ OwnT H A0 (tDisc p mb B n cap bm (nowL S L) (fun _ => none) :: tMn mb M.use :: R) w' := by
  have hk := O.dok
  have hnl := hk.le
  have c0 : w.cell? ⟨p, 0, none⟩ = some (.pointer (some ⟨mb, 0, none⟩)) := (OwnT.disc O).blk.cell 0
  refine calls_F Try.func37 rfl 37 rfl (by rfl) ?_
  intro a1 k hargs
  have e0 : a1.eval (.tmp 0) = .pointer (some ⟨p, 0, none⟩) := hargs 0 _ rfl
  clear hargs
  refine wp_seq ?_
  refine wp_region_lit ?_
  have hE := Env.refl a1 [2]
  apply sq_det 2 hE k rfl (by rfl) (by rfl) rfl
  case h =>
    exact x_assign rfl rfl
  intro a2 hE e2 kp
  refine wpList_nil ?_
  replace e0 := hE.eval 0 (by rfl) e0
  replace k := k.env hE
  clear hE e2
  refine then_n ?_
  refine wp_seq ?_
  refine wp_seq ?_
  refine wp_region_lit ?_
  have hE := Env.refl a2 [6, 7]
  apply sq_det 6 hE k rfl (by rfl) (by rfl) rfl
  case h =>
    exact x_move rfl (hE.eval 0 (by rfl) e0)
  intro a3 hE e6 kp
  apply sq_det 7 hE k rfl (by rfl) (by rfl) rfl
  case h =>
    simp [go_sem, ↓IntWalk.iteOmega, ev e6]
    with_reducible rfl
  intro a4 hE e7 kp
  refine wpList_nil ?_
  replace e0 := hE.eval 0 (by rfl) e0
  replace k := k.env hE
  clear hE
  refine then_n ?_
  refine cond_f e7 rfl ?_
  refine wp_skip ?_
  refine then_n ?_
  refine wp_seq ?_
  refine wp_seq ?_
  refine wp_region_lit ?_
  have hE := Env.refl a4 [8, 9, 10, 11, 12, 3]
  apply sq_det 8 hE k rfl (by rfl) (by rfl) rfl
  case h =>
    exact x_move rfl (hE.eval 0 (by rfl) e0)
  intro a5 hE e8 kp
  apply sq_det 9 hE k rfl (by rfl) (by rfl) rfl
  case h =>
    exact x_nil rfl e8
  intro a6 hE e9 kp
  apply sq_det 10 hE k rfl (by rfl) (by rfl) rfl
  case h =>
    simp [go_sem, ↓IntWalk.iteOmega, ev e9]
    with_reducible rfl
  intro a7 hE e10 kp
  apply sq_det 11 hE k rfl (by rfl) (by rfl) rfl
  case h =>
    simp [go_sem, ↓IntWalk.iteOmega, ev e10, c0]
    with_reducible rfl
  intro a8 hE e11 kp
  apply sq_call 12 hE k rfl (by rfl) (by rfl) rfl
  case h =>
    simp [go_sem, ↓IntWalk.iteOmega, ev e11]
    with_reducible exact ⟨rfl, rfl⟩
  case hc => exact use_mn1 O hM (by omega)
  clear O
  rintro e w10 ⟨he, O⟩
  simp only [hu, if_true] at he
  refine ⟨_, he, ?_⟩
  intro a9 hE e12 kp
  apply sq_det 3 hE k rfl (by rfl) (by rfl) rfl
  case h =>
    exact x_assign rfl e12
  intro a11 hE e3 kp
  refine wpList_nil ?_
  replace e0 := hE.eval 0 (by rfl) e0
  replace k := k.env hE
  clear hE e7
  refine then_n ?_
  refine wp_seq ?_
  refine wp_region_lit ?_
  have hE := Env.refl a11 [13, 14]
  apply sq_det 13 hE k rfl (by rfl) (by rfl) rfl
  case h =>
    exact x_move rfl (hE.eval 3 (by rfl) e3)
  intro a12 hE e13 kp
  apply sq_det 14 hE k rfl (by rfl) (by rfl) rfl
  case h =>
    exact x_neq rfl e13 rfl
  intro a13 hE e14 kp
  refine wpList_nil ?_
  replace e0 := hE.eval 0 (by rfl) e0
  replace e3 := hE.eval 3 (by rfl) e3
  replace k := k.env hE
  clear hE
  refine then_n ?_
  refine cond_f e14 rfl ?_
  refine wp_skip ?_
  refine then_n ?_
  replace O := O.openD
  replace O : OwnT _ _ ((tBlk p 135 #[.pointer (some ⟨mb, 0, none⟩), .slice B n cap, .map (some bm)]) :: (tRow 9 1 (.slice B n cap) n (strsV S)) :: (tMap bm 16384 (looV L)) :: (tMn mb M.use) :: R) w10 := O
  refine wp_seq ?_
  refine wp_seq ?_
  refine wp_region_lit ?_
  have hE := Env.refl a13 [16, 17, 18, 19, 20]
  apply sq_det 16 hE k rfl (by rfl) (by rfl) rfl
  case h =>
    exact x_move rfl (hE.eval 0 (by rfl) e0)
  intro a14 hE e16 kp
  apply sq_det 17 hE k rfl (by rfl) (by rfl) rfl
  case h =>
    exact x_nil rfl e16
  intro a15 hE e17 kp
  apply sq_det 18 hE k rfl (by rfl) (by rfl) rfl
  case h =>
    simp [go_sem, ↓IntWalk.iteOmega, ev e17]
    with_reducible rfl
  intro a16 hE e18 kp
  apply sq_det 19 hE k rfl (by rfl) (by rfl) rfl
  case h =>
    have q0 : w10.cell? ⟨p, 2, none⟩ = some (.map (some bm)) := (OwnT.blk O 0 rfl).cell 2
    simp [go_sem, ↓IntWalk.iteOmega, ev e18, q0]
    with_reducible rfl
  intro a17 hE e19 kp
  refine wpList_vr_start (o := ⟨some 20, _, _, _, _, _⟩) rfl (.tmp 19) 133 9 rfl Try.underlying133 e19 (OwnT.get O 2 rfl) ?_
  intro w9 cnt0 hr0 hE0 hs0
  replace O := OwnT.rangeOn2 O hr0 hE0
  clear hr0 hE0 hs0
  generalize w10.heap.size = r at O ⊢
  refine put_F 20 hE k (by rfl) (by rfl) ?_
  intro a18 hE e20 kp
  refine wpList_nil ?_
  replace e0 := hE.eval 0 (by rfl) e0
  replace k := k.env hE
  clear hE e3 e14
  refine then_n ?_
  refine wp_block ?_
  refine wp_loop (fun a w => Fr 37 a ∧ a.eval (.tmp 0) = .pointer (some ⟨p, 0, none⟩) ∧ a.eval (.tmp 20) = .pointer (some ⟨r, 0, none⟩) ∧ ∃ (left : Int → Bool) (cnt : Nat), OwnT H A0 ((tBlk p 135 #[.pointer (some ⟨mb, 0, none⟩), .slice B n cap, .map (some bm)]) :: (tRow 9 1 (.slice B n cap) n (strsV (mixL S L left))) :: (tVR bm r 16384 (looV L) left cnt) :: (tMn mb M.use) :: R) w) (fun a w => w.rangeLeft bm r) ?_ ?_
  · exact ⟨k, e0, e20, (fun i => (looV L i).isSome), cnt0, (by rw [mixL_start]; exact O)⟩
  intro a19 w20 hI
  clear k e0 e20
  obtain ⟨k, e0, e20, h_⟩ := hI
  clear O
  obtain ⟨left, cnt, O⟩ := h_
  have hcnt := VR.left_eq (OwnT.get O 2 rfl)
  
  rcases VR.next (OwnT.get O 2 rfl) _ with ⟨hl, hrun⟩ | ⟨x, c, w9, cnt9, hwx, hlx, hmx, hr9, hlt9, hC9, hs9, hen, hrun⟩
  · replace O := OwnT.rangeEnd2 O
    rw [mixL_end (by have := hk.len; omega) hl] at O
    replace O : OwnT _ _ ((tBlk p 135 #[.pointer (some ⟨mb, 0, none⟩), .slice B n cap, .map (some bm)]) :: (tRow 9 1 (.slice B n cap) n (strsV (nowL S L))) :: (tMap bm 16384 (looV L)) :: (tMn mb M.use) :: R) w20 := O
    refine wp_seq ?_
    refine wp_region_lit ?_
    have hE := Env.refl a19 [21, 22]
    apply sq_val 21 hE k rfl (by rfl) (by rfl) rfl
    case h =>
      exact x_next rfl (hE.eval 20 (by rfl) e20) hrun
    intro a21 hE e21 kp
    apply sq_det 22 hE k rfl (by rfl) (by rfl) rfl
    case h =>
      simp [go_sem, ↓IntWalk.iteOmega, ev e21]
      with_reducible rfl
    intro a22 hE e22 kp
    refine wpList_nil ?_
    replace e0 := hE.eval 0 (by rfl) e0
    replace e20 := hE.eval 20 (by rfl) e20
    replace k := k.env hE
    clear hE
    refine then_n ?_
    refine wp_seq ?_
    refine cond_f e22 rfl ?_
    refine wp_exit ?_
    refine then_x ?_
    refine then_x ?_
    refine block_x ?_
    refine then_n ?_
    obtain ⟨w8, hcl, hV, hC⟩ := map_clear (OwnT.get O 2 rfl) 133 9 _ Try.underlying133
    refine wp_seq ?_
    refine wp_region_lit ?_
    have hE := Env.refl a22 [33, 34, 35, 36]
    apply sq_det 33 hE k rfl (by rfl) (by rfl) rfl
    case h =>
      exact x_move rfl (hE.eval 0 (by rfl) e0)
    intro a23 hE e33 kp
    apply sq_det 34 hE k rfl (by rfl) (by rfl) rfl
    case h =>
      exact x_nil rfl e33
    intro a24 hE e34 kp
    apply sq_det 35 hE k rfl (by rfl) (by rfl) rfl
    case h =>
      simp [go_sem, ↓IntWalk.iteOmega, ev e34]
      with_reducible rfl
    intro a25 hE e35 kp
    apply sq_det 36 hE k rfl (by rfl) (by rfl) rfl
    case h =>
      have q0 : w20.cell? ⟨p, 2, none⟩ = some (.map (some bm)) := (OwnT.blk O 0 rfl).cell 2
      simp [go_sem, ↓IntWalk.iteOmega, ev e35, q0]
      with_reducible rfl
    intro a26 hE e36 kp
    refine sq_unitv (w' := w8) rfl rfl (by exact x_clear rfl e36 hcl) ?_
    replace O := OwnT.mapSet2 O hV hC
    clear hV hC hcl
    rw [← looV_none] at O
    replace O : OwnT H A0 (tDisc p mb B n cap bm (nowL S L) (fun _ => none) :: tMn mb M.use :: R) w8 := OwnT.closeD O hk.flush
    refine wpList_nil ?_
    replace k := k.env hE
    clear hE e0 e20 e22 e36
    refine then_n ?_
    refine wp_seq ?_
    refine wp_region_lit ?_
    have hE := Env.refl a26 [2]
    apply sq_det 2 hE k rfl (by rfl) (by rfl) rfl
    case h =>
      exact x_assign rfl rfl
    intro a27 hE e2 kp
    refine wpList_nil ?_
    replace k := k.env hE
    clear hE
    refine then_n ?_
    refine wp_ret ?_
    refine ret_F1 rfl k e2 ?_
    exact ⟨rfl, O⟩
  · have hL0 := looV_some hmx
    obtain ⟨s, hLs, rfl⟩ := hL0
    obtain ⟨⟨hx0, hx1⟩, hs16⟩ := hk.rng x s hLs
    obtain ⟨x, rfl⟩ := Int.eq_ofNat_of_zero_le hx0
    replace O := OwnT.rangeNext2 O hr9 hC9
    obtain ⟨g, cap', hB, -⟩ := row1_some (OwnT.get O 1 rfl) (by omega)
    injection hB with hB _ hcap
    subst hB hcap
    
    refine wp_seq ?_
    refine wp_region_lit ?_
    have hE := Env.refl a19 [21, 22]
    apply sq_val 21 hE k rfl (by rfl) (by rfl) rfl
    case h =>
      exact x_next rfl (hE.eval 20 (by rfl) e20) hrun
    intro a28 hE e21 kp
    apply sq_det 22 hE k rfl (by rfl) (by rfl) rfl
    case h =>
      simp [go_sem, ↓IntWalk.iteOmega, ev e21]
      with_reducible rfl
    intro a29 hE e22 kp
    refine wpList_nil ?_
    replace e0 := hE.eval 0 (by rfl) e0
    replace e20 := hE.eval 20 (by rfl) e20
    replace k := k.env hE
    clear hE
    refine then_n ?_
    refine wp_seq ?_
    refine cond_t e22 rfl ?_
    refine wp_skip ?_
    refine then_n ?_
    refine wp_block ?_
    refine wp_seq ?_
    refine wp_region_lit ?_
    have hE := Env.refl a29 [23, 24, 25, 4, 5]
    apply sq_det 23 hE k rfl (by rfl) (by rfl) rfl
    case h =>
      exact x_entry rfl (hE.eval 20 (by rfl) e20) hen
    intro a30 hE e23 kp
    apply sq_det 24 hE k rfl (by rfl) (by rfl) rfl
    case h =>
      simp [go_sem, ↓IntWalk.iteOmega, ev e23]
      with_reducible rfl
    intro a31 hE e24 kp
    replace e23 := (kp 23 rfl).trans e23
    apply sq_det 25 hE k rfl (by rfl) (by rfl) rfl
    case h =>
      simp [go_sem, ↓IntWalk.iteOmega, ev e23]
      with_reducible rfl
    intro a32 hE e25 kp
    replace e24 := (kp 24 rfl).trans e24
    apply sq_det 4 hE k rfl (by rfl) (by rfl) rfl
    case h =>
      exact x_assign rfl e24
    intro a33 hE e4 kp
    replace e25 := (kp 25 rfl).trans e25
    apply sq_det 5 hE k rfl (by rfl) (by rfl) rfl
    case h =>
      exact x_assign rfl e25
    intro a34 hE e5 kp
    replace e4 := (kp 4 rfl).trans e4
    refine wpList_nil ?_
    replace e0 := hE.eval 0 (by rfl) e0
    replace e20 := hE.eval 20 (by rfl) e20
    replace k := k.env hE
    clear hE e22
    refine then_n ?_
    obtain ⟨hc, hfz⟩ := row1_cell (OwnT.get O 1 rfl) (i := x) (List.getElem?_eq_getElem (by simp only [strsV, List.length_map, mixL_len]; have := hk.len; omega))
    
    refine wp_region_lit ?_
    have hE := Env.refl a34 [26, 27, 28, 29, 30, 31, 32]
    apply sq_det 26 hE k rfl (by rfl) (by rfl) rfl
    case h =>
      exact x_move rfl (hE.eval 0 (by rfl) e0)
    intro a35 hE e26 kp
    apply sq_det 27 hE k rfl (by rfl) (by rfl) rfl
    case h =>
      exact x_nil rfl e26
    intro a36 hE e27 kp
    apply sq_det 28 hE k rfl (by rfl) (by rfl) rfl
    case h =>
      simp [go_sem, ↓IntWalk.iteOmega, ev e27]
      with_reducible rfl
    intro a37 hE e28 kp
    apply sq_det 29 hE k rfl (by rfl) (by rfl) rfl
    case h =>
      have q0 : w9.cell? ⟨p, 1, none⟩ = some (.slice (some ⟨g, 0, none⟩) n cap) := (OwnT.blk O 0 rfl).cell 1
      simp [go_sem, ↓IntWalk.iteOmega, ev e28, q0]
      with_reducible rfl
    intro a38 hE e29 kp
    apply sq_det 30 hE k rfl (by rfl) (by rfl) rfl
    case h =>
      exact x_move rfl (hE.eval 4 (by rfl) e4)
    intro a39 hE e30 kp
    replace e29 := (kp 29 rfl).trans e29
    apply sq_det 31 hE k rfl (by rfl) (by rfl) rfl
    case h =>
      exact x_move rfl (hE.eval 5 (by rfl) e5)
    intro a40 hE e31 kp
    replace e29 := (kp 29 rfl).trans e29
    replace e30 := (kp 30 rfl).trans e30
    apply sq_det 32 hE k rfl (by rfl) (by rfl) rfl
    case h =>
      simp [go_sem, ↓IntWalk.iteOmega, ev e29, ev e30]
      with_reducible rfl
    intro a41 hE e32 kp
    replace e31 := (kp 31 rfl).trans e31
    refine sq_unit (w' := (w9.setCell ⟨g, x, none⟩ (.string (sB s)))) hE rfl rfl ?_ ?_
    · simp [go_sem, ↓IntWalk.iteOmega, ev e32, ev e31, hc, hfz]
    replace O := OwnT.setRow1_1 O (i := x) (by omega) (.string (sB s))
    clear hc hfz hrun hen hC9 hr9
    rw [← strsV_set, mixL_step hLs] at O
    generalize (w9.setCell ⟨g, x, none⟩ (.string (sB s))) = w42 at O ⊢
    refine wpList_nil ?_
    replace e0 := hE.eval 0 (by rfl) e0
    replace e20 := hE.eval 20 (by rfl) e20
    replace k := k.env hE
    clear hE e4 e5 e31 e32
    refine block_n ?_
    refine then_n ?_
    refine ⟨⟨k, e0, e20, _, cnt9, O⟩, ?_⟩
    rw [hcnt, VR.left_eq (OwnT.get O 2 rfl)]; exact hlt9
end Go.Proofs.Ytdpohbaeopidmaa
