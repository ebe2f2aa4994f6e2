/- chunk's law: ChunkExact (printed by XChunkEx.gen.py). -/
import Derived.Test.YtdpohbaeopidmaaKChunkExact23
namespace Go.Proofs.Ytdpohbaeopidmaa
attribute [local simp] BigFrame.eval_const BigFrame.eval_global BigFrame.eval_func
set_option linter.unusedVariables false
set_option linter.unusedSimpArgs false
open Go.RowKit Go.Maps

abbrev Act18 := Int × (Int × Int) × (Int × Int) × Int × Int × UInt8
def act18C (x : Act18) : List Value := [.int .i64 x.1, .int .i64 x.2.1.1, .int .i64 x.2.1.2, .int .i64 x.2.2.1.1, .int .i64 x.2.2.1.2, .int .i64 x.2.2.2.1, .int .i64 x.2.2.2.2.1, .int .u8 (x.2.2.2.2.2.toNat : Int)]
theorem cells_act18 : Try.prog.cellsOf 101 = 8 := by kernel_rfl
theorem cells_spot18 : Try.prog.cellsOf 90 = 2 := by kernel_rfl
theorem cells_i18 : Try.prog.cellsOf 3 = 1 := by kernel_rfl
theorem cells_b18 : Try.prog.cellsOf 5 = 1 := by kernel_rfl
theorem fit_spot18 {w : World} {cs : List Value} (hf : Fit Try.prog w 90 cs) : ∃ x : Int × Int, cs = [.int .i64 x.1, .int .i64 x.2] := by
  obtain ⟨hl, hx⟩ := fit_fields 2 Try.underlying90 cells_spot18 hf
  obtain ⟨a, e0, _⟩ := cell_int Try.underlying3 (hx 0 0 3 1 rfl cells_i18)
  obtain ⟨b, e1, _⟩ := cell_int Try.underlying3 (hx 1 1 3 1 rfl cells_i18)
  refine ⟨(a, b), ?_⟩
  match cs, hl with
  | [x, y], _ => simp at e0 e1; subst e0 e1; rfl
theorem arg_acts18 {w : World} {v : Value} (h : Arg Try.prog w 97 v) :
    ∃ A len cap, ∃ xs : List Act18, v = .slice A len cap ∧ len ≤ cap ∧ cap ≤ maxLen ∧ xs.length = len ∧ (∀ x ∈ xs, True) ∧ Row w A 8 act18C xs :=
  fit_row act18C (fun _ => True) Try.underlying97 cells_act18 (by decide) (fun cs _ hf => by
    obtain ⟨hl, hx⟩ := fit_fields 8 Try.underlying101 cells_act18 hf
    obtain ⟨a, e0, _⟩ := cell_int Try.underlying3 (hx 0 0 3 1 rfl cells_i18)
    obtain ⟨s, e1⟩ := fit_spot18 (hx 1 1 90 2 rfl cells_spot18)
    obtain ⟨u, e2⟩ := fit_spot18 (hx 2 3 90 2 rfl cells_spot18)
    obtain ⟨y, e3, _⟩ := cell_int Try.underlying3 (hx 3 5 3 1 rfl cells_i18)
    obtain ⟨n, e4, _⟩ := cell_int Try.underlying3 (hx 4 6 3 1 rfl cells_i18)
    obtain ⟨d, e5, w5⟩ := cell_int Try.underlying5 (hx 5 7 5 1 rfl cells_b18)
    have hd := bounds_u8 w5
    refine ⟨(a, s, u, y, n, UInt8.ofNat d.toNat), ?_, trivial⟩
    match cs, hl with
    | [u0, u1, u2, u3, u4, u5, u6, u7], _ =>
      simp at e0 e1 e2 e3 e4 e5
      obtain ⟨e1, e1'⟩ := e1
      obtain ⟨e2, e2'⟩ := e2
      subst e0 e1 e1' e2 e2' e3 e4 e5
      have e : ((UInt8.ofNat d.toNat).toNat : Int) = d := by simp; omega
      simp only [act18C, e]) (arg_slice Try.underlying97 h)

set_option maxRecDepth 100000 in
set_option maxHeartbeats 4000000 in
theorem chunkExact_core (l1 l2 : List UInt8) (z : Int) (A : Option Addr) (len capA : Nat) (xs : List Act18) (W0 : World) (hlen : xs.length = len) (hrow : Row W0 A 8 act18C xs) : Calls Try.prog 10 #[.string (sB l1), .string (sB l2), .int .i64 z, .slice A len capA] W0 fun e w' => e = .returned (.bool true) ∧ Below W0.heap.size W0 w' := by
  have O := OwnT.start W0
  refine calls_F Try.func10 rfl 479 rfl (by rfl) ?_
  intro a1 k hargs
  have e0 : a1.eval (.tmp 0) = .string (sB l1) := hargs 0 _ rfl
  have e1 : a1.eval (.tmp 1) = .string (sB l2) := hargs 1 _ rfl
  have e2 : a1.eval (.tmp 2) = .int .i64 z := hargs 2 _ rfl
  have e3 : a1.eval (.tmp 3) = .slice A len capA := hargs 3 _ rfl
  clear hargs
  refine wp_seq ?_
  refine wp_region_lit ?_
  have hE := Env.refl a1 [8]
  apply sq_det 8 hE k rfl (by rfl) (by rfl) rfl
  case h =>
    exact x_assign rfl rfl
  intro a2 hE e8 kp
  refine wpList_nil ?_
  replace e0 := hE.eval 0 (by rfl) e0
  replace e1 := hE.eval 1 (by rfl) e1
  replace e2 := hE.eval 2 (by rfl) e2
  replace e3 := hE.eval 3 (by rfl) e3
  replace k := k.env hE
  clear hE e8
  refine then_n ?_
  refine wp_seq ?_
  refine wp_seq ?_
  refine wp_region_lit ?_
  have hE := Env.refl a2 [33, 34]
  apply sq_call 33 hE k rfl (by rfl) (by rfl) rfl
  case h =>
    simp [go_sem, ↓IntWalk.iteOmega]
    with_reducible exact ⟨rfl, rfl⟩
  case hc => exact awake18 _
  rintro e w4 ⟨rfl, R⟩
  replace O := OwnT.ext O R
  refine ⟨_, rfl, ?_⟩
  intro a3 hE e33 kp
  apply sq_det 34 hE k rfl (by rfl) (by rfl) rfl
  case h =>
    exact x_not rfl e33
  intro a5 hE e34 kp
  refine wpList_nil ?_
  replace e0 := hE.eval 0 (by rfl) e0
  replace e1 := hE.eval 1 (by rfl) e1
  replace e2 := hE.eval 2 (by rfl) e2
  replace e3 := hE.eval 3 (by rfl) e3
  replace k := k.env hE
  clear hE
  refine then_n ?_
  refine cond_f e34 rfl ?_
  refine wp_skip ?_
  refine then_n ?_
  by_cases hl1 : l1.length ≤ 480
  rotate_left
  · skip
    refine wp_seq ?_
    refine wp_seq ?_
    refine wp_region_lit ?_
    have hE := Env.refl a5 [35, 36, 37, 38, 39, 40, 41, 42]
    apply sq_det 35 hE k rfl (by rfl) (by rfl) rfl
    case h =>
      exact x_move rfl (hE.eval 0 (by rfl) e0)
    intro a6 hE e35 kp
    apply sq_det 36 hE k rfl (by rfl) (by rfl) rfl
    case h =>
      exact x_len_l Try.underlying9 rfl e35
    intro a7 hE e36 kp
    apply sq_det 37 hE k rfl (by rfl) (by rfl) rfl
    case h =>
      exact x_dec (x_gtr rfl e36 rfl) (decide_eq_true (by omega))
    intro a8 hE e37 kp
    apply sq_det 38 hE k rfl (by rfl) (by rfl) rfl
    case h =>
      exact x_move rfl e37
    intro a9 hE e38 kp
    refine sq_skipg 39 hE k rfl (by rfl) (by rfl) rfl rfl (.inl e38) ?_
    intro a10 hE e39 kp
    replace e38 := (kp 38 rfl).trans e38
    refine sq_skipg 40 hE k rfl (by rfl) (by rfl) rfl rfl (.inl e38) ?_
    intro a11 hE e40 kp
    replace e38 := (kp 38 rfl).trans e38
    refine sq_skipg 41 hE k rfl (by rfl) (by rfl) rfl rfl (.inl e38) ?_
    intro a12 hE e41 kp
    replace e38 := (kp 38 rfl).trans e38
    apply sq_det 42 hE k rfl (by rfl) (by rfl) rfl
    case h =>
      exact x_pick_t rfl e38 rfl
    intro a13 hE e42 kp
    refine wpList_nil ?_
    replace e0 := hE.eval 0 (by rfl) e0
    replace e1 := hE.eval 1 (by rfl) e1
    replace e2 := hE.eval 2 (by rfl) e2
    replace e3 := hE.eval 3 (by rfl) e3
    replace k := k.env hE
    clear hE e34
    refine then_n ?_
    refine cond_t e42 rfl ?_
    refine wp_seq ?_
    refine wp_region_lit ?_
    have hE := Env.refl a13 [8]
    apply sq_det 8 hE k rfl (by rfl) (by rfl) rfl
    case h =>
      exact x_assign rfl rfl
    intro a14 hE e8 kp
    refine wpList_nil ?_
    replace k := k.env hE
    clear hE e0 e1 e2 e3 e42
    refine then_n ?_
    refine wp_ret ?_
    refine then_r ?_
    refine ret_F1 rfl k e8 ?_
    exact ⟨rfl, O.below⟩
  by_cases hl2 : l2.length ≤ 480
  rotate_left
  · skip
    refine wp_seq ?_
    refine wp_seq ?_
    refine wp_region_lit ?_
    have hE := Env.refl a5 [35, 36, 37, 38, 39, 40, 41, 42]
    apply sq_det 35 hE k rfl (by rfl) (by rfl) rfl
    case h =>
      exact x_move rfl (hE.eval 0 (by rfl) e0)
    intro a15 hE e35 kp
    apply sq_det 36 hE k rfl (by rfl) (by rfl) rfl
    case h =>
      exact x_len_l Try.underlying9 rfl e35
    intro a16 hE e36 kp
    apply sq_det 37 hE k rfl (by rfl) (by rfl) rfl
    case h =>
      exact x_dec (x_gtr rfl e36 rfl) (decide_eq_false (by omega))
    intro a17 hE e37 kp
    apply sq_det 38 hE k rfl (by rfl) (by rfl) rfl
    case h =>
      exact x_move rfl e37
    intro a18 hE e38 kp
    apply sq_detg 39 hE k rfl (by rfl) (by rfl) rfl rfl e38
    case h =>
      exact x_move rfl (hE.eval 1 (by rfl) e1)
    intro a19 hE e39 kp
    replace e38 := (kp 38 rfl).trans e38
    apply sq_detg 40 hE k rfl (by rfl) (by rfl) rfl rfl e38
    case h =>
      exact x_len_l Try.underlying9 rfl e39
    intro a20 hE e40 kp
    replace e38 := (kp 38 rfl).trans e38
    apply sq_detg 41 hE k rfl (by rfl) (by rfl) rfl rfl e38
    case h =>
      exact x_dec (x_gtr rfl e40 rfl) (decide_eq_true (by omega))
    intro a21 hE e41 kp
    replace e38 := (kp 38 rfl).trans e38
    apply sq_det 42 hE k rfl (by rfl) (by rfl) rfl
    case h =>
      exact x_pick_f rfl e38 e41
    intro a22 hE e42 kp
    refine wpList_nil ?_
    replace e0 := hE.eval 0 (by rfl) e0
    replace e1 := hE.eval 1 (by rfl) e1
    replace e2 := hE.eval 2 (by rfl) e2
    replace e3 := hE.eval 3 (by rfl) e3
    replace k := k.env hE
    clear hE e34
    refine then_n ?_
    refine cond_t e42 rfl ?_
    refine wp_seq ?_
    refine wp_region_lit ?_
    have hE := Env.refl a22 [8]
    apply sq_det 8 hE k rfl (by rfl) (by rfl) rfl
    case h =>
      exact x_assign rfl rfl
    intro a23 hE e8 kp
    refine wpList_nil ?_
    replace k := k.env hE
    clear hE e0 e1 e2 e3 e42
    refine then_n ?_
    refine wp_ret ?_
    refine then_r ?_
    refine ret_F1 rfl k e8 ?_
    exact ⟨rfl, O.below⟩
  obtain ⟨na, hna⟩ : ∃ n, l1.length / 16 = n := ⟨_, rfl⟩
  obtain ⟨nb, hnb⟩ : ∃ n, l2.length / 16 = n := ⟨_, rfl⟩
  have hna30 : na ≤ 30 := by omega
  have hnb30 : nb ≤ 30 := by omega
  refine wp_seq ?_
  refine wp_seq ?_
  refine wp_region_lit ?_
  have hE := Env.refl a5 [35, 36, 37, 38, 39, 40, 41, 42]
  apply sq_det 35 hE k rfl (by rfl) (by rfl) rfl
  case h =>
    exact x_move rfl (hE.eval 0 (by rfl) e0)
  intro a24 hE e35 kp
  apply sq_det 36 hE k rfl (by rfl) (by rfl) rfl
  case h =>
    exact x_len_l Try.underlying9 rfl e35
  intro a25 hE e36 kp
  apply sq_det 37 hE k rfl (by rfl) (by rfl) rfl
  case h =>
    exact x_dec (x_gtr rfl e36 rfl) (decide_eq_false (by omega))
  intro a26 hE e37 kp
  apply sq_det 38 hE k rfl (by rfl) (by rfl) rfl
  case h =>
    exact x_move rfl e37
  intro a27 hE e38 kp
  apply sq_detg 39 hE k rfl (by rfl) (by rfl) rfl rfl e38
  case h =>
    exact x_move rfl (hE.eval 1 (by rfl) e1)
  intro a28 hE e39 kp
  replace e38 := (kp 38 rfl).trans e38
  apply sq_detg 40 hE k rfl (by rfl) (by rfl) rfl rfl e38
  case h =>
    exact x_len_l Try.underlying9 rfl e39
  intro a29 hE e40 kp
  replace e38 := (kp 38 rfl).trans e38
  apply sq_detg 41 hE k rfl (by rfl) (by rfl) rfl rfl e38
  case h =>
    exact x_dec (x_gtr rfl e40 rfl) (decide_eq_false (by omega))
  intro a30 hE e41 kp
  replace e38 := (kp 38 rfl).trans e38
  apply sq_det 42 hE k rfl (by rfl) (by rfl) rfl
  case h =>
    exact x_pick_f rfl e38 e41
  intro a31 hE e42 kp
  refine wpList_nil ?_
  replace e0 := hE.eval 0 (by rfl) e0
  replace e1 := hE.eval 1 (by rfl) e1
  replace e2 := hE.eval 2 (by rfl) e2
  replace e3 := hE.eval 3 (by rfl) e3
  replace k := k.env hE
  clear hE e34
  refine then_n ?_
  refine cond_f e42 rfl ?_
  refine wp_skip ?_
  refine then_n ?_
  refine wp_seq ?_
  refine wp_region_lit ?_
  have hE := Env.refl a31 [43, 9]
  apply sq_call 43 hE k rfl (by rfl) (by rfl) rfl
  case h =>
    simp [go_sem, ↓IntWalk.iteOmega]
    with_reducible exact ⟨rfl, rfl⟩
  case hc => exact new_mn O
  clear O
  rintro e w33 ⟨mb, rfl, O⟩
  refine ⟨_, rfl, ?_⟩
  intro a32 hE e43 kp
  apply sq_det 9 hE k rfl (by rfl) (by rfl) rfl
  case h =>
    exact x_assign rfl e43
  intro a34 hE e9 kp
  refine wpList_nil ?_
  replace e0 := hE.eval 0 (by rfl) e0
  replace e1 := hE.eval 1 (by rfl) e1
  replace e2 := hE.eval 2 (by rfl) e2
  replace e3 := hE.eval 3 (by rfl) e3
  replace k := k.env hE
  clear hE e42
  refine then_n ?_
  refine wp_seq ?_
  refine wp_region_lit ?_
  have hE := Env.refl a34 [44, 45, 46, 10]
  apply sq_det 44 hE k rfl (by rfl) (by rfl) rfl
  case h =>
    exact x_move rfl (hE.eval 9 (by rfl) e9)
  intro a35 hE e44 kp
  apply sq_det 45 hE k rfl (by rfl) (by rfl) rfl
  case h =>
    exact x_move rfl (hE.eval 0 (by rfl) e0)
  intro a36 hE e45 kp
  replace e44 := (kp 44 rfl).trans e44
  apply sq_call 46 hE k rfl (by rfl) (by rfl) rfl
  case h =>
    simp [go_sem, ↓IntWalk.iteOmega, ev e44, ev e45]
    with_reducible exact ⟨rfl, rfl⟩
  case hc => exact dof_any l1 _ O (by omega)
  clear O
  rintro e w38 ⟨p, B, cap, bm, rfl, O⟩
  rw [show min (l1.length / 16) 16384 = na by omega] at O
  refine ⟨_, rfl, ?_⟩
  intro a37 hE e46 kp
  apply sq_det 10 hE k rfl (by rfl) (by rfl) rfl
  case h =>
    exact x_assign rfl e46
  intro a39 hE e10 kp
  refine wpList_nil ?_
  replace e0 := hE.eval 0 (by rfl) e0
  replace e1 := hE.eval 1 (by rfl) e1
  replace e2 := hE.eval 2 (by rfl) e2
  replace e3 := hE.eval 3 (by rfl) e3
  replace e9 := hE.eval 9 (by rfl) e9
  replace k := k.env hE
  clear hE
  refine then_n ?_
  refine wp_seq ?_
  refine wp_region_lit ?_
  have hE := Env.refl a39 [47, 48, 49, 11]
  apply sq_det 47 hE k rfl (by rfl) (by rfl) rfl
  case h =>
    exact x_move rfl (hE.eval 9 (by rfl) e9)
  intro a40 hE e47 kp
  apply sq_det 48 hE k rfl (by rfl) (by rfl) rfl
  case h =>
    exact x_move rfl (hE.eval 1 (by rfl) e1)
  intro a41 hE e48 kp
  replace e47 := (kp 47 rfl).trans e47
  apply sq_call 49 hE k rfl (by rfl) (by rfl) rfl
  case h =>
    simp [go_sem, ↓IntWalk.iteOmega, ev e47, ev e48]
    with_reducible exact ⟨rfl, rfl⟩
  case hc => exact dof_any l2 _ O (by omega)
  clear O
  rintro e w43 ⟨p2, B2, cap2, bm2, rfl, O⟩
  rw [show min (l2.length / 16) 16384 = nb by omega] at O
  refine ⟨_, rfl, ?_⟩
  intro a42 hE e49 kp
  apply sq_det 11 hE k rfl (by rfl) (by rfl) rfl
  case h =>
    exact x_assign rfl e49
  intro a44 hE e11 kp
  refine wpList_nil ?_
  replace e0 := hE.eval 0 (by rfl) e0
  replace e1 := hE.eval 1 (by rfl) e1
  replace e2 := hE.eval 2 (by rfl) e2
  replace e3 := hE.eval 3 (by rfl) e3
  replace e10 := hE.eval 10 (by rfl) e10
  replace k := k.env hE
  clear hE e9
  refine then_n ?_
  by_cases hx : 1 ≤ z ∧ z ≤ 8 ∧ z ≤ na ∧ z ≤ nb
  rotate_left
  · skip
    refine wp_seq ?_
    refine wp_region_lit ?_
    have hE := Env.refl a44 [51, 52, 53, 54, 50, 55, 56, 12, 13]
    apply sq_det 51 hE k rfl (by rfl) (by rfl) rfl
    case h =>
      exact x_move rfl (hE.eval 10 (by rfl) e10)
    intro a45 hE e51 kp
    apply sq_det 52 hE k rfl (by rfl) (by rfl) rfl
    case h =>
      exact x_move rfl (hE.eval 11 (by rfl) e11)
    intro a46 hE e52 kp
    replace e51 := (kp 51 rfl).trans e51
    apply sq_det 53 hE k rfl (by rfl) (by rfl) rfl
    case h =>
      exact x_move rfl (hE.eval 2 (by rfl) e2)
    intro a47 hE e53 kp
    replace e51 := (kp 51 rfl).trans e51
    replace e52 := (kp 52 rfl).trans e52
    apply sq_call 54 hE k rfl (by rfl) (by rfl) rfl
    case h =>
      simp [go_sem, ↓IntWalk.iteOmega, ev e51, ev e52, ev e53]
      with_reducible exact ⟨rfl, rfl⟩
    case hc => exact cnew_arg z _ (OwnT.discAt O 1 rfl) (OwnT.discAt O 0 rfl) hx
    rintro e _ ⟨rfl, rfl⟩
    refine ⟨_, rfl, ?_⟩
    intro a48 hE e54 kp
    apply sq_det 50 hE k rfl (by rfl) (by rfl) rfl
    case h =>
      exact x_move rfl e54
    intro a49 hE e50 kp
    apply sq_det 55 hE k rfl (by rfl) (by rfl) rfl
    case h =>
      simp [go_sem, ↓IntWalk.iteOmega, ev e50]
      with_reducible rfl
    intro a50 hE e55 kp
    replace e50 := (kp 50 rfl).trans e50
    apply sq_det 56 hE k rfl (by rfl) (by rfl) rfl
    case h =>
      simp [go_sem, ↓IntWalk.iteOmega, ev e50]
      with_reducible rfl
    intro a51 hE e56 kp
    replace e55 := (kp 55 rfl).trans e55
    apply sq_det 12 hE k rfl (by rfl) (by rfl) rfl
    case h =>
      exact x_assign rfl e55
    intro a52 hE e12 kp
    replace e56 := (kp 56 rfl).trans e56
    apply sq_det 13 hE k rfl (by rfl) (by rfl) rfl
    case h =>
      exact x_assign rfl e56
    intro a53 hE e13 kp
    replace e12 := (kp 12 rfl).trans e12
    refine wpList_nil ?_
    replace e0 := hE.eval 0 (by rfl) e0
    replace e1 := hE.eval 1 (by rfl) e1
    replace e2 := hE.eval 2 (by rfl) e2
    replace e3 := hE.eval 3 (by rfl) e3
    replace e10 := hE.eval 10 (by rfl) e10
    replace e11 := hE.eval 11 (by rfl) e11
    replace k := k.env hE
    clear hE
    refine then_n ?_
    by_cases hc0 : 1 ≤ z
    rotate_left
    · skip
      refine wp_seq ?_
      refine wp_seq ?_
      refine wp_region_lit ?_
      have hE := Env.refl a53 [57, 58, 59, 60, 61, 62, 63, 64, 65, 66, 67, 68, 69, 70, 71, 72, 73, 74, 75, 76]
      apply sq_det 57 hE k rfl (by rfl) (by rfl) rfl
      case h =>
        exact x_move rfl (hE.eval 2 (by rfl) e2)
      intro a54 hE e57 kp
      apply sq_det 58 hE k rfl (by rfl) (by rfl) rfl
      case h =>
        exact x_dec (x_lss rfl e57 rfl) (decide_eq_true (by omega))
      intro a55 hE e58 kp
      apply sq_det 59 hE k rfl (by rfl) (by rfl) rfl
      case h =>
        exact x_move rfl e58
      intro a56 hE e59 kp
      refine sq_skipg 60 hE k rfl (by rfl) (by rfl) rfl rfl (.inl e59) ?_
      intro a57 hE e60 kp
      replace e59 := (kp 59 rfl).trans e59
      refine sq_skipg 61 hE k rfl (by rfl) (by rfl) rfl rfl (.inl e59) ?_
      intro a58 hE e61 kp
      replace e59 := (kp 59 rfl).trans e59
      apply sq_det 62 hE k rfl (by rfl) (by rfl) rfl
      case h =>
        exact x_pick_t rfl e59 rfl
      intro a59 hE e62 kp
      apply sq_det 63 hE k rfl (by rfl) (by rfl) rfl
      case h =>
        exact x_move rfl e62
      intro a60 hE e63 kp
      refine sq_skipg 64 hE k rfl (by rfl) (by rfl) rfl rfl (.inl e63) ?_
      intro a61 hE e64 kp
      replace e63 := (kp 63 rfl).trans e63
      refine sq_skipg 65 hE k rfl (by rfl) (by rfl) rfl rfl (.inl e63) ?_
      intro a62 hE e65 kp
      replace e63 := (kp 63 rfl).trans e63
      refine sq_skipg 66 hE k rfl (by rfl) (by rfl) rfl rfl (.inl e63) ?_
      intro a63 hE e66 kp
      replace e63 := (kp 63 rfl).trans e63
      refine sq_skipg 67 hE k rfl (by rfl) (by rfl) rfl rfl (.inl e63) ?_
      intro a64 hE e67 kp
      replace e63 := (kp 63 rfl).trans e63
      replace e66 := (kp 66 rfl).trans e66
      refine sq_skipg 68 hE k rfl (by rfl) (by rfl) rfl rfl (.inl e63) ?_
      intro a65 hE e68 kp
      replace e63 := (kp 63 rfl).trans e63
      apply sq_det 69 hE k rfl (by rfl) (by rfl) rfl
      case h =>
        exact x_pick_t rfl e63 rfl
      intro a66 hE e69 kp
      apply sq_det 70 hE k rfl (by rfl) (by rfl) rfl
      case h =>
        exact x_move rfl e69
      intro a67 hE e70 kp
      refine sq_skipg 71 hE k rfl (by rfl) (by rfl) rfl rfl (.inl e70) ?_
      intro a68 hE e71 kp
      replace e70 := (kp 70 rfl).trans e70
      refine sq_skipg 72 hE k rfl (by rfl) (by rfl) rfl rfl (.inl e70) ?_
      intro a69 hE e72 kp
      replace e70 := (kp 70 rfl).trans e70
      refine sq_skipg 73 hE k rfl (by rfl) (by rfl) rfl rfl (.inl e70) ?_
      intro a70 hE e73 kp
      replace e70 := (kp 70 rfl).trans e70
      refine sq_skipg 74 hE k rfl (by rfl) (by rfl) rfl rfl (.inl e70) ?_
      intro a71 hE e74 kp
      replace e70 := (kp 70 rfl).trans e70
      replace e73 := (kp 73 rfl).trans e73
      refine sq_skipg 75 hE k rfl (by rfl) (by rfl) rfl rfl (.inl e70) ?_
      intro a72 hE e75 kp
      replace e70 := (kp 70 rfl).trans e70
      apply sq_det 76 hE k rfl (by rfl) (by rfl) rfl
      case h =>
        exact x_pick_t rfl e70 rfl
      intro a73 hE e76 kp
      refine wpList_nil ?_
      replace e0 := hE.eval 0 (by rfl) e0
      replace e1 := hE.eval 1 (by rfl) e1
      replace e2 := hE.eval 2 (by rfl) e2
      replace e3 := hE.eval 3 (by rfl) e3
      replace e10 := hE.eval 10 (by rfl) e10
      replace e11 := hE.eval 11 (by rfl) e11
      replace e12 := hE.eval 12 (by rfl) e12
      replace e13 := hE.eval 13 (by rfl) e13
      replace k := k.env hE
      clear hE
      refine then_n ?_
      refine cond_t e76 rfl ?_
      refine wp_seq ?_
      refine wp_region_lit ?_
      have hE := Env.refl a73 [77, 78, 79, 80, 81, 82, 8]
      apply sq_det 77 hE k rfl (by rfl) (by rfl) rfl
      case h =>
        exact x_move rfl (hE.eval 12 (by rfl) e12)
      intro a74 hE e77 kp
      apply sq_det 78 hE k rfl (by rfl) (by rfl) rfl
      case h =>
        simp [go_sem, ↓IntWalk.iteOmega, ev e77]
        with_reducible rfl
      intro a75 hE e78 kp
      apply sq_det 79 hE k rfl (by rfl) (by rfl) rfl
      case h =>
        exact x_move rfl e78
      intro a76 hE e79 kp
      apply sq_detg 80 hE k rfl (by rfl) (by rfl) rfl rfl e79
      case h =>
        exact x_move rfl (hE.eval 13 (by rfl) e13)
      intro a77 hE e80 kp
      replace e79 := (kp 79 rfl).trans e79
      apply sq_detg 81 hE k rfl (by rfl) (by rfl) rfl rfl e79
      case h =>
        exact x_eql rfl e80 rfl
      intro a78 hE e81 kp
      replace e79 := (kp 79 rfl).trans e79
      apply sq_det 82 hE k rfl (by rfl) (by rfl) rfl
      case h =>
        exact x_pick_t rfl e79 e81
      intro a79 hE e82 kp
      apply sq_det 8 hE k rfl (by rfl) (by rfl) rfl
      case h =>
        exact x_assign rfl e82
      intro a80 hE e8 kp
      refine wpList_nil ?_
      replace k := k.env hE
      clear hE e0 e1 e2 e3 e10 e11 e12 e13 e76
      refine then_n ?_
      refine wp_ret ?_
      refine then_r ?_
      refine ret_F1 rfl k e8 ?_
      exact ⟨rfl, O.below⟩
    by_cases hc1 : z ≤ 8
    rotate_left
    · skip
      refine wp_seq ?_
      refine wp_seq ?_
      refine wp_region_lit ?_
      have hE := Env.refl a53 [57, 58, 59, 60, 61, 62, 63, 64, 65, 66, 67, 68, 69, 70, 71, 72, 73, 74, 75, 76]
      apply sq_det 57 hE k rfl (by rfl) (by rfl) rfl
      case h =>
        exact x_move rfl (hE.eval 2 (by rfl) e2)
      intro a81 hE e57 kp
      apply sq_det 58 hE k rfl (by rfl) (by rfl) rfl
      case h =>
        exact x_dec (x_lss rfl e57 rfl) (decide_eq_false (by omega))
      intro a82 hE e58 kp
      apply sq_det 59 hE k rfl (by rfl) (by rfl) rfl
      case h =>
        exact x_move rfl e58
      intro a83 hE e59 kp
      apply sq_detg 60 hE k rfl (by rfl) (by rfl) rfl rfl e59
      case h =>
        exact x_move rfl (hE.eval 2 (by rfl) e2)
      intro a84 hE e60 kp
      replace e59 := (kp 59 rfl).trans e59
      apply sq_detg 61 hE k rfl (by rfl) (by rfl) rfl rfl e59
      case h =>
        exact x_dec (x_gtr rfl e60 rfl) (decide_eq_true (by omega))
      intro a85 hE e61 kp
      replace e59 := (kp 59 rfl).trans e59
      apply sq_det 62 hE k rfl (by rfl) (by rfl) rfl
      case h =>
        exact x_pick_f rfl e59 e61
      intro a86 hE e62 kp
      apply sq_det 63 hE k rfl (by rfl) (by rfl) rfl
      case h =>
        exact x_move rfl e62
      intro a87 hE e63 kp
      refine sq_skipg 64 hE k rfl (by rfl) (by rfl) rfl rfl (.inl e63) ?_
      intro a88 hE e64 kp
      replace e63 := (kp 63 rfl).trans e63
      refine sq_skipg 65 hE k rfl (by rfl) (by rfl) rfl rfl (.inl e63) ?_
      intro a89 hE e65 kp
      replace e63 := (kp 63 rfl).trans e63
      refine sq_skipg 66 hE k rfl (by rfl) (by rfl) rfl rfl (.inl e63) ?_
      intro a90 hE e66 kp
      replace e63 := (kp 63 rfl).trans e63
      refine sq_skipg 67 hE k rfl (by rfl) (by rfl) rfl rfl (.inl e63) ?_
      intro a91 hE e67 kp
      replace e63 := (kp 63 rfl).trans e63
      replace e66 := (kp 66 rfl).trans e66
      refine sq_skipg 68 hE k rfl (by rfl) (by rfl) rfl rfl (.inl e63) ?_
      intro a92 hE e68 kp
      replace e63 := (kp 63 rfl).trans e63
      apply sq_det 69 hE k rfl (by rfl) (by rfl) rfl
      case h =>
        exact x_pick_t rfl e63 rfl
      intro a93 hE e69 kp
      apply sq_det 70 hE k rfl (by rfl) (by rfl) rfl
      case h =>
        exact x_move rfl e69
      intro a94 hE e70 kp
      refine sq_skipg 71 hE k rfl (by rfl) (by rfl) rfl rfl (.inl e70) ?_
      intro a95 hE e71 kp
      replace e70 := (kp 70 rfl).trans e70
      refine sq_skipg 72 hE k rfl (by rfl) (by rfl) rfl rfl (.inl e70) ?_
      intro a96 hE e72 kp
      replace e70 := (kp 70 rfl).trans e70
      refine sq_skipg 73 hE k rfl (by rfl) (by rfl) rfl rfl (.inl e70) ?_
      intro a97 hE e73 kp
      replace e70 := (kp 70 rfl).trans e70
      refine sq_skipg 74 hE k rfl (by rfl) (by rfl) rfl rfl (.inl e70) ?_
      intro a98 hE e74 kp
      replace e70 := (kp 70 rfl).trans e70
      replace e73 := (kp 73 rfl).trans e73
      refine sq_skipg 75 hE k rfl (by rfl) (by rfl) rfl rfl (.inl e70) ?_
      intro a99 hE e75 kp
      replace e70 := (kp 70 rfl).trans e70
      apply sq_det 76 hE k rfl (by rfl) (by rfl) rfl
      case h =>
        exact x_pick_t rfl e70 rfl
      intro a100 hE e76 kp
      refine wpList_nil ?_
      replace e0 := hE.eval 0 (by rfl) e0
      replace e1 := hE.eval 1 (by rfl) e1
      replace e2 := hE.eval 2 (by rfl) e2
      replace e3 := hE.eval 3 (by rfl) e3
      replace e10 := hE.eval 10 (by rfl) e10
      replace e11 := hE.eval 11 (by rfl) e11
      replace e12 := hE.eval 12 (by rfl) e12
      replace e13 := hE.eval 13 (by rfl) e13
      replace k := k.env hE
      clear hE
      refine then_n ?_
      refine cond_t e76 rfl ?_
      refine wp_seq ?_
      refine wp_region_lit ?_
      have hE := Env.refl a100 [77, 78, 79, 80, 81, 82, 8]
      apply sq_det 77 hE k rfl (by rfl) (by rfl) rfl
      case h =>
        exact x_move rfl (hE.eval 12 (by rfl) e12)
      intro a101 hE e77 kp
      apply sq_det 78 hE k rfl (by rfl) (by rfl) rfl
      case h =>
        simp [go_sem, ↓IntWalk.iteOmega, ev e77]
        with_reducible rfl
      intro a102 hE e78 kp
      apply sq_det 79 hE k rfl (by rfl) (by rfl) rfl
      case h =>
        exact x_move rfl e78
      intro a103 hE e79 kp
      apply sq_detg 80 hE k rfl (by rfl) (by rfl) rfl rfl e79
      case h =>
        exact x_move rfl (hE.eval 13 (by rfl) e13)
      intro a104 hE e80 kp
      replace e79 := (kp 79 rfl).trans e79
      apply sq_detg 81 hE k rfl (by rfl) (by rfl) rfl rfl e79
      case h =>
        exact x_eql rfl e80 rfl
      intro a105 hE e81 kp
      replace e79 := (kp 79 rfl).trans e79
      apply sq_det 82 hE k rfl (by rfl) (by rfl) rfl
      case h =>
        exact x_pick_t rfl e79 e81
      intro a106 hE e82 kp
      apply sq_det 8 hE k rfl (by rfl) (by rfl) rfl
      case h =>
        exact x_assign rfl e82
      intro a107 hE e8 kp
      refine wpList_nil ?_
      replace k := k.env hE
      clear hE e0 e1 e2 e3 e10 e11 e12 e13 e76
      refine then_n ?_
      refine wp_ret ?_
      refine then_r ?_
      refine ret_F1 rfl k e8 ?_
      exact ⟨rfl, O.below⟩
    by_cases hc2 : z ≤ na
    rotate_left
    · skip
      refine wp_seq ?_
      refine wp_seq ?_
      refine wp_region_lit ?_
      have hE := Env.refl a53 [57, 58, 59, 60, 61, 62, 63, 64, 65, 66, 67, 68, 69, 70, 71, 72, 73, 74, 75, 76]
      apply sq_det 57 hE k rfl (by rfl) (by rfl) rfl
      case h =>
        exact x_move rfl (hE.eval 2 (by rfl) e2)
      intro a108 hE e57 kp
      apply sq_det 58 hE k rfl (by rfl) (by rfl) rfl
      case h =>
        exact x_dec (x_lss rfl e57 rfl) (decide_eq_false (by omega))
      intro a109 hE e58 kp
      apply sq_det 59 hE k rfl (by rfl) (by rfl) rfl
      case h =>
        exact x_move rfl e58
      intro a110 hE e59 kp
      apply sq_detg 60 hE k rfl (by rfl) (by rfl) rfl rfl e59
      case h =>
        exact x_move rfl (hE.eval 2 (by rfl) e2)
      intro a111 hE e60 kp
      replace e59 := (kp 59 rfl).trans e59
      apply sq_detg 61 hE k rfl (by rfl) (by rfl) rfl rfl e59
      case h =>
        exact x_dec (x_gtr rfl e60 rfl) (decide_eq_false (by omega))
      intro a112 hE e61 kp
      replace e59 := (kp 59 rfl).trans e59
      apply sq_det 62 hE k rfl (by rfl) (by rfl) rfl
      case h =>
        exact x_pick_f rfl e59 e61
      intro a113 hE e62 kp
      apply sq_det 63 hE k rfl (by rfl) (by rfl) rfl
      case h =>
        exact x_move rfl e62
      intro a114 hE e63 kp
      apply sq_detg 64 hE k rfl (by rfl) (by rfl) rfl rfl e63
      case h =>
        exact x_move rfl (hE.eval 0 (by rfl) e0)
      intro a115 hE e64 kp
      replace e63 := (kp 63 rfl).trans e63
      apply sq_detg 65 hE k rfl (by rfl) (by rfl) rfl rfl e63
      case h =>
        exact x_len_l Try.underlying9 rfl e64
      intro a116 hE e65 kp
      replace e63 := (kp 63 rfl).trans e63
      apply sq_detg 66 hE k rfl (by rfl) (by rfl) rfl rfl e63
      case h =>
        exact x_quoN (m := l1.length) (j := 16) rfl e65 rfl rfl (by decide) (by omega)
      intro a117 hE e66 kp
      replace e63 := (kp 63 rfl).trans e63
      replace e66 := e66.trans (int_eq (show ((l1.length / 16 : Nat) : Int) = (na : Int) by omega))
      apply sq_detg 67 hE k rfl (by rfl) (by rfl) rfl rfl e63
      case h =>
        exact x_move rfl (hE.eval 2 (by rfl) e2)
      intro a118 hE e67 kp
      replace e63 := (kp 63 rfl).trans e63
      replace e66 := (kp 66 rfl).trans e66
      apply sq_detg 68 hE k rfl (by rfl) (by rfl) rfl rfl e63
      case h =>
        exact x_dec (x_lss rfl e66 e67) (decide_eq_true (by omega))
      intro a119 hE e68 kp
      replace e63 := (kp 63 rfl).trans e63
      apply sq_det 69 hE k rfl (by rfl) (by rfl) rfl
      case h =>
        exact x_pick_f rfl e63 e68
      intro a120 hE e69 kp
      apply sq_det 70 hE k rfl (by rfl) (by rfl) rfl
      case h =>
        exact x_move rfl e69
      intro a121 hE e70 kp
      refine sq_skipg 71 hE k rfl (by rfl) (by rfl) rfl rfl (.inl e70) ?_
      intro a122 hE e71 kp
      replace e70 := (kp 70 rfl).trans e70
      refine sq_skipg 72 hE k rfl (by rfl) (by rfl) rfl rfl (.inl e70) ?_
      intro a123 hE e72 kp
      replace e70 := (kp 70 rfl).trans e70
      refine sq_skipg 73 hE k rfl (by rfl) (by rfl) rfl rfl (.inl e70) ?_
      intro a124 hE e73 kp
      replace e70 := (kp 70 rfl).trans e70
      refine sq_skipg 74 hE k rfl (by rfl) (by rfl) rfl rfl (.inl e70) ?_
      intro a125 hE e74 kp
      replace e70 := (kp 70 rfl).trans e70
      replace e73 := (kp 73 rfl).trans e73
      refine sq_skipg 75 hE k rfl (by rfl) (by rfl) rfl rfl (.inl e70) ?_
      intro a126 hE e75 kp
      replace e70 := (kp 70 rfl).trans e70
      apply sq_det 76 hE k rfl (by rfl) (by rfl) rfl
      case h =>
        exact x_pick_t rfl e70 rfl
      intro a127 hE e76 kp
      refine wpList_nil ?_
      replace e0 := hE.eval 0 (by rfl) e0
      replace e1 := hE.eval 1 (by rfl) e1
      replace e2 := hE.eval 2 (by rfl) e2
      replace e3 := hE.eval 3 (by rfl) e3
      replace e10 := hE.eval 10 (by rfl) e10
      replace e11 := hE.eval 11 (by rfl) e11
      replace e12 := hE.eval 12 (by rfl) e12
      replace e13 := hE.eval 13 (by rfl) e13
      replace k := k.env hE
      clear hE
      refine then_n ?_
      refine cond_t e76 rfl ?_
      refine wp_seq ?_
      refine wp_region_lit ?_
      have hE := Env.refl a127 [77, 78, 79, 80, 81, 82, 8]
      apply sq_det 77 hE k rfl (by rfl) (by rfl) rfl
      case h =>
        exact x_move rfl (hE.eval 12 (by rfl) e12)
      intro a128 hE e77 kp
      apply sq_det 78 hE k rfl (by rfl) (by rfl) rfl
      case h =>
        simp [go_sem, ↓IntWalk.iteOmega, ev e77]
        with_reducible rfl
      intro a129 hE e78 kp
      apply sq_det 79 hE k rfl (by rfl) (by rfl) rfl
      case h =>
        exact x_move rfl e78
      intro a130 hE e79 kp
      apply sq_detg 80 hE k rfl (by rfl) (by rfl) rfl rfl e79
      case h =>
        exact x_move rfl (hE.eval 13 (by rfl) e13)
      intro a131 hE e80 kp
      replace e79 := (kp 79 rfl).trans e79
      apply sq_detg 81 hE k rfl (by rfl) (by rfl) rfl rfl e79
      case h =>
        exact x_eql rfl e80 rfl
      intro a132 hE e81 kp
      replace e79 := (kp 79 rfl).trans e79
      apply sq_det 82 hE k rfl (by rfl) (by rfl) rfl
      case h =>
        exact x_pick_t rfl e79 e81
      intro a133 hE e82 kp
      apply sq_det 8 hE k rfl (by rfl) (by rfl) rfl
      case h =>
        exact x_assign rfl e82
      intro a134 hE e8 kp
      refine wpList_nil ?_
      replace k := k.env hE
      clear hE e0 e1 e2 e3 e10 e11 e12 e13 e76
      refine then_n ?_
      refine wp_ret ?_
      refine then_r ?_
      refine ret_F1 rfl k e8 ?_
      exact ⟨rfl, O.below⟩
    refine wp_seq ?_
    refine wp_seq ?_
    refine wp_region_lit ?_
    have hE := Env.refl a53 [57, 58, 59, 60, 61, 62, 63, 64, 65, 66, 67, 68, 69, 70, 71, 72, 73, 74, 75, 76]
    apply sq_det 57 hE k rfl (by rfl) (by rfl) rfl
    case h =>
      exact x_move rfl (hE.eval 2 (by rfl) e2)
    intro a135 hE e57 kp
    apply sq_det 58 hE k rfl (by rfl) (by rfl) rfl
    case h =>
      exact x_dec (x_lss rfl e57 rfl) (decide_eq_false (by omega))
    intro a136 hE e58 kp
    apply sq_det 59 hE k rfl (by rfl) (by rfl) rfl
    case h =>
      exact x_move rfl e58
    intro a137 hE e59 kp
    apply sq_detg 60 hE k rfl (by rfl) (by rfl) rfl rfl e59
    case h =>
      exact x_move rfl (hE.eval 2 (by rfl) e2)
    intro a138 hE e60 kp
    replace e59 := (kp 59 rfl).trans e59
    apply sq_detg 61 hE k rfl (by rfl) (by rfl) rfl rfl e59
    case h =>
      exact x_dec (x_gtr rfl e60 rfl) (decide_eq_false (by omega))
    intro a139 hE e61 kp
    replace e59 := (kp 59 rfl).trans e59
    apply sq_det 62 hE k rfl (by rfl) (by rfl) rfl
    case h =>
      exact x_pick_f rfl e59 e61
    intro a140 hE e62 kp
    apply sq_det 63 hE k rfl (by rfl) (by rfl) rfl
    case h =>
      exact x_move rfl e62
    intro a141 hE e63 kp
    apply sq_detg 64 hE k rfl (by rfl) (by rfl) rfl rfl e63
    case h =>
      exact x_move rfl (hE.eval 0 (by rfl) e0)
    intro a142 hE e64 kp
    replace e63 := (kp 63 rfl).trans e63
    apply sq_detg 65 hE k rfl (by rfl) (by rfl) rfl rfl e63
    case h =>
      exact x_len_l Try.underlying9 rfl e64
    intro a143 hE e65 kp
    replace e63 := (kp 63 rfl).trans e63
    apply sq_detg 66 hE k rfl (by rfl) (by rfl) rfl rfl e63
    case h =>
      exact x_quoN (m := l1.length) (j := 16) rfl e65 rfl rfl (by decide) (by omega)
    intro a144 hE e66 kp
    replace e63 := (kp 63 rfl).trans e63
    replace e66 := e66.trans (int_eq (show ((l1.length / 16 : Nat) : Int) = (na : Int) by omega))
    apply sq_detg 67 hE k rfl (by rfl) (by rfl) rfl rfl e63
    case h =>
      exact x_move rfl (hE.eval 2 (by rfl) e2)
    intro a145 hE e67 kp
    replace e63 := (kp 63 rfl).trans e63
    replace e66 := (kp 66 rfl).trans e66
    apply sq_detg 68 hE k rfl (by rfl) (by rfl) rfl rfl e63
    case h =>
      exact x_dec (x_lss rfl e66 e67) (decide_eq_false (by omega))
    intro a146 hE e68 kp
    replace e63 := (kp 63 rfl).trans e63
    apply sq_det 69 hE k rfl (by rfl) (by rfl) rfl
    case h =>
      exact x_pick_f rfl e63 e68
    intro a147 hE e69 kp
    apply sq_det 70 hE k rfl (by rfl) (by rfl) rfl
    case h =>
      exact x_move rfl e69
    intro a148 hE e70 kp
    apply sq_detg 71 hE k rfl (by rfl) (by rfl) rfl rfl e70
    case h =>
      exact x_move rfl (hE.eval 1 (by rfl) e1)
    intro a149 hE e71 kp
    replace e70 := (kp 70 rfl).trans e70
    apply sq_detg 72 hE k rfl (by rfl) (by rfl) rfl rfl e70
    case h =>
      exact x_len_l Try.underlying9 rfl e71
    intro a150 hE e72 kp
    replace e70 := (kp 70 rfl).trans e70
    apply sq_detg 73 hE k rfl (by rfl) (by rfl) rfl rfl e70
    case h =>
      exact x_quoN (m := l2.length) (j := 16) rfl e72 rfl rfl (by decide) (by omega)
    intro a151 hE e73 kp
    replace e70 := (kp 70 rfl).trans e70
    replace e73 := e73.trans (int_eq (show ((l2.length / 16 : Nat) : Int) = (nb : Int) by omega))
    apply sq_detg 74 hE k rfl (by rfl) (by rfl) rfl rfl e70
    case h =>
      exact x_move rfl (hE.eval 2 (by rfl) e2)
    intro a152 hE e74 kp
    replace e70 := (kp 70 rfl).trans e70
    replace e73 := (kp 73 rfl).trans e73
    apply sq_detg 75 hE k rfl (by rfl) (by rfl) rfl rfl e70
    case h =>
      exact x_dec (x_lss rfl e73 e74) (decide_eq_true (by omega))
    intro a153 hE e75 kp
    replace e70 := (kp 70 rfl).trans e70
    apply sq_det 76 hE k rfl (by rfl) (by rfl) rfl
    case h =>
      exact x_pick_f rfl e70 e75
    intro a154 hE e76 kp
    refine wpList_nil ?_
    replace e0 := hE.eval 0 (by rfl) e0
    replace e1 := hE.eval 1 (by rfl) e1
    replace e2 := hE.eval 2 (by rfl) e2
    replace e3 := hE.eval 3 (by rfl) e3
    replace e10 := hE.eval 10 (by rfl) e10
    replace e11 := hE.eval 11 (by rfl) e11
    replace e12 := hE.eval 12 (by rfl) e12
    replace e13 := hE.eval 13 (by rfl) e13
    replace k := k.env hE
    clear hE
    refine then_n ?_
    refine cond_t e76 rfl ?_
    refine wp_seq ?_
    refine wp_region_lit ?_
    have hE := Env.refl a154 [77, 78, 79, 80, 81, 82, 8]
    apply sq_det 77 hE k rfl (by rfl) (by rfl) rfl
    case h =>
      exact x_move rfl (hE.eval 12 (by rfl) e12)
    intro a155 hE e77 kp
    apply sq_det 78 hE k rfl (by rfl) (by rfl) rfl
    case h =>
      simp [go_sem, ↓IntWalk.iteOmega, ev e77]
      with_reducible rfl
    intro a156 hE e78 kp
    apply sq_det 79 hE k rfl (by rfl) (by rfl) rfl
    case h =>
      exact x_move rfl e78
    intro a157 hE e79 kp
    apply sq_detg 80 hE k rfl (by rfl) (by rfl) rfl rfl e79
    case h =>
      exact x_move rfl (hE.eval 13 (by rfl) e13)
    intro a158 hE e80 kp
    replace e79 := (kp 79 rfl).trans e79
    apply sq_detg 81 hE k rfl (by rfl) (by rfl) rfl rfl e79
    case h =>
      exact x_eql rfl e80 rfl
    intro a159 hE e81 kp
    replace e79 := (kp 79 rfl).trans e79
    apply sq_det 82 hE k rfl (by rfl) (by rfl) rfl
    case h =>
      exact x_pick_t rfl e79 e81
    intro a160 hE e82 kp
    apply sq_det 8 hE k rfl (by rfl) (by rfl) rfl
    case h =>
      exact x_assign rfl e82
    intro a161 hE e8 kp
    refine wpList_nil ?_
    replace k := k.env hE
    clear hE e0 e1 e2 e3 e10 e11 e12 e13 e76
    refine then_n ?_
    refine wp_ret ?_
    refine then_r ?_
    refine ret_F1 rfl k e8 ?_
    exact ⟨rfl, O.below⟩
  obtain ⟨sz, rfl⟩ := Int.eq_ofNat_of_zero_le (show 0 ≤ z by omega)
  have hs : 0 < sz := by omega
  have hz : sz ≤ 8 := by omega
  
  refine wp_seq ?_
  refine wp_region_lit ?_
  have hE := Env.refl a44 [51, 52, 53, 54, 50, 55, 56, 12, 13]
  apply sq_det 51 hE k rfl (by rfl) (by rfl) rfl
  case h =>
    exact x_move rfl (hE.eval 10 (by rfl) e10)
  intro a162 hE e51 kp
  apply sq_det 52 hE k rfl (by rfl) (by rfl) rfl
  case h =>
    exact x_move rfl (hE.eval 11 (by rfl) e11)
  intro a163 hE e52 kp
  replace e51 := (kp 51 rfl).trans e51
  apply sq_det 53 hE k rfl (by rfl) (by rfl) rfl
  case h =>
    exact x_move rfl (hE.eval 2 (by rfl) e2)
  intro a164 hE e53 kp
  replace e51 := (kp 51 rfl).trans e51
  replace e52 := (kp 52 rfl).trans e52
  apply sq_call 54 hE k rfl (by rfl) (by rfl) rfl
  case h =>
    simp [go_sem, ↓IntWalk.iteOmega, ev e51, ev e52, ev e53]
    with_reducible exact ⟨rfl, rfl⟩
  case hc => exact cnew_ok sz _ O (OwnT.discAt O 1 rfl) (OwnT.discAt O 0 rfl) (by omega)
  clear O
  rintro e w166 ⟨db, rfl, O⟩
  refine ⟨_, rfl, ?_⟩
  intro a165 hE e54 kp
  apply sq_det 50 hE k rfl (by rfl) (by rfl) rfl
  case h =>
    exact x_move rfl e54
  intro a167 hE e50 kp
  apply sq_det 55 hE k rfl (by rfl) (by rfl) rfl
  case h =>
    simp [go_sem, ↓IntWalk.iteOmega, ev e50]
    with_reducible rfl
  intro a168 hE e55 kp
  replace e50 := (kp 50 rfl).trans e50
  apply sq_det 56 hE k rfl (by rfl) (by rfl) rfl
  case h =>
    simp [go_sem, ↓IntWalk.iteOmega, ev e50]
    with_reducible rfl
  intro a169 hE e56 kp
  replace e55 := (kp 55 rfl).trans e55
  apply sq_det 12 hE k rfl (by rfl) (by rfl) rfl
  case h =>
    exact x_assign rfl e55
  intro a170 hE e12 kp
  replace e56 := (kp 56 rfl).trans e56
  apply sq_det 13 hE k rfl (by rfl) (by rfl) rfl
  case h =>
    exact x_assign rfl e56
  intro a171 hE e13 kp
  replace e12 := (kp 12 rfl).trans e12
  refine wpList_nil ?_
  replace e0 := hE.eval 0 (by rfl) e0
  replace e1 := hE.eval 1 (by rfl) e1
  replace e2 := hE.eval 2 (by rfl) e2
  replace e3 := hE.eval 3 (by rfl) e3
  replace e10 := hE.eval 10 (by rfl) e10
  replace e11 := hE.eval 11 (by rfl) e11
  replace k := k.env hE
  clear hE
  refine then_n ?_
  refine wp_seq ?_
  refine wp_seq ?_
  refine wp_region_lit ?_
  have hE := Env.refl a171 [57, 58, 59, 60, 61, 62, 63, 64, 65, 66, 67, 68, 69, 70, 71, 72, 73, 74, 75, 76]
  apply sq_det 57 hE k rfl (by rfl) (by rfl) rfl
  case h =>
    exact x_move rfl (hE.eval 2 (by rfl) e2)
  intro a172 hE e57 kp
  apply sq_det 58 hE k rfl (by rfl) (by rfl) rfl
  case h =>
    exact x_dec (x_lss rfl e57 rfl) (decide_eq_false (by omega))
  intro a173 hE e58 kp
  apply sq_det 59 hE k rfl (by rfl) (by rfl) rfl
  case h =>
    exact x_move rfl e58
  intro a174 hE e59 kp
  apply sq_detg 60 hE k rfl (by rfl) (by rfl) rfl rfl e59
  case h =>
    exact x_move rfl (hE.eval 2 (by rfl) e2)
  intro a175 hE e60 kp
  replace e59 := (kp 59 rfl).trans e59
  apply sq_detg 61 hE k rfl (by rfl) (by rfl) rfl rfl e59
  case h =>
    exact x_dec (x_gtr rfl e60 rfl) (decide_eq_false (by omega))
  intro a176 hE e61 kp
  replace e59 := (kp 59 rfl).trans e59
  apply sq_det 62 hE k rfl (by rfl) (by rfl) rfl
  case h =>
    exact x_pick_f rfl e59 e61
  intro a177 hE e62 kp
  apply sq_det 63 hE k rfl (by rfl) (by rfl) rfl
  case h =>
    exact x_move rfl e62
  intro a178 hE e63 kp
  apply sq_detg 64 hE k rfl (by rfl) (by rfl) rfl rfl e63
  case h =>
    exact x_move rfl (hE.eval 0 (by rfl) e0)
  intro a179 hE e64 kp
  replace e63 := (kp 63 rfl).trans e63
  apply sq_detg 65 hE k rfl (by rfl) (by rfl) rfl rfl e63
  case h =>
    exact x_len_l Try.underlying9 rfl e64
  intro a180 hE e65 kp
  replace e63 := (kp 63 rfl).trans e63
  apply sq_detg 66 hE k rfl (by rfl) (by rfl) rfl rfl e63
  case h =>
    exact x_quoN (m := l1.length) (j := 16) rfl e65 rfl rfl (by decide) (by omega)
  intro a181 hE e66 kp
  replace e63 := (kp 63 rfl).trans e63
  replace e66 := e66.trans (int_eq (show ((l1.length / 16 : Nat) : Int) = (na : Int) by omega))
  apply sq_detg 67 hE k rfl (by rfl) (by rfl) rfl rfl e63
  case h =>
    exact x_move rfl (hE.eval 2 (by rfl) e2)
  intro a182 hE e67 kp
  replace e63 := (kp 63 rfl).trans e63
  replace e66 := (kp 66 rfl).trans e66
  apply sq_detg 68 hE k rfl (by rfl) (by rfl) rfl rfl e63
  case h =>
    exact x_dec (x_lss rfl e66 e67) (decide_eq_false (by omega))
  intro a183 hE e68 kp
  replace e63 := (kp 63 rfl).trans e63
  apply sq_det 69 hE k rfl (by rfl) (by rfl) rfl
  case h =>
    exact x_pick_f rfl e63 e68
  intro a184 hE e69 kp
  apply sq_det 70 hE k rfl (by rfl) (by rfl) rfl
  case h =>
    exact x_move rfl e69
  intro a185 hE e70 kp
  apply sq_detg 71 hE k rfl (by rfl) (by rfl) rfl rfl e70
  case h =>
    exact x_move rfl (hE.eval 1 (by rfl) e1)
  intro a186 hE e71 kp
  replace e70 := (kp 70 rfl).trans e70
  apply sq_detg 72 hE k rfl (by rfl) (by rfl) rfl rfl e70
  case h =>
    exact x_len_l Try.underlying9 rfl e71
  intro a187 hE e72 kp
  replace e70 := (kp 70 rfl).trans e70
  apply sq_detg 73 hE k rfl (by rfl) (by rfl) rfl rfl e70
  case h =>
    exact x_quoN (m := l2.length) (j := 16) rfl e72 rfl rfl (by decide) (by omega)
  intro a188 hE e73 kp
  replace e70 := (kp 70 rfl).trans e70
  replace e73 := e73.trans (int_eq (show ((l2.length / 16 : Nat) : Int) = (nb : Int) by omega))
  apply sq_detg 74 hE k rfl (by rfl) (by rfl) rfl rfl e70
  case h =>
    exact x_move rfl (hE.eval 2 (by rfl) e2)
  intro a189 hE e74 kp
  replace e70 := (kp 70 rfl).trans e70
  replace e73 := (kp 73 rfl).trans e73
  apply sq_detg 75 hE k rfl (by rfl) (by rfl) rfl rfl e70
  case h =>
    exact x_dec (x_lss rfl e73 e74) (decide_eq_false (by omega))
  intro a190 hE e75 kp
  replace e70 := (kp 70 rfl).trans e70
  apply sq_det 76 hE k rfl (by rfl) (by rfl) rfl
  case h =>
    exact x_pick_f rfl e70 e75
  intro a191 hE e76 kp
  refine wpList_nil ?_
  replace e0 := hE.eval 0 (by rfl) e0
  replace e1 := hE.eval 1 (by rfl) e1
  replace e2 := hE.eval 2 (by rfl) e2
  replace e3 := hE.eval 3 (by rfl) e3
  replace e10 := hE.eval 10 (by rfl) e10
  replace e11 := hE.eval 11 (by rfl) e11
  replace e12 := hE.eval 12 (by rfl) e12
  replace e13 := hE.eval 13 (by rfl) e13
  replace k := k.env hE
  clear hE
  refine then_n ?_
  refine cond_f e76 rfl ?_
  refine wp_skip ?_
  refine then_n ?_
  refine wp_seq ?_
  refine wp_seq ?_
  refine wp_region_lit ?_
  have hE := Env.refl a191 [83, 84, 85, 86, 87, 88, 89, 90, 91, 92, 93, 94]
  apply sq_det 83 hE k rfl (by rfl) (by rfl) rfl
  case h =>
    exact x_move rfl (hE.eval 13 (by rfl) e13)
  intro a192 hE e83 kp
  apply sq_det 84 hE k rfl (by rfl) (by rfl) rfl
  case h =>
    exact x_neq rfl e83 rfl
  intro a193 hE e84 kp
  apply sq_det 85 hE k rfl (by rfl) (by rfl) rfl
  case h =>
    exact x_move rfl e84
  intro a194 hE e85 kp
  apply sq_detg 86 hE k rfl (by rfl) (by rfl) rfl rfl e85
  case h =>
    exact x_move rfl (hE.eval 12 (by rfl) e12)
  intro a195 hE e86 kp
  replace e85 := (kp 85 rfl).trans e85
  apply sq_detg 87 hE k rfl (by rfl) (by rfl) rfl rfl e85
  case h =>
    simp [go_sem, ↓IntWalk.iteOmega, ev e86]
    with_reducible rfl
  intro a196 hE e87 kp
  replace e85 := (kp 85 rfl).trans e85
  apply sq_det 88 hE k rfl (by rfl) (by rfl) rfl
  case h =>
    exact x_pick_f rfl e85 e87
  intro a197 hE e88 kp
  apply sq_det 89 hE k rfl (by rfl) (by rfl) rfl
  case h =>
    exact x_move rfl e88
  intro a198 hE e89 kp
  apply sq_detg 90 hE k rfl (by rfl) (by rfl) rfl rfl e89
  case h =>
    exact x_move rfl (hE.eval 12 (by rfl) e12)
  intro a199 hE e90 kp
  replace e89 := (kp 89 rfl).trans e89
  apply sq_callg 91 hE k rfl (by rfl) (by rfl) rfl rfl e89
  case h =>
    simp [go_sem, ↓IntWalk.iteOmega, ev e90]
    with_reducible exact ⟨rfl, rfl⟩
  case hc => exact csize_any _ (OwnT.blk O 0 rfl)
  rintro e _ ⟨rfl, rfl⟩
  refine ⟨_, rfl, ?_⟩
  intro a200 hE e91 kp
  replace e89 := (kp 89 rfl).trans e89
  apply sq_detg 92 hE k rfl (by rfl) (by rfl) rfl rfl e89
  case h =>
    exact x_move rfl (hE.eval 2 (by rfl) e2)
  intro a201 hE e92 kp
  replace e89 := (kp 89 rfl).trans e89
  replace e91 := (kp 91 rfl).trans e91
  apply sq_detg 93 hE k rfl (by rfl) (by rfl) rfl rfl e89
  case h =>
    exact x_dec (x_neq rfl e91 e92) (decide_eq_false (fun h => h rfl))
  intro a202 hE e93 kp
  replace e89 := (kp 89 rfl).trans e89
  apply sq_det 94 hE k rfl (by rfl) (by rfl) rfl
  case h =>
    exact x_pick_f rfl e89 e93
  intro a203 hE e94 kp
  refine wpList_nil ?_
  replace e0 := hE.eval 0 (by rfl) e0
  replace e1 := hE.eval 1 (by rfl) e1
  replace e2 := hE.eval 2 (by rfl) e2
  replace e3 := hE.eval 3 (by rfl) e3
  replace e10 := hE.eval 10 (by rfl) e10
  replace e11 := hE.eval 11 (by rfl) e11
  replace e12 := hE.eval 12 (by rfl) e12
  replace k := k.env hE
  clear hE e13 e76
  refine then_n ?_
  refine cond_f e94 rfl ?_
  refine wp_skip ?_
  refine then_n ?_
  refine wp_seq ?_
  refine wp_region_lit ?_
  have hE := Env.refl a203 [95, 96, 97, 98, 14]
  apply sq_det 95 hE k rfl (by rfl) (by rfl) rfl
  case h =>
    exact x_move rfl (hE.eval 0 (by rfl) e0)
  intro a204 hE e95 kp
  apply sq_det 96 hE k rfl (by rfl) (by rfl) rfl
  case h =>
    exact x_move rfl (hE.eval 1 (by rfl) e1)
  intro a205 hE e96 kp
  replace e95 := (kp 95 rfl).trans e95
  apply sq_det 97 hE k rfl (by rfl) (by rfl) rfl
  case h =>
    exact x_move rfl (hE.eval 2 (by rfl) e2)
  intro a206 hE e97 kp
  replace e95 := (kp 95 rfl).trans e95
  replace e96 := (kp 96 rfl).trans e96
  apply sq_call 98 hE k rfl (by rfl) (by rfl) rfl
  case h =>
    simp [go_sem, ↓IntWalk.iteOmega, ev e95, ev e96, ev e97]
    with_reducible exact ⟨rfl, rfl⟩
  case hc => exact rnew18_any l1 l2 na nb (sz : Int) _ O (by omega) (by omega) hna hnb
  clear O
  rintro e w208 ⟨ub, D1, c1, D2, c2, rfl, O⟩
  refine ⟨_, rfl, ?_⟩
  intro a207 hE e98 kp
  apply sq_det 14 hE k rfl (by rfl) (by rfl) rfl
  case h =>
    exact x_assign rfl e98
  intro a209 hE e14 kp
  refine wpList_nil ?_
  replace e2 := hE.eval 2 (by rfl) e2
  replace e3 := hE.eval 3 (by rfl) e3
  replace e10 := hE.eval 10 (by rfl) e10
  replace e11 := hE.eval 11 (by rfl) e11
  replace e12 := hE.eval 12 (by rfl) e12
  replace k := k.env hE
  clear hE e0 e1 e94
  refine then_n ?_
  replace O : OwnT _ _ ([tDisc p mb B na cap bm (secsL l1 na) (fun _ => none), tMn mb mn0, tDisc p2 mb B2 nb cap2 bm2 (secsL l2 nb) (fun _ => none), tBlk db 149 #[.pointer (some ⟨p, 0, none⟩), .pointer (some ⟨p2, 0, none⟩), .int .i64 ↑sz], tBlk ub 107 #[.slice D1 na c1, .slice D2 nb c2, .int .i64 ↑sz], tRow 9 1 (.slice D1 na c1) na (strsV (secsL l1 na)), tRow 9 1 (.slice D2 nb c2) nb (strsV (secsL l2 nb))]) w208 := OwnT.pick O [5, 6, 4, 3, 0, 1, 2] (by decide)
  have hO2 : OwnT W0.heap.size W0 ([tDisc p mb B na cap bm (secsL l1 na) (fun _ => none), tMn mb mn0, tDisc p2 mb B2 nb cap2 bm2 (secsL l2 nb) (fun _ => none), tBlk db 149 #[.pointer (some ⟨p, 0, none⟩), .pointer (some ⟨p2, 0, none⟩), .int .i64 ↑sz], tBlk ub 107 #[.slice D1 na c1, .slice D2 nb c2, .int .i64 ↑sz], tRow 9 1 (.slice D1 na c1) na (strsV (nowL (secsL l1 na) (fun _ => none))), tRow 9 1 (.slice D2 nb c2) nb (strsV (nowL (secsL l2 nb) (fun _ => none)))]) w208 := by rw [nowL_none, nowL_none]; exact O
  clear O
  have O := hO2
  clear hO2
  refine wp_seq ?_
  refine wp_seq ?_
  refine wp_region_lit ?_
  have hE := Env.refl a209 [15]
  apply sq_det 15 hE k rfl (by rfl) (by rfl) rfl
  case h =>
    exact x_assign rfl rfl
  intro a210 hE e15 kp
  refine wpList_nil ?_
  replace e2 := hE.eval 2 (by rfl) e2
  replace e3 := hE.eval 3 (by rfl) e3
  replace e10 := hE.eval 10 (by rfl) e10
  replace e11 := hE.eval 11 (by rfl) e11
  replace e12 := hE.eval 12 (by rfl) e12
  replace e14 := hE.eval 14 (by rfl) e14
  replace k := k.env hE
  clear hE
  refine then_n ?_
  refine wp_block ?_
  refine wp_loop (fun a w => Fr 479 a ∧ a.eval (.tmp 2) = .int .i64 ↑sz ∧ a.eval (.tmp 3) = .slice A len capA ∧ a.eval (.tmp 10) = .pointer (some ⟨p, 0, none⟩) ∧ a.eval (.tmp 11) = .pointer (some ⟨p2, 0, none⟩) ∧ a.eval (.tmp 12) = .pointer (some ⟨db, 0, none⟩) ∧ a.eval (.tmp 14) = .pointer (some ⟨ub, 0, none⟩) ∧ ∃ (i : Nat) (Sa Sb : List Sec) (La Lb : Int → Option Sec) (M : Mn), a.eval (.tmp 15) = .int .i64 ↑i ∧ i ≤ len ∧ i ≤ 60 ∧ M.Free ∧ M.Ok (1 + 20 * (i : Int)) ∧ OwnT W0.heap.size W0 [tDisc p mb B na cap bm Sa La, tMn mb M, tDisc p2 mb B2 nb cap2 bm2 Sb Lb, tBlk db 149 #[.pointer (some ⟨p, 0, none⟩), .pointer (some ⟨p2, 0, none⟩), .int .i64 ↑sz], tBlk ub 107 #[.slice D1 na c1, .slice D2 nb c2, .int .i64 ↑sz], tRow 9 1 (.slice D1 na c1) na (strsV (nowL Sa La)), tRow 9 1 (.slice D2 nb c2) nb (strsV (nowL Sb Lb))] w) (fun a w => len - (intOf (a.eval (.tmp 15))).toNat) ?_ ?_
  · exact ⟨k, e2, e3, e10, e11, e12, e14, 0, _, _, _, _, _, e15, Nat.zero_le _, Nat.zero_le _, mn0_free, mn0_ok.mono (by omega), O⟩
  intro a211 w212 hI
  clear k e2 e3 e10 e11 e12 e14
  obtain ⟨k, e2, e3, e10, e11, e12, e14, h_⟩ := hI
  clear O e15
  obtain ⟨i, Sa, Sb, La, Lb, M, e15, hi, hi60, hF, hM, O⟩ := h_
  have mi := e15
  by_cases hlt : i < len
  rotate_left
  · skip
    refine wp_seq ?_
    refine wp_seq ?_
    refine wp_region_lit ?_
    have hE := Env.refl a211 [99, 100, 101, 102, 103, 104, 105, 106]
    apply sq_det 99 hE k rfl (by rfl) (by rfl) rfl
    case h =>
      exact x_move rfl (hE.eval 15 (by rfl) e15)
    intro a213 hE e99 kp
    apply sq_det 100 hE k rfl (by rfl) (by rfl) rfl
    case h =>
      exact x_move rfl (hE.eval 3 (by rfl) e3)
    intro a214 hE e100 kp
    replace e99 := (kp 99 rfl).trans e99
    apply sq_det 101 hE k rfl (by rfl) (by rfl) rfl
    case h =>
      exact x_len Try.underlying97 rfl e100
    intro a215 hE e101 kp
    replace e99 := (kp 99 rfl).trans e99
    apply sq_det 102 hE k rfl (by rfl) (by rfl) rfl
    case h =>
      exact x_dec (x_lss rfl e99 e101) (decide_eq_false (by omega))
    intro a216 hE e102 kp
    apply sq_det 103 hE k rfl (by rfl) (by rfl) rfl
    case h =>
      exact x_move rfl e102
    intro a217 hE e103 kp
    refine sq_skipg 104 hE k rfl (by rfl) (by rfl) rfl rfl (.inl e103) ?_
    intro a218 hE e104 kp
    replace e103 := (kp 103 rfl).trans e103
    refine sq_skipg 105 hE k rfl (by rfl) (by rfl) rfl rfl (.inl e103) ?_
    intro a219 hE e105 kp
    replace e103 := (kp 103 rfl).trans e103
    apply sq_det 106 hE k rfl (by rfl) (by rfl) rfl
    case h =>
      exact x_pick_f rfl e103 rfl
    intro a220 hE e106 kp
    refine wpList_nil ?_
    replace e2 := hE.eval 2 (by rfl) e2
    replace e3 := hE.eval 3 (by rfl) e3
    replace e10 := hE.eval 10 (by rfl) e10
    replace e11 := hE.eval 11 (by rfl) e11
    replace e12 := hE.eval 12 (by rfl) e12
    replace e14 := hE.eval 14 (by rfl) e14
    replace e15 := hE.eval 15 (by rfl) e15
    replace k := k.env hE
    clear hE
    refine then_n ?_
    refine cond_f e106 rfl ?_
    refine wp_exit ?_
    refine then_x ?_
    refine then_x ?_
    refine block_x ?_
    refine then_n ?_
    have hDA := (OwnT.discAt O 0 rfl).ok
    have hDB := (OwnT.discAt O 2 rfl).ok
    have hnA := hDA.le
    have hnB := hDB.le
    refine wp_seq ?_
    refine wp_region_lit ?_
    have hE := Env.refl a220 [457, 458, 459, 460, 461, 462, 463, 464, 465, 466, 467, 468, 469, 470, 471, 472, 473, 474, 475, 476, 477, 478, 8]
    apply sq_det 457 hE k rfl (by rfl) (by rfl) rfl
    case h =>
      exact x_move rfl (hE.eval 12 (by rfl) e12)
    intro a221 hE e457 kp
    apply sq_call 458 hE k rfl (by rfl) (by rfl) rfl
    case h =>
      simp [go_sem, ↓IntWalk.iteOmega, ev e457]
      with_reducible exact ⟨rfl, rfl⟩
    case hc => exact cslots_0 _ (OwnT.discAt O 0 rfl) (OwnT.blk O 3 rfl) hs
    rintro e w223 ⟨rfl, R⟩
    replace O := OwnT.ext O R
    refine ⟨_, rfl, ?_⟩
    intro a222 hE e458 kp
    apply sq_det 459 hE k rfl (by rfl) (by rfl) rfl
    case h =>
      exact x_move rfl (hE.eval 14 (by rfl) e14)
    intro a224 hE e459 kp
    replace e458 := (kp 458 rfl).trans e458
    apply sq_call 460 hE k rfl (by rfl) (by rfl) rfl
    case h =>
      simp [go_sem, ↓IntWalk.iteOmega, ev e459]
      with_reducible exact ⟨rfl, rfl⟩
    case hc => exact rslots18_0 _ (OwnT.blk O 4 rfl) hs (by omega)
    rintro e w226 ⟨rfl, R⟩
    replace O := OwnT.ext O R
    refine ⟨_, rfl, ?_⟩
    intro a225 hE e460 kp
    replace e458 := (kp 458 rfl).trans e458
    apply sq_det 461 hE k rfl (by rfl) (by rfl) rfl
    case h =>
      exact x_dec (x_eql rfl e458 e460) (decide_eq_true rfl)
    intro a227 hE e461 kp
    apply sq_det 462 hE k rfl (by rfl) (by rfl) rfl
    case h =>
      exact x_move rfl e461
    intro a228 hE e462 kp
    apply sq_detg 463 hE k rfl (by rfl) (by rfl) rfl rfl e462
    case h =>
      exact x_move rfl (hE.eval 12 (by rfl) e12)
    intro a229 hE e463 kp
    replace e462 := (kp 462 rfl).trans e462
    apply sq_callg 464 hE k rfl (by rfl) (by rfl) rfl rfl e462
    case h =>
      simp [go_sem, ↓IntWalk.iteOmega, ev e463]
      with_reducible exact ⟨rfl, rfl⟩
    case hc => exact cslots_1 _ (OwnT.discAt O 2 rfl) (OwnT.blk O 3 rfl) hs
    rintro e w231 ⟨rfl, R⟩
    replace O := OwnT.ext O R
    refine ⟨_, rfl, ?_⟩
    intro a230 hE e464 kp
    replace e462 := (kp 462 rfl).trans e462
    apply sq_detg 465 hE k rfl (by rfl) (by rfl) rfl rfl e462
    case h =>
      exact x_move rfl (hE.eval 14 (by rfl) e14)
    intro a232 hE e465 kp
    replace e462 := (kp 462 rfl).trans e462
    replace e464 := (kp 464 rfl).trans e464
    apply sq_callg 466 hE k rfl (by rfl) (by rfl) rfl rfl e462
    case h =>
      simp [go_sem, ↓IntWalk.iteOmega, ev e465]
      with_reducible exact ⟨rfl, rfl⟩
    case hc => exact rslots18_1 _ (OwnT.blk O 4 rfl) hs (by omega)
    rintro e w234 ⟨rfl, R⟩
    replace O := OwnT.ext O R
    refine ⟨_, rfl, ?_⟩
    intro a233 hE e466 kp
    replace e462 := (kp 462 rfl).trans e462
    replace e464 := (kp 464 rfl).trans e464
    apply sq_detg 467 hE k rfl (by rfl) (by rfl) rfl rfl e462
    case h =>
      exact x_dec (x_eql rfl e464 e466) (decide_eq_true rfl)
    intro a235 hE e467 kp
    replace e462 := (kp 462 rfl).trans e462
    apply sq_det 468 hE k rfl (by rfl) (by rfl) rfl
    case h =>
      exact x_pick_t rfl e462 e467
    intro a236 hE e468 kp
    apply sq_det 469 hE k rfl (by rfl) (by rfl) rfl
    case h =>
      exact x_move rfl e468
    intro a237 hE e469 kp
    apply sq_detg 470 hE k rfl (by rfl) (by rfl) rfl rfl e469
    case h =>
      exact x_move rfl (hE.eval 12 (by rfl) e12)
    intro a238 hE e470 kp
    replace e469 := (kp 469 rfl).trans e469
    apply sq_callg 471 hE k rfl (by rfl) (by rfl) rfl rfl e469
    case h =>
      simp [go_sem, ↓IntWalk.iteOmega, ev e470]
      with_reducible exact ⟨rfl, rfl⟩
    case hc => exact cslots_bad db 2 _ (by decide) (by decide)
    rintro e _ ⟨rfl, rfl⟩
    refine ⟨_, rfl, ?_⟩
    intro a239 hE e471 kp
    replace e469 := (kp 469 rfl).trans e469
    apply sq_detg 472 hE k rfl (by rfl) (by rfl) rfl rfl e469
    case h =>
      exact x_eql rfl e471 rfl
    intro a240 hE e472 kp
    replace e469 := (kp 469 rfl).trans e469
    apply sq_det 473 hE k rfl (by rfl) (by rfl) rfl
    case h =>
      exact x_pick_t rfl e469 e472
    intro a241 hE e473 kp
    apply sq_det 474 hE k rfl (by rfl) (by rfl) rfl
    case h =>
      exact x_move rfl e473
    intro a242 hE e474 kp
    apply sq_detg 475 hE k rfl (by rfl) (by rfl) rfl rfl e474
    case h =>
      exact x_move rfl (hE.eval 12 (by rfl) e12)
    intro a243 hE e475 kp
    replace e474 := (kp 474 rfl).trans e474
    apply sq_callg 476 hE k rfl (by rfl) (by rfl) rfl rfl e474
    case h =>
      simp [go_sem, ↓IntWalk.iteOmega, ev e475]
      with_reducible exact ⟨rfl, rfl⟩
    case hc => exact cloose_bad db (-1) _ (by decide) (by decide)
    rintro e _ ⟨rfl, rfl⟩
    refine ⟨_, rfl, ?_⟩
    intro a244 hE e476 kp
    replace e474 := (kp 474 rfl).trans e474
    apply sq_detg 477 hE k rfl (by rfl) (by rfl) rfl rfl e474
    case h =>
      exact x_eql rfl e476 rfl
    intro a245 hE e477 kp
    replace e474 := (kp 474 rfl).trans e474
    apply sq_det 478 hE k rfl (by rfl) (by rfl) rfl
    case h =>
      exact x_pick_t rfl e474 e477
    intro a246 hE e478 kp
    apply sq_det 8 hE k rfl (by rfl) (by rfl) rfl
    case h =>
      exact x_assign rfl e478
    intro a247 hE e8 kp
    refine wpList_nil ?_
    replace k := k.env hE
    clear hE e2 e3 e10 e11 e12 e14 e15 e106
    refine then_n ?_
    refine wp_ret ?_
    refine ret_F1 rfl k e8 ?_
    exact ⟨rfl, O.below⟩
  by_cases h60 : i < 60
  rotate_left
  · skip
    refine wp_seq ?_
    refine wp_seq ?_
    refine wp_region_lit ?_
    have hE := Env.refl a211 [99, 100, 101, 102, 103, 104, 105, 106]
    apply sq_det 99 hE k rfl (by rfl) (by rfl) rfl
    case h =>
      exact x_move rfl (hE.eval 15 (by rfl) e15)
    intro a248 hE e99 kp
    apply sq_det 100 hE k rfl (by rfl) (by rfl) rfl
    case h =>
      exact x_move rfl (hE.eval 3 (by rfl) e3)
    intro a249 hE e100 kp
    replace e99 := (kp 99 rfl).trans e99
    apply sq_det 101 hE k rfl (by rfl) (by rfl) rfl
    case h =>
      exact x_len Try.underlying97 rfl e100
    intro a250 hE e101 kp
    replace e99 := (kp 99 rfl).trans e99
    apply sq_det 102 hE k rfl (by rfl) (by rfl) rfl
    case h =>
      exact x_dec (x_lss rfl e99 e101) (decide_eq_true (by omega))
    intro a251 hE e102 kp
    apply sq_det 103 hE k rfl (by rfl) (by rfl) rfl
    case h =>
      exact x_move rfl e102
    intro a252 hE e103 kp
    apply sq_detg 104 hE k rfl (by rfl) (by rfl) rfl rfl e103
    case h =>
      exact x_move rfl (hE.eval 15 (by rfl) e15)
    intro a253 hE e104 kp
    replace e103 := (kp 103 rfl).trans e103
    apply sq_detg 105 hE k rfl (by rfl) (by rfl) rfl rfl e103
    case h =>
      exact x_dec (x_lss rfl e104 rfl) (decide_eq_false (by omega))
    intro a254 hE e105 kp
    replace e103 := (kp 103 rfl).trans e103
    apply sq_det 106 hE k rfl (by rfl) (by rfl) rfl
    case h =>
      exact x_pick_t rfl e103 e105
    intro a255 hE e106 kp
    refine wpList_nil ?_
    replace e2 := hE.eval 2 (by rfl) e2
    replace e3 := hE.eval 3 (by rfl) e3
    replace e10 := hE.eval 10 (by rfl) e10
    replace e11 := hE.eval 11 (by rfl) e11
    replace e12 := hE.eval 12 (by rfl) e12
    replace e14 := hE.eval 14 (by rfl) e14
    replace e15 := hE.eval 15 (by rfl) e15
    replace k := k.env hE
    clear hE
    refine then_n ?_
    refine cond_f e106 rfl ?_
    refine wp_exit ?_
    refine then_x ?_
    refine then_x ?_
    refine block_x ?_
    refine then_n ?_
    have hDA := (OwnT.discAt O 0 rfl).ok
    have hDB := (OwnT.discAt O 2 rfl).ok
    have hnA := hDA.le
    have hnB := hDB.le
    refine wp_seq ?_
    refine wp_region_lit ?_
    have hE := Env.refl a255 [457, 458, 459, 460, 461, 462, 463, 464, 465, 466, 467, 468, 469, 470, 471, 472, 473, 474, 475, 476, 477, 478, 8]
    apply sq_det 457 hE k rfl (by rfl) (by rfl) rfl
    case h =>
      exact x_move rfl (hE.eval 12 (by rfl) e12)
    intro a256 hE e457 kp
    apply sq_call 458 hE k rfl (by rfl) (by rfl) rfl
    case h =>
      simp [go_sem, ↓IntWalk.iteOmega, ev e457]
      with_reducible exact ⟨rfl, rfl⟩
    case hc => exact cslots_0 _ (OwnT.discAt O 0 rfl) (OwnT.blk O 3 rfl) hs
    rintro e w258 ⟨rfl, R⟩
    replace O := OwnT.ext O R
    refine ⟨_, rfl, ?_⟩
    intro a257 hE e458 kp
    apply sq_det 459 hE k rfl (by rfl) (by rfl) rfl
    case h =>
      exact x_move rfl (hE.eval 14 (by rfl) e14)
    intro a259 hE e459 kp
    replace e458 := (kp 458 rfl).trans e458
    apply sq_call 460 hE k rfl (by rfl) (by rfl) rfl
    case h =>
      simp [go_sem, ↓IntWalk.iteOmega, ev e459]
      with_reducible exact ⟨rfl, rfl⟩
    case hc => exact rslots18_0 _ (OwnT.blk O 4 rfl) hs (by omega)
    rintro e w261 ⟨rfl, R⟩
    replace O := OwnT.ext O R
    refine ⟨_, rfl, ?_⟩
    intro a260 hE e460 kp
    replace e458 := (kp 458 rfl).trans e458
    apply sq_det 461 hE k rfl (by rfl) (by rfl) rfl
    case h =>
      exact x_dec (x_eql rfl e458 e460) (decide_eq_true rfl)
    intro a262 hE e461 kp
    apply sq_det 462 hE k rfl (by rfl) (by rfl) rfl
    case h =>
      exact x_move rfl e461
    intro a263 hE e462 kp
    apply sq_detg 463 hE k rfl (by rfl) (by rfl) rfl rfl e462
    case h =>
      exact x_move rfl (hE.eval 12 (by rfl) e12)
    intro a264 hE e463 kp
    replace e462 := (kp 462 rfl).trans e462
    apply sq_callg 464 hE k rfl (by rfl) (by rfl) rfl rfl e462
    case h =>
      simp [go_sem, ↓IntWalk.iteOmega, ev e463]
      with_reducible exact ⟨rfl, rfl⟩
    case hc => exact cslots_1 _ (OwnT.discAt O 2 rfl) (OwnT.blk O 3 rfl) hs
    rintro e w266 ⟨rfl, R⟩
    replace O := OwnT.ext O R
    refine ⟨_, rfl, ?_⟩
    intro a265 hE e464 kp
    replace e462 := (kp 462 rfl).trans e462
    apply sq_detg 465 hE k rfl (by rfl) (by rfl) rfl rfl e462
    case h =>
      exact x_move rfl (hE.eval 14 (by rfl) e14)
    intro a267 hE e465 kp
    replace e462 := (kp 462 rfl).trans e462
    replace e464 := (kp 464 rfl).trans e464
    apply sq_callg 466 hE k rfl (by rfl) (by rfl) rfl rfl e462
    case h =>
      simp [go_sem, ↓IntWalk.iteOmega, ev e465]
      with_reducible exact ⟨rfl, rfl⟩
    case hc => exact rslots18_1 _ (OwnT.blk O 4 rfl) hs (by omega)
    rintro e w269 ⟨rfl, R⟩
    replace O := OwnT.ext O R
    refine ⟨_, rfl, ?_⟩
    intro a268 hE e466 kp
    replace e462 := (kp 462 rfl).trans e462
    replace e464 := (kp 464 rfl).trans e464
    apply sq_detg 467 hE k rfl (by rfl) (by rfl) rfl rfl e462
    case h =>
      exact x_dec (x_eql rfl e464 e466) (decide_eq_true rfl)
    intro a270 hE e467 kp
    replace e462 := (kp 462 rfl).trans e462
    apply sq_det 468 hE k rfl (by rfl) (by rfl) rfl
    case h =>
      exact x_pick_t rfl e462 e467
    intro a271 hE e468 kp
    apply sq_det 469 hE k rfl (by rfl) (by rfl) rfl
    case h =>
      exact x_move rfl e468
    intro a272 hE e469 kp
    apply sq_detg 470 hE k rfl (by rfl) (by rfl) rfl rfl e469
    case h =>
      exact x_move rfl (hE.eval 12 (by rfl) e12)
    intro a273 hE e470 kp
    replace e469 := (kp 469 rfl).trans e469
    apply sq_callg 471 hE k rfl (by rfl) (by rfl) rfl rfl e469
    case h =>
      simp [go_sem, ↓IntWalk.iteOmega, ev e470]
      with_reducible exact ⟨rfl, rfl⟩
    case hc => exact cslots_bad db 2 _ (by decide) (by decide)
    rintro e _ ⟨rfl, rfl⟩
    refine ⟨_, rfl, ?_⟩
    intro a274 hE e471 kp
    replace e469 := (kp 469 rfl).trans e469
    apply sq_detg 472 hE k rfl (by rfl) (by rfl) rfl rfl e469
    case h =>
      exact x_eql rfl e471 rfl
    intro a275 hE e472 kp
    replace e469 := (kp 469 rfl).trans e469
    apply sq_det 473 hE k rfl (by rfl) (by rfl) rfl
    case h =>
      exact x_pick_t rfl e469 e472
    intro a276 hE e473 kp
    apply sq_det 474 hE k rfl (by rfl) (by rfl) rfl
    case h =>
      exact x_move rfl e473
    intro a277 hE e474 kp
    apply sq_detg 475 hE k rfl (by rfl) (by rfl) rfl rfl e474
    case h =>
      exact x_move rfl (hE.eval 12 (by rfl) e12)
    intro a278 hE e475 kp
    replace e474 := (kp 474 rfl).trans e474
    apply sq_callg 476 hE k rfl (by rfl) (by rfl) rfl rfl e474
    case h =>
      simp [go_sem, ↓IntWalk.iteOmega, ev e475]
      with_reducible exact ⟨rfl, rfl⟩
    case hc => exact cloose_bad db (-1) _ (by decide) (by decide)
    rintro e _ ⟨rfl, rfl⟩
    refine ⟨_, rfl, ?_⟩
    intro a279 hE e476 kp
    replace e474 := (kp 474 rfl).trans e474
    apply sq_detg 477 hE k rfl (by rfl) (by rfl) rfl rfl e474
    case h =>
      exact x_eql rfl e476 rfl
    intro a280 hE e477 kp
    replace e474 := (kp 474 rfl).trans e474
    apply sq_det 478 hE k rfl (by rfl) (by rfl) rfl
    case h =>
      exact x_pick_t rfl e474 e477
    intro a281 hE e478 kp
    apply sq_det 8 hE k rfl (by rfl) (by rfl) rfl
    case h =>
      exact x_assign rfl e478
    intro a282 hE e8 kp
    refine wpList_nil ?_
    replace k := k.env hE
    clear hE e2 e3 e10 e11 e12 e14 e15 e106
    refine then_n ?_
    refine wp_ret ?_
    refine ret_F1 rfl k e8 ?_
    exact ⟨rfl, O.below⟩
  obtain ⟨g, off, rfl, -, hc⟩ := hrow.in_ O.below (i := i) (by omega)
  generalize xs[i]'(by omega) = x at hc
  obtain ⟨K, ⟨t, x⟩, ⟨t2, x2⟩, y, N, b⟩ := x
  
  have d0 : w212.cell? ⟨g, off + i * 8, none⟩ = some (.int .i64 K) := hc 0 _ rfl
  have d1 : w212.cell? ⟨g, off + i * 8 + 1, none⟩ = some (.int .i64 t) := hc 1 _ rfl
  have d2 : w212.cell? ⟨g, off + i * 8 + 2, none⟩ = some (.int .i64 x) := hc 2 _ rfl
  have d3 : w212.cell? ⟨g, off + i * 8 + 3, none⟩ = some (.int .i64 t2) := hc 3 _ rfl
  have d4 : w212.cell? ⟨g, off + i * 8 + 4, none⟩ = some (.int .i64 x2) := hc 4 _ rfl
  have d5 : w212.cell? ⟨g, off + i * 8 + 5, none⟩ = some (.int .i64 y) := hc 5 _ rfl
  have d6 : w212.cell? ⟨g, off + i * 8 + 6, none⟩ = some (.int .i64 N) := hc 6 _ rfl
  have d7 : w212.cell? ⟨g, off + i * 8 + 7, none⟩ = some (.int .u8 (b.toNat : Int)) := hc 7 _ rfl
  clear hc
  have hiI : (i : Int) < (len : Int) := by omega
  obtain ⟨m, hm⟩ : ∃ m, uN N % 10 = m := ⟨_, rfl⟩
  have hm10 : m ≤ 10 := by omega
  refine wp_seq ?_
  refine wp_seq ?_
  refine wp_region_lit ?_
  have hE := Env.refl a211 [99, 100, 101, 102, 103, 104, 105, 106]
  apply sq_det 99 hE k rfl (by rfl) (by rfl) rfl
  case h =>
    exact x_move rfl (hE.eval 15 (by rfl) e15)
  intro a283 hE e99 kp
  apply sq_det 100 hE k rfl (by rfl) (by rfl) rfl
  case h =>
    exact x_move rfl (hE.eval 3 (by rfl) e3)
  intro a284 hE e100 kp
  replace e99 := (kp 99 rfl).trans e99
  apply sq_det 101 hE k rfl (by rfl) (by rfl) rfl
  case h =>
    exact x_len Try.underlying97 rfl e100
  intro a285 hE e101 kp
  replace e99 := (kp 99 rfl).trans e99
  apply sq_det 102 hE k rfl (by rfl) (by rfl) rfl
  case h =>
    exact x_dec (x_lss rfl e99 e101) (decide_eq_true (by omega))
  intro a286 hE e102 kp
  apply sq_det 103 hE k rfl (by rfl) (by rfl) rfl
  case h =>
    exact x_move rfl e102
  intro a287 hE e103 kp
  apply sq_detg 104 hE k rfl (by rfl) (by rfl) rfl rfl e103
  case h =>
    exact x_move rfl (hE.eval 15 (by rfl) e15)
  intro a288 hE e104 kp
  replace e103 := (kp 103 rfl).trans e103
  apply sq_detg 105 hE k rfl (by rfl) (by rfl) rfl rfl e103
  case h =>
    exact x_dec (x_lss rfl e104 rfl) (decide_eq_true (by omega))
  intro a289 hE e105 kp
  replace e103 := (kp 103 rfl).trans e103
  apply sq_det 106 hE k rfl (by rfl) (by rfl) rfl
  case h =>
    exact x_pick_t rfl e103 e105
  intro a290 hE e106 kp
  refine wpList_nil ?_
  replace e2 := hE.eval 2 (by rfl) e2
  replace e3 := hE.eval 3 (by rfl) e3
  replace e10 := hE.eval 10 (by rfl) e10
  replace e11 := hE.eval 11 (by rfl) e11
  replace e12 := hE.eval 12 (by rfl) e12
  replace e14 := hE.eval 14 (by rfl) e14
  replace e15 := hE.eval 15 (by rfl) e15
  replace k := k.env hE
  clear hE
  refine then_n ?_
  refine cond_t e106 rfl ?_
  refine wp_skip ?_
  refine then_n ?_
  refine wp_seq ?_
  refine wp_block ?_
  refine wp_seq ?_
  refine wp_region_lit ?_
  have hE := Env.refl a290 [109, 110, 111, 112, 16]
  apply sq_det 109 hE k rfl (by rfl) (by rfl) rfl
  case h =>
    exact x_move rfl (hE.eval 3 (by rfl) e3)
  intro a291 hE e109 kp
  apply sq_det 110 hE k rfl (by rfl) (by rfl) rfl
  case h =>
    exact x_move rfl (hE.eval 15 (by rfl) e15)
  intro a292 hE e110 kp
  replace e109 := (kp 109 rfl).trans e109
  apply sq_det 111 hE k rfl (by rfl) (by rfl) rfl
  case h =>
    simp [go_sem, ↓IntWalk.iteOmega, ev e109, ev e110]
    with_reducible rfl
  intro a293 hE e111 kp
  apply sq_det 112 hE k rfl (by rfl) (by rfl) rfl
  case h =>
    simp [go_sem, ↓IntWalk.iteOmega, ev e111, d0, d1, d2, d3, d4, d5, d6, d7]
    with_reducible rfl
  intro a294 hE e112 kp
  refine sq_new O (cs := #[.int .i64 0, .int .i64 0, .int .i64 0, .int .i64 0, .int .i64 0, .int .i64 0, .int .i64 0, .int .u8 0]) (t := 101) 16 hE k rfl (by rfl) (by rfl) rfl (by simp [go_sem, ↓IntWalk.iteOmega]) ?_
  clear O
  intro xb a295 w296 O hE e16 kp
  replace e112 := (kp 112 rfl).trans e112
  have q0 : w296.cell? ⟨xb, 0, none⟩ = some (.int .i64 0) := (OwnT.blk O 0 rfl).cell 0
  have z0 : w296.frozen? ⟨xb, 0, none⟩ = false := (OwnT.blk O 0 rfl).frozen 0
  have q1 : w296.cell? ⟨xb, 1, none⟩ = some (.int .i64 0) := (OwnT.blk O 0 rfl).cell 1
  have z1 : w296.frozen? ⟨xb, 1, none⟩ = false := (OwnT.blk O 0 rfl).frozen 1
  have q2 : w296.cell? ⟨xb, 2, none⟩ = some (.int .i64 0) := (OwnT.blk O 0 rfl).cell 2
  have z2 : w296.frozen? ⟨xb, 2, none⟩ = false := (OwnT.blk O 0 rfl).frozen 2
  have q3 : w296.cell? ⟨xb, 3, none⟩ = some (.int .i64 0) := (OwnT.blk O 0 rfl).cell 3
  have z3 : w296.frozen? ⟨xb, 3, none⟩ = false := (OwnT.blk O 0 rfl).frozen 3
  have q4 : w296.cell? ⟨xb, 4, none⟩ = some (.int .i64 0) := (OwnT.blk O 0 rfl).cell 4
  have z4 : w296.frozen? ⟨xb, 4, none⟩ = false := (OwnT.blk O 0 rfl).frozen 4
  have q5 : w296.cell? ⟨xb, 5, none⟩ = some (.int .i64 0) := (OwnT.blk O 0 rfl).cell 5
  have z5 : w296.frozen? ⟨xb, 5, none⟩ = false := (OwnT.blk O 0 rfl).frozen 5
  have q6 : w296.cell? ⟨xb, 6, none⟩ = some (.int .i64 0) := (OwnT.blk O 0 rfl).cell 6
  have z6 : w296.frozen? ⟨xb, 6, none⟩ = false := (OwnT.blk O 0 rfl).frozen 6
  have q7 : w296.cell? ⟨xb, 7, none⟩ = some (.int .u8 0) := (OwnT.blk O 0 rfl).cell 7
  have z7 : w296.frozen? ⟨xb, 7, none⟩ = false := (OwnT.blk O 0 rfl).frozen 7
  refine sq_unit (w' := ((((((((w296.setCell ⟨xb, 0, none⟩ (.int .i64 K)).setCell ⟨xb, 1, none⟩ (.int .i64 t)).setCell ⟨xb, 2, none⟩ (.int .i64 x)).setCell ⟨xb, 3, none⟩ (.int .i64 t2)).setCell ⟨xb, 4, none⟩ (.int .i64 x2)).setCell ⟨xb, 5, none⟩ (.int .i64 y)).setCell ⟨xb, 6, none⟩ (.int .i64 N)).setCell ⟨xb, 7, none⟩ (.int .u8 ↑b.toNat))) hE rfl rfl (by simp [go_sem, ↓IntWalk.iteOmega, ev e16, ev e112, q0, z0, q1, z1, q2, z2, q3, z3, q4, z4, q5, z5, q6, z6, q7, z7]) ?_
  replace O := OwnT.push 0 rfl (((((((((OwnT.pull O 0 rfl).set 0 (.int .i64 K)).set 1 (.int .i64 t)).set 2 (.int .i64 x)).set 3 (.int .i64 t2)).set 4 (.int .i64 x2)).set 5 (.int .i64 y)).set 6 (.int .i64 N)).set 7 (.int .u8 ↑b.toNat))
  clear q0 z0 q1 z1 q2 z2 q3 z3 q4 z4 q5 z5 q6 z6 q7 z7
  generalize ((((((((w296.setCell ⟨xb, 0, none⟩ (.int .i64 K)).setCell ⟨xb, 1, none⟩ (.int .i64 t)).setCell ⟨xb, 2, none⟩ (.int .i64 x)).setCell ⟨xb, 3, none⟩ (.int .i64 t2)).setCell ⟨xb, 4, none⟩ (.int .i64 x2)).setCell ⟨xb, 5, none⟩ (.int .i64 y)).setCell ⟨xb, 6, none⟩ (.int .i64 N)).setCell ⟨xb, 7, none⟩ (.int .u8 ↑b.toNat)) = w297 at O ⊢
  replace O : OwnT _ _ ([tBlk xb 101 #[.int .i64 K, .int .i64 t, .int .i64 x, .int .i64 t2, .int .i64 x2, .int .i64 y, .int .i64 N, .int .u8 ↑b.toNat], tDisc p mb B na cap bm Sa La, tMn mb M, tDisc p2 mb B2 nb cap2 bm2 Sb Lb, tBlk db 149 #[.pointer (some ⟨p, 0, none⟩), .pointer (some ⟨p2, 0, none⟩), .int .i64 ↑sz], tBlk ub 107 #[.slice D1 na c1, .slice D2 nb c2, .int .i64 ↑sz], tRow 9 1 (.slice D1 na c1) na (strsV (nowL Sa La)), tRow 9 1 (.slice D2 nb c2) nb (strsV (nowL Sb Lb))]) w297 := O
  refine wpList_nil ?_
  replace e2 := hE.eval 2 (by rfl) e2
  replace e3 := hE.eval 3 (by rfl) e3
  replace e10 := hE.eval 10 (by rfl) e10
  replace e11 := hE.eval 11 (by rfl) e11
  replace e12 := hE.eval 12 (by rfl) e12
  replace e14 := hE.eval 14 (by rfl) e14
  replace e15 := hE.eval 15 (by rfl) e15
  replace k := k.env hE
  clear hE e106 e112
  refine then_n ?_
  replace O : OwnT _ _ ([tDisc p mb B na cap bm Sa La, tMn mb M, tDisc p2 mb B2 nb cap2 bm2 Sb Lb, tBlk db 149 #[.pointer (some ⟨p, 0, none⟩), .pointer (some ⟨p2, 0, none⟩), .int .i64 ↑sz], tBlk ub 107 #[.slice D1 na c1, .slice D2 nb c2, .int .i64 ↑sz], tRow 9 1 (.slice D1 na c1) na (strsV (nowL Sa La)), tRow 9 1 (.slice D2 nb c2) nb (strsV (nowL Sb Lb)), tBlk xb 101 #[.int .i64 K, .int .i64 t, .int .i64 x, .int .i64 t2, .int .i64 x2, .int .i64 y, .int .i64 N, .int .u8 ↑b.toNat]]) w297 := OwnT.pick O [1, 2, 3, 4, 5, 6, 7, 0] (by decide)
  clear d0 d1 d2 d3 d4 d5 d6 d7
  have hDA := (OwnT.discAt O 0 rfl).ok
  have hDB := (OwnT.discAt O 2 rfl).ok
  have hnA := hDA.le
  have hnB := hDB.le
  refine wp_seq ?_
  refine wp_region_lit ?_
  have hE := Env.refl a295 [113, 114, 115, 116, 117, 118, 119, 120, 17]
  apply sq_det 113 hE k rfl (by rfl) (by rfl) rfl
  case h =>
    exact x_move rfl (hE.eval 14 (by rfl) e14)
  intro a298 hE e113 kp
  apply sq_det 114 hE k rfl (by rfl) (by rfl) rfl
  case h =>
    simp [go_sem, ↓IntWalk.iteOmega, ev (hE.eval 16 (by rfl) e16)]
    with_reducible rfl
  intro a299 hE e114 kp
  replace e113 := (kp 113 rfl).trans e113
  apply sq_det 115 hE k rfl (by rfl) (by rfl) rfl
  case h =>
    simp [go_sem, ↓IntWalk.iteOmega, ev e114]
    with_reducible rfl
  intro a300 hE e115 kp
  replace e113 := (kp 113 rfl).trans e113
  apply sq_det 116 hE k rfl (by rfl) (by rfl) rfl
  case h =>
    have q0 : w297.cell? ⟨xb, 1, none⟩ = some (.int .i64 t) := (OwnT.blk O 7 rfl).cell 1
    simp [go_sem, ↓IntWalk.iteOmega, ev e115, q0]
    with_reducible rfl
  intro a301 hE e116 kp
  replace e113 := (kp 113 rfl).trans e113
  apply sq_det 117 hE k rfl (by rfl) (by rfl) rfl
  case h =>
    simp [go_sem, ↓IntWalk.iteOmega, ev (hE.eval 16 (by rfl) e16)]
    with_reducible rfl
  intro a302 hE e117 kp
  replace e113 := (kp 113 rfl).trans e113
  replace e116 := (kp 116 rfl).trans e116
  apply sq_det 118 hE k rfl (by rfl) (by rfl) rfl
  case h =>
    simp [go_sem, ↓IntWalk.iteOmega, ev e117]
    with_reducible rfl
  intro a303 hE e118 kp
  replace e113 := (kp 113 rfl).trans e113
  replace e116 := (kp 116 rfl).trans e116
  apply sq_det 119 hE k rfl (by rfl) (by rfl) rfl
  case h =>
    have q0 : w297.cell? ⟨xb, 2, none⟩ = some (.int .i64 x) := (OwnT.blk O 7 rfl).cell 2
    simp [go_sem, ↓IntWalk.iteOmega, ev e118, q0]
    with_reducible rfl
  intro a304 hE e119 kp
  replace e113 := (kp 113 rfl).trans e113
  replace e116 := (kp 116 rfl).trans e116
  apply sq_call 120 hE k rfl (by rfl) (by rfl) rfl
  case h =>
    simp [go_sem, ↓IntWalk.iteOmega, ev e113, ev e116, ev e119]
    with_reducible exact ⟨rfl, rfl⟩
  case hc => exact ris18_any t x _ (OwnT.blk O 4 rfl) hs (by omega) (by omega)
  rintro e w306 ⟨rfl, R⟩
  replace O := OwnT.ext O R
  refine ⟨_, rfl, ?_⟩
  intro a305 hE e120 kp
  apply sq_det 17 hE k rfl (by rfl) (by rfl) rfl
  case h =>
    exact x_assign rfl e120
  intro a307 hE e17 kp
  refine wpList_nil ?_
  replace e2 := hE.eval 2 (by rfl) e2
  replace e3 := hE.eval 3 (by rfl) e3
  replace e10 := hE.eval 10 (by rfl) e10
  replace e11 := hE.eval 11 (by rfl) e11
  replace e12 := hE.eval 12 (by rfl) e12
  replace e14 := hE.eval 14 (by rfl) e14
  replace e15 := hE.eval 15 (by rfl) e15
  replace e16 := hE.eval 16 (by rfl) e16
  replace k := k.env hE
  clear hE
  refine then_n ?_
  refine wp_seq ?_
  refine wp_region_lit ?_
  have hE := Env.refl a307 [121, 122, 123, 124, 125, 18]
  apply sq_det 121 hE k rfl (by rfl) (by rfl) rfl
  case h =>
    simp [go_sem, ↓IntWalk.iteOmega, ev (hE.eval 16 (by rfl) e16)]
    with_reducible rfl
  intro a308 hE e121 kp
  apply sq_det 122 hE k rfl (by rfl) (by rfl) rfl
  case h =>
    have q0 : w306.cell? ⟨xb, 6, none⟩ = some (.int .i64 N) := (OwnT.blk O 7 rfl).cell 6
    simp [go_sem, ↓IntWalk.iteOmega, ev e121, q0]
    with_reducible rfl
  intro a309 hE e122 kp
  apply sq_det 123 hE k rfl (by rfl) (by rfl) rfl
  case h =>
    exact x_conv rfl e122 (conv_uint N _)
  intro a310 hE e123 kp
  apply sq_det 124 hE k rfl (by rfl) (by rfl) rfl
  case h =>
    exact x_remU (m := uN N) (j := 10) rfl e123 rfl rfl (by decide)
  intro a311 hE e124 kp
  apply sq_det 125 hE k rfl (by rfl) (by rfl) rfl
  case h =>
    exact x_conv rfl e124 (conv_int _ _ (by omega))
  intro a312 hE e125 kp
  replace e125 := e125.trans (int_eq (show ((uN N % 10 : Nat) : Int) = (m : Int) by rw [hm]))
  apply sq_det 18 hE k rfl (by rfl) (by rfl) rfl
  case h =>
    exact x_assign rfl e125
  intro a313 hE e18 kp
  refine wpList_nil ?_
  replace e2 := hE.eval 2 (by rfl) e2
  replace e3 := hE.eval 3 (by rfl) e3
  replace e10 := hE.eval 10 (by rfl) e10
  replace e11 := hE.eval 11 (by rfl) e11
  replace e12 := hE.eval 12 (by rfl) e12
  replace e14 := hE.eval 14 (by rfl) e14
  replace e15 := hE.eval 15 (by rfl) e15
  replace e16 := hE.eval 16 (by rfl) e16
  replace e17 := hE.eval 17 (by rfl) e17
  replace k := k.env hE
  clear hE
  refine then_n ?_
  refine wp_seq ?_
  refine ck_fit20 (c := 0) (v20 := .bool false) (v21 := .bool false) (M := M) (m := m) (i := i) _ _ k e2 e3 e10 e11 e12 e14 e15 e16 e17 e18 O hz hm10 ?_
  clear O
  intro a314 w315 k e2 e3 e10 e11 e12 e14 e15 e16 e17 e18 e19 O
  refine then_n ?_
  refine wp_seq ?_
  refine wp_seq ?_
  refine wp_region_lit ?_
  have hE := Env.refl a314 [143, 144]
  apply sq_det 143 hE k rfl (by rfl) (by rfl) rfl
  case h =>
    simp [go_sem, ↓IntWalk.iteOmega, ev (hE.eval 16 (by rfl) e16)]
    with_reducible rfl
  intro a316 hE e143 kp
  apply sq_det 144 hE k rfl (by rfl) (by rfl) rfl
  case h =>
    have q0 : w315.cell? ⟨xb, 0, none⟩ = some (.int .i64 K) := (OwnT.blk O 7 rfl).cell 0
    simp [go_sem, ↓IntWalk.iteOmega, ev e143, q0]
    with_reducible rfl
  intro a317 hE e144 kp
  refine wpList_nil ?_
  replace e2 := hE.eval 2 (by rfl) e2
  replace e3 := hE.eval 3 (by rfl) e3
  replace e10 := hE.eval 10 (by rfl) e10
  replace e11 := hE.eval 11 (by rfl) e11
  replace e12 := hE.eval 12 (by rfl) e12
  replace e14 := hE.eval 14 (by rfl) e14
  replace e15 := hE.eval 15 (by rfl) e15
  replace e16 := hE.eval 16 (by rfl) e16
  replace e17 := hE.eval 17 (by rfl) e17
  replace e18 := hE.eval 18 (by rfl) e18
  replace e19 := hE.eval 19 (by rfl) e19
  replace k := k.env hE
  clear hE
  refine then_n ?_
  clear hDA hDB hnA hnB
  refine ck_do (c := 1 + 20 * (i : Int)) _ _ k e2 e3 e10 e11 e12 e14 e15 e16 e17 e18 e19 e144 O hs hz hF hM (by omega) hm10 ?_
  clear O
  intro a318 w319 Sa' Sb' La' Lb' M' k e2 e3 e10 e11 e12 e14 e15 hF' hM' O
  refine then_n ?_
  replace O : OwnT _ _ ([tDisc p mb B na cap bm Sa' La', tMn mb M', tDisc p2 mb B2 nb cap2 bm2 Sb' Lb', tBlk db 149 #[.pointer (some ⟨p, 0, none⟩), .pointer (some ⟨p2, 0, none⟩), .int .i64 ↑sz], tBlk ub 107 #[.slice D1 na c1, .slice D2 nb c2, .int .i64 ↑sz], tRow 9 1 (.slice D1 na c1) na (strsV (nowL Sa' La')), tRow 9 1 (.slice D2 nb c2) nb (strsV (nowL Sb' Lb'))]) w319 := OwnT.pick O [0, 1, 2, 3, 4, 5, 6] (by decide)
  have hDA := (OwnT.discAt O 0 rfl).ok
  have hDB := (OwnT.discAt O 2 rfl).ok
  have hnA := hDA.le
  have hnB := hDB.le
  have hlA := hDA.len
  have hlB := hDB.len
  obtain ⟨TA, hTA, hTA'⟩ : ∃ T, readL Sa' La' 0 na = T ∧ (nowL Sa' La').flatten = T := ⟨_, rfl, by rw [← now_read (by omega), List.drop_zero, List.take_of_length_le (by rw [nowL_len]; omega)]⟩
  obtain ⟨TB, hTB, hTB'⟩ : ∃ T, readL Sb' Lb' 0 nb = T ∧ (nowL Sb' Lb').flatten = T := ⟨_, rfl, by rw [← now_read (by omega), List.drop_zero, List.take_of_length_le (by rw [nowL_len]; omega)]⟩
  
  have htx : ∀ W, OwnT W0.heap.size W0 [tDisc p mb B na cap bm Sa' La', tMn mb M', tDisc p2 mb B2 nb cap2 bm2 Sb' Lb', tBlk db 149 #[.pointer (some ⟨p, 0, none⟩), .pointer (some ⟨p2, 0, none⟩), .int .i64 ↑sz], tBlk ub 107 #[.slice D1 na c1, .slice D2 nb c2, .int .i64 ↑sz], tRow 9 1 (.slice D1 na c1) na (strsV (nowL Sa' La')), tRow 9 1 (.slice D2 nb c2) nb (strsV (nowL Sb' Lb'))] W → (Calls Try.prog 47 #[.slice D1 na c1] W fun e w' => e = .returned (.string (sB TA)) ∧ W = w') ∧ (Calls Try.prog 47 #[.slice D2 nb c2] W fun e w' => e = .returned (.string (sB TB)) ∧ W = w') := by
    intro W O
    have h1 := text4_any D1 c1 (nowL Sa' La') W (strs_row (OwnT.get O 5 rfl : World.ownsRow _ 0 9 1 (.slice D1 na c1) na (strsV (nowL Sa' La')))) (now_sz hDA) (by rw [nowL_len]; omega)
    have h2 := text4_any D2 c2 (nowL Sb' Lb') W (strs_row (OwnT.get O 6 rfl : World.ownsRow _ 0 9 1 (.slice D2 nb c2) nb (strsV (nowL Sb' Lb')))) (now_sz hDB) (by rw [nowL_len]; omega)
    rw [nowL_len, hlA, hTA'] at h1
    rw [nowL_len, hlB, hTB'] at h2
    exact ⟨h1, h2⟩
  
  refine wp_seq ?_
  refine wp_region_lit ?_
  have hE := Env.refl a318 [402, 403, 404, 405, 401, 406, 407, 29, 30]
  apply sq_det 402 hE k rfl (by rfl) (by rfl) rfl
  case h =>
    exact x_move rfl (hE.eval 10 (by rfl) e10)
  intro a320 hE e402 kp
  apply sq_det 403 hE k rfl (by rfl) (by rfl) rfl
  case h =>
    exact x_move rfl (hE.eval 10 (by rfl) e10)
  intro a321 hE e403 kp
  replace e402 := (kp 402 rfl).trans e402
  apply sq_call 404 hE k rfl (by rfl) (by rfl) rfl
  case h =>
    simp [go_sem, ↓IntWalk.iteOmega, ev e403]
    with_reducible exact ⟨rfl, rfl⟩
  case hc => exact dlen_any _ (OwnT.discAt O 0 rfl)
  rintro e _ ⟨rfl, rfl⟩
  refine ⟨_, rfl, ?_⟩
  intro a322 hE e404 kp
  replace e402 := (kp 402 rfl).trans e402
  apply sq_call 405 hE k rfl (by rfl) (by rfl) rfl
  case h =>
    simp [go_sem, ↓IntWalk.iteOmega, ev e402, ev e404]
    with_reducible exact ⟨rfl, rfl⟩
  case hc => exact dread_ok 0 na _ (OwnT.discAt O 0 rfl) (OwnT.get O 1 rfl) (by omega) hF'.away
  rintro e w324 ⟨rfl, R⟩
  replace O := OwnT.ext O R
  refine ⟨_, congrArg (fun b => Ending.returned (.tuple #[.string (sB b), .int .i64 0])) hTA, ?_⟩
  intro a323 hE e405 kp
  apply sq_det 401 hE k rfl (by rfl) (by rfl) rfl
  case h =>
    exact x_move rfl e405
  intro a325 hE e401 kp
  apply sq_det 406 hE k rfl (by rfl) (by rfl) rfl
  case h =>
    simp [go_sem, ↓IntWalk.iteOmega, ev e401]
    with_reducible rfl
  intro a326 hE e406 kp
  replace e401 := (kp 401 rfl).trans e401
  apply sq_det 407 hE k rfl (by rfl) (by rfl) rfl
  case h =>
    simp [go_sem, ↓IntWalk.iteOmega, ev e401]
    with_reducible rfl
  intro a327 hE e407 kp
  replace e406 := (kp 406 rfl).trans e406
  apply sq_det 29 hE k rfl (by rfl) (by rfl) rfl
  case h =>
    exact x_assign rfl e406
  intro a328 hE e29 kp
  replace e407 := (kp 407 rfl).trans e407
  apply sq_det 30 hE k rfl (by rfl) (by rfl) rfl
  case h =>
    exact x_assign rfl e407
  intro a329 hE e30 kp
  replace e29 := (kp 29 rfl).trans e29
  refine wpList_nil ?_
  replace e2 := hE.eval 2 (by rfl) e2
  replace e3 := hE.eval 3 (by rfl) e3
  replace e10 := hE.eval 10 (by rfl) e10
  replace e11 := hE.eval 11 (by rfl) e11
  replace e12 := hE.eval 12 (by rfl) e12
  replace e14 := hE.eval 14 (by rfl) e14
  replace e15 := hE.eval 15 (by rfl) e15
  replace k := k.env hE
  clear hE
  refine then_n ?_
  refine wp_seq ?_
  refine wp_region_lit ?_
  have hE := Env.refl a329 [409, 410, 411, 412, 408, 413, 414, 31, 32]
  apply sq_det 409 hE k rfl (by rfl) (by rfl) rfl
  case h =>
    exact x_move rfl (hE.eval 11 (by rfl) e11)
  intro a330 hE e409 kp
  apply sq_det 410 hE k rfl (by rfl) (by rfl) rfl
  case h =>
    exact x_move rfl (hE.eval 11 (by rfl) e11)
  intro a331 hE e410 kp
  replace e409 := (kp 409 rfl).trans e409
  apply sq_call 411 hE k rfl (by rfl) (by rfl) rfl
  case h =>
    simp [go_sem, ↓IntWalk.iteOmega, ev e410]
    with_reducible exact ⟨rfl, rfl⟩
  case hc => exact dlen_any _ (OwnT.discAt O 2 rfl)
  rintro e _ ⟨rfl, rfl⟩
  refine ⟨_, rfl, ?_⟩
  intro a332 hE e411 kp
  replace e409 := (kp 409 rfl).trans e409
  apply sq_call 412 hE k rfl (by rfl) (by rfl) rfl
  case h =>
    simp [go_sem, ↓IntWalk.iteOmega, ev e409, ev e411]
    with_reducible exact ⟨rfl, rfl⟩
  case hc => exact dread_ok 0 nb _ (OwnT.discAt O 2 rfl) (OwnT.get O 1 rfl) (by omega) hF'.away
  rintro e w334 ⟨rfl, R⟩
  replace O := OwnT.ext O R
  refine ⟨_, congrArg (fun b => Ending.returned (.tuple #[.string (sB b), .int .i64 0])) hTB, ?_⟩
  intro a333 hE e412 kp
  apply sq_det 408 hE k rfl (by rfl) (by rfl) rfl
  case h =>
    exact x_move rfl e412
  intro a335 hE e408 kp
  apply sq_det 413 hE k rfl (by rfl) (by rfl) rfl
  case h =>
    simp [go_sem, ↓IntWalk.iteOmega, ev e408]
    with_reducible rfl
  intro a336 hE e413 kp
  replace e408 := (kp 408 rfl).trans e408
  apply sq_det 414 hE k rfl (by rfl) (by rfl) rfl
  case h =>
    simp [go_sem, ↓IntWalk.iteOmega, ev e408]
    with_reducible rfl
  intro a337 hE e414 kp
  replace e413 := (kp 413 rfl).trans e413
  apply sq_det 31 hE k rfl (by rfl) (by rfl) rfl
  case h =>
    exact x_assign rfl e413
  intro a338 hE e31 kp
  replace e414 := (kp 414 rfl).trans e414
  apply sq_det 32 hE k rfl (by rfl) (by rfl) rfl
  case h =>
    exact x_assign rfl e414
  intro a339 hE e32 kp
  replace e31 := (kp 31 rfl).trans e31
  refine wpList_nil ?_
  replace e2 := hE.eval 2 (by rfl) e2
  replace e3 := hE.eval 3 (by rfl) e3
  replace e10 := hE.eval 10 (by rfl) e10
  replace e11 := hE.eval 11 (by rfl) e11
  replace e12 := hE.eval 12 (by rfl) e12
  replace e14 := hE.eval 14 (by rfl) e14
  replace e15 := hE.eval 15 (by rfl) e15
  replace e29 := hE.eval 29 (by rfl) e29
  replace e30 := hE.eval 30 (by rfl) e30
  replace k := k.env hE
  clear hE
  refine then_n ?_
  refine wp_seq ?_
  refine wp_region_lit ?_
  have hE := Env.refl a339 [415, 416, 417, 418, 419, 420, 421, 422, 423, 424, 425, 426, 427, 428, 429, 430, 431, 432, 433, 434, 435, 436, 437, 438, 439, 440, 441, 442, 443, 444, 445, 446, 447, 448, 449, 450, 451, 452, 453, 454, 455, 456]
  apply sq_det 415 hE k rfl (by rfl) (by rfl) rfl
  case h =>
    exact x_move rfl (hE.eval 30 (by rfl) e30)
  intro a340 hE e415 kp
  apply sq_det 416 hE k rfl (by rfl) (by rfl) rfl
  case h =>
    exact x_neq rfl e415 rfl
  intro a341 hE e416 kp
  apply sq_det 417 hE k rfl (by rfl) (by rfl) rfl
  case h =>
    exact x_move rfl e416
  intro a342 hE e417 kp
  apply sq_detg 418 hE k rfl (by rfl) (by rfl) rfl rfl e417
  case h =>
    exact x_move rfl (hE.eval 32 (by rfl) e32)
  intro a343 hE e418 kp
  replace e417 := (kp 417 rfl).trans e417
  apply sq_detg 419 hE k rfl (by rfl) (by rfl) rfl rfl e417
  case h =>
    exact x_neq rfl e418 rfl
  intro a344 hE e419 kp
  replace e417 := (kp 417 rfl).trans e417
  apply sq_det 420 hE k rfl (by rfl) (by rfl) rfl
  case h =>
    exact x_pick_f rfl e417 e419
  intro a345 hE e420 kp
  apply sq_det 421 hE k rfl (by rfl) (by rfl) rfl
  case h =>
    exact x_move rfl e420
  intro a346 hE e421 kp
  apply sq_detg 422 hE k rfl (by rfl) (by rfl) rfl rfl e421
  case h =>
    exact x_move rfl (hE.eval 29 (by rfl) e29)
  intro a347 hE e422 kp
  replace e421 := (kp 421 rfl).trans e421
  apply sq_detg 423 hE k rfl (by rfl) (by rfl) rfl rfl e421
  case h =>
    exact x_move rfl (hE.eval 14 (by rfl) e14)
  intro a348 hE e423 kp
  replace e421 := (kp 421 rfl).trans e421
  replace e422 := (kp 422 rfl).trans e422
  apply sq_detg 424 hE k rfl (by rfl) (by rfl) rfl rfl e421
  case h =>
    exact x_nil rfl e423
  intro a349 hE e424 kp
  replace e421 := (kp 421 rfl).trans e421
  replace e422 := (kp 422 rfl).trans e422
  apply sq_detg 425 hE k rfl (by rfl) (by rfl) rfl rfl e421
  case h =>
    simp [go_sem, ↓IntWalk.iteOmega, ev e424]
    with_reducible rfl
  intro a350 hE e425 kp
  replace e421 := (kp 421 rfl).trans e421
  replace e422 := (kp 422 rfl).trans e422
  apply sq_detg 426 hE k rfl (by rfl) (by rfl) rfl rfl e421
  case h =>
    simp [go_sem, ↓IntWalk.iteOmega, ev e425]
    with_reducible rfl
  intro a351 hE e426 kp
  replace e421 := (kp 421 rfl).trans e421
  replace e422 := (kp 422 rfl).trans e422
  apply sq_detg 427 hE k rfl (by rfl) (by rfl) rfl rfl e421
  case h =>
    have q0 : w334.cell? ⟨ub, 0, none⟩ = some (.slice D1 na c1) := (OwnT.blk O 4 rfl).cell 0
    simp [go_sem, ↓IntWalk.iteOmega, ev e426, q0]
    with_reducible rfl
  intro a352 hE e427 kp
  replace e421 := (kp 421 rfl).trans e421
  replace e422 := (kp 422 rfl).trans e422
  apply sq_callg 428 hE k rfl (by rfl) (by rfl) rfl rfl e421
  case h =>
    simp [go_sem, ↓IntWalk.iteOmega, ev e427]
    with_reducible exact ⟨rfl, rfl⟩
  case hc => exact (htx _ O).1
  rintro e _ ⟨rfl, rfl⟩
  refine ⟨_, rfl, ?_⟩
  intro a353 hE e428 kp
  replace e421 := (kp 421 rfl).trans e421
  replace e422 := (kp 422 rfl).trans e422
  apply sq_detg 429 hE k rfl (by rfl) (by rfl) rfl rfl e421
  case h =>
    exact x_dec (x_nes (l := TA) (m := TA) rfl e422 e428) (decide_eq_false (fun h => h rfl))
  intro a354 hE e429 kp
  replace e421 := (kp 421 rfl).trans e421
  apply sq_det 430 hE k rfl (by rfl) (by rfl) rfl
  case h =>
    exact x_pick_f rfl e421 e429
  intro a355 hE e430 kp
  apply sq_det 431 hE k rfl (by rfl) (by rfl) rfl
  case h =>
    exact x_move rfl e430
  intro a356 hE e431 kp
  apply sq_detg 432 hE k rfl (by rfl) (by rfl) rfl rfl e431
  case h =>
    exact x_move rfl (hE.eval 31 (by rfl) e31)
  intro a357 hE e432 kp
  replace e431 := (kp 431 rfl).trans e431
  apply sq_detg 433 hE k rfl (by rfl) (by rfl) rfl rfl e431
  case h =>
    exact x_move rfl (hE.eval 14 (by rfl) e14)
  intro a358 hE e433 kp
  replace e431 := (kp 431 rfl).trans e431
  replace e432 := (kp 432 rfl).trans e432
  apply sq_detg 434 hE k rfl (by rfl) (by rfl) rfl rfl e431
  case h =>
    exact x_nil rfl e433
  intro a359 hE e434 kp
  replace e431 := (kp 431 rfl).trans e431
  replace e432 := (kp 432 rfl).trans e432
  apply sq_detg 435 hE k rfl (by rfl) (by rfl) rfl rfl e431
  case h =>
    simp [go_sem, ↓IntWalk.iteOmega, ev e434]
    with_reducible rfl
  intro a360 hE e435 kp
  replace e431 := (kp 431 rfl).trans e431
  replace e432 := (kp 432 rfl).trans e432
  apply sq_detg 436 hE k rfl (by rfl) (by rfl) rfl rfl e431
  case h =>
    simp [go_sem, ↓IntWalk.iteOmega, ev e435]
    with_reducible rfl
  intro a361 hE e436 kp
  replace e431 := (kp 431 rfl).trans e431
  replace e432 := (kp 432 rfl).trans e432
  apply sq_detg 437 hE k rfl (by rfl) (by rfl) rfl rfl e431
  case h =>
    have q0 : w334.cell? ⟨ub, 1, none⟩ = some (.slice D2 nb c2) := (OwnT.blk O 4 rfl).cell 1
    simp [go_sem, ↓IntWalk.iteOmega, ev e436, q0]
    with_reducible rfl
  intro a362 hE e437 kp
  replace e431 := (kp 431 rfl).trans e431
  replace e432 := (kp 432 rfl).trans e432
  apply sq_callg 438 hE k rfl (by rfl) (by rfl) rfl rfl e431
  case h =>
    simp [go_sem, ↓IntWalk.iteOmega, ev e437]
    with_reducible exact ⟨rfl, rfl⟩
  case hc => exact (htx _ O).2
  rintro e _ ⟨rfl, rfl⟩
  refine ⟨_, rfl, ?_⟩
  intro a363 hE e438 kp
  replace e431 := (kp 431 rfl).trans e431
  replace e432 := (kp 432 rfl).trans e432
  apply sq_detg 439 hE k rfl (by rfl) (by rfl) rfl rfl e431
  case h =>
    exact x_dec (x_nes (l := TB) (m := TB) rfl e432 e438) (decide_eq_false (fun h => h rfl))
  intro a364 hE e439 kp
  replace e431 := (kp 431 rfl).trans e431
  apply sq_det 440 hE k rfl (by rfl) (by rfl) rfl
  case h =>
    exact x_pick_f rfl e431 e439
  intro a365 hE e440 kp
  apply sq_det 441 hE k rfl (by rfl) (by rfl) rfl
  case h =>
    exact x_move rfl e440
  intro a366 hE e441 kp
  apply sq_detg 442 hE k rfl (by rfl) (by rfl) rfl rfl e441
  case h =>
    exact x_move rfl (hE.eval 12 (by rfl) e12)
  intro a367 hE e442 kp
  replace e441 := (kp 441 rfl).trans e441
  apply sq_callg 443 hE k rfl (by rfl) (by rfl) rfl rfl e441
  case h =>
    simp [go_sem, ↓IntWalk.iteOmega, ev e442]
    with_reducible exact ⟨rfl, rfl⟩
  case hc => exact cloose_0 _ (OwnT.discAt O 0 rfl) (OwnT.blk O 3 rfl)
  rintro e w369 ⟨rfl, R⟩
  replace O := OwnT.ext O R
  refine ⟨_, rfl, ?_⟩
  intro a368 hE e443 kp
  replace e441 := (kp 441 rfl).trans e441
  apply sq_detg 444 hE k rfl (by rfl) (by rfl) rfl rfl e441
  case h =>
    exact x_move rfl (hE.eval 10 (by rfl) e10)
  intro a370 hE e444 kp
  replace e441 := (kp 441 rfl).trans e441
  replace e443 := (kp 443 rfl).trans e443
  apply sq_callg 445 hE k rfl (by rfl) (by rfl) rfl rfl e441
  case h =>
    simp [go_sem, ↓IntWalk.iteOmega, ev e444]
    with_reducible exact ⟨rfl, rfl⟩
  case hc => exact dloose_any _ (OwnT.discAt O 0 rfl)
  rintro e w372 ⟨Bx0, cx0, rfl, -, -, -, -, R⟩
  replace O := OwnT.ext O R
  refine ⟨_, rfl, ?_⟩
  intro a371 hE e445 kp
  replace e441 := (kp 441 rfl).trans e441
  replace e443 := (kp 443 rfl).trans e443
  apply sq_detg 446 hE k rfl (by rfl) (by rfl) rfl rfl e441
  case h =>
    exact x_len Try.underlying49 rfl e445
  intro a373 hE e446 kp
  replace e441 := (kp 441 rfl).trans e441
  replace e443 := (kp 443 rfl).trans e443
  apply sq_detg 447 hE k rfl (by rfl) (by rfl) rfl rfl e441
  case h =>
    exact x_dec (x_neq rfl e443 e446) (decide_eq_false (fun h => h rfl))
  intro a374 hE e447 kp
  replace e441 := (kp 441 rfl).trans e441
  apply sq_det 448 hE k rfl (by rfl) (by rfl) rfl
  case h =>
    exact x_pick_f rfl e441 e447
  intro a375 hE e448 kp
  apply sq_det 449 hE k rfl (by rfl) (by rfl) rfl
  case h =>
    exact x_move rfl e448
  intro a376 hE e449 kp
  apply sq_detg 450 hE k rfl (by rfl) (by rfl) rfl rfl e449
  case h =>
    exact x_move rfl (hE.eval 12 (by rfl) e12)
  intro a377 hE e450 kp
  replace e449 := (kp 449 rfl).trans e449
  apply sq_callg 451 hE k rfl (by rfl) (by rfl) rfl rfl e449
  case h =>
    simp [go_sem, ↓IntWalk.iteOmega, ev e450]
    with_reducible exact ⟨rfl, rfl⟩
  case hc => exact cloose_1 _ (OwnT.discAt O 2 rfl) (OwnT.blk O 3 rfl)
  rintro e w379 ⟨rfl, R⟩
  replace O := OwnT.ext O R
  refine ⟨_, rfl, ?_⟩
  intro a378 hE e451 kp
  replace e449 := (kp 449 rfl).trans e449
  apply sq_detg 452 hE k rfl (by rfl) (by rfl) rfl rfl e449
  case h =>
    exact x_move rfl (hE.eval 11 (by rfl) e11)
  intro a380 hE e452 kp
  replace e449 := (kp 449 rfl).trans e449
  replace e451 := (kp 451 rfl).trans e451
  apply sq_callg 453 hE k rfl (by rfl) (by rfl) rfl rfl e449
  case h =>
    simp [go_sem, ↓IntWalk.iteOmega, ev e452]
    with_reducible exact ⟨rfl, rfl⟩
  case hc => exact dloose_any _ (OwnT.discAt O 2 rfl)
  rintro e w382 ⟨Bx1, cx1, rfl, -, -, -, -, R⟩
  replace O := OwnT.ext O R
  refine ⟨_, rfl, ?_⟩
  intro a381 hE e453 kp
  replace e449 := (kp 449 rfl).trans e449
  replace e451 := (kp 451 rfl).trans e451
  apply sq_detg 454 hE k rfl (by rfl) (by rfl) rfl rfl e449
  case h =>
    exact x_len Try.underlying49 rfl e453
  intro a383 hE e454 kp
  replace e449 := (kp 449 rfl).trans e449
  replace e451 := (kp 451 rfl).trans e451
  apply sq_detg 455 hE k rfl (by rfl) (by rfl) rfl rfl e449
  case h =>
    exact x_dec (x_neq rfl e451 e454) (decide_eq_false (fun h => h rfl))
  intro a384 hE e455 kp
  replace e449 := (kp 449 rfl).trans e449
  apply sq_det 456 hE k rfl (by rfl) (by rfl) rfl
  case h =>
    exact x_pick_f rfl e449 e455
  intro a385 hE e456 kp
  refine wpList_nil ?_
  replace e2 := hE.eval 2 (by rfl) e2
  replace e3 := hE.eval 3 (by rfl) e3
  replace e10 := hE.eval 10 (by rfl) e10
  replace e11 := hE.eval 11 (by rfl) e11
  replace e12 := hE.eval 12 (by rfl) e12
  replace e14 := hE.eval 14 (by rfl) e14
  replace e15 := hE.eval 15 (by rfl) e15
  replace k := k.env hE
  clear hE e29 e30 e31 e32
  refine then_n ?_
  refine cond_f e456 rfl ?_
  refine wp_skip ?_
  refine block_n ?_
  refine then_n ?_
  refine wp_region_lit ?_
  have hE := Env.refl a385 [107, 108, 15]
  apply sq_det 107 hE k rfl (by rfl) (by rfl) rfl
  case h =>
    exact x_move rfl e15
  intro a386 hE e107 kp
  replace e15 := (kp 15 rfl).trans e15
  apply sq_det 108 hE k rfl (by rfl) (by rfl) rfl
  case h =>
    exact x_add rfl e107 rfl (by omega)
  intro a387 hE e108 kp
  replace e15 := (kp 15 rfl).trans e15
  apply sq_det 15 hE k rfl (by rfl) (by rfl) rfl
  case h =>
    exact x_assign rfl e108
  intro a388 hE e15 kp
  refine wpList_nil ?_
  replace e2 := hE.eval 2 (by rfl) e2
  replace e3 := hE.eval 3 (by rfl) e3
  replace e10 := hE.eval 10 (by rfl) e10
  replace e11 := hE.eval 11 (by rfl) e11
  replace e12 := hE.eval 12 (by rfl) e12
  replace e14 := hE.eval 14 (by rfl) e14
  replace k := k.env hE
  clear hE e456
  refine then_n ?_
  refine ⟨⟨k, e2, e3, e10, e11, e12, e14, i + 1, Sa', Sb', La', Lb', M', e15, by omega, by omega, hF', hM'.mono (by omega), O⟩, ?_⟩
  rw [e15, mi]; simp only [intOf]; omega
theorem chunkExact_walk (w : World) (v0 v1 v2 v3 : Value) (h0 : Arg Try.prog w 9 v0) (h1 : Arg Try.prog w 9 v1) (h2 : Arg Try.prog w 3 v2) (h3 : Arg Try.prog w 97 v3) :
    Calls Try.prog 10 #[v0, v1, v2, v3] w fun e w' => e = .returned (.bool true) ∧ Below w.heap.size w w' := by
  obtain ⟨s, rfl, _⟩ := arg_string Try.underlying9 h0
  obtain ⟨s2, rfl, _⟩ := arg_string Try.underlying9 h1
  obtain ⟨z, rfl, _⟩ := arg_int Try.underlying3 h2
  obtain ⟨A, len, cap, xs, rfl, _, _, hlen, _, hrow⟩ := arg_acts18 h3
  rw [← sB_of s, ← sB_of s2]
  exact chunkExact_core _ _ z A len cap xs w hlen hrow
end Go.Proofs.Ytdpohbaeopidmaa
