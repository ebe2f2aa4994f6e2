/- maps' law: MapsApart (printed by XMpD.gen.py). -/
import Derived.Test.YtngehbhhpkkijaaKMapsApart28
namespace Go.Proofs.Ytngehbhhpkkijaa
attribute [local simp] BigFrame.eval_const BigFrame.eval_global BigFrame.eval_func
set_option linter.unusedVariables false
set_option linter.unusedSimpArgs false
open Go.RowKit Go.Maps

set_option maxRecDepth 100000 in
set_option maxHeartbeats 4000000 in
theorem mapsApart_core {A1 A2 : Option Addr} {n1 n2 cp1 cp2 : Nat} (xs1 xs2 : List Int) (ag : Bool) (W0 : World) (hl1 : xs1.length = n1) (hl2 : xs2.length = n2) (hrow1 : Row1 W0 A1 (Value.int .i64) xs1) (hrow2 : Row1 W0 A2 (Value.int .i64) xs2) (hm1 : n1 ≤ 9223372036854775807) (hm2 : n2 ≤ 9223372036854775807) : Calls Try.prog 8 #[.slice A1 n1 cp1, .slice A2 n2 cp2, .bool ag] W0 fun e w' => e = .returned (.bool true) ∧ Below W0.heap.size W0 w' := by
  have O := OwnT.start W0
  refine calls_F Try.func8 rfl 227 rfl (by rfl) ?_
  intro a1 k hargs
  have e0 : a1.eval (.tmp 0) = .slice A1 n1 cp1 := hargs 0 _ rfl
  have e1 : a1.eval (.tmp 1) = .slice A2 n2 cp2 := hargs 1 _ rfl
  have e2 : a1.eval (.tmp 2) = .bool ag := hargs 2 _ rfl
  clear hargs
  refine wp_seq ?_
  refine wp_region_lit ?_
  have hE := Env.refl a1 [6]
  apply sq_det 6 hE k rfl (by rfl) (by rfl) rfl
  case h =>
    exact x_assign rfl rfl
  intro a2 hE e6 kp
  refine wpList_nil ?_
  replace e0 := hE.eval 0 (by rfl) e0
  replace e1 := hE.eval 1 (by rfl) e1
  replace e2 := hE.eval 2 (by rfl) e2
  replace k := k.env hE
  clear hE e6
  refine then_n ?_
  refine wp_seq ?_
  refine wp_seq ?_
  refine wp_region_lit ?_
  have hE := Env.refl a2 [31, 32]
  apply sq_call 31 hE k rfl (by rfl) (by rfl) rfl
  case h =>
    simp [go_sem, ↓IntWalk.iteOmega]
    with_reducible exact ⟨rfl, rfl⟩
  case hc => exact awake12 _
  rintro e w4 ⟨rfl, R⟩
  replace O := OwnT.ext O R
  refine ⟨_, rfl, ?_⟩
  intro a3 hE e31 kp
  apply sq_det 32 hE k rfl (by rfl) (by rfl) rfl
  case h =>
    exact x_not rfl e31
  intro a5 hE e32 kp
  refine wpList_nil ?_
  replace e0 := hE.eval 0 (by rfl) e0
  replace e1 := hE.eval 1 (by rfl) e1
  replace e2 := hE.eval 2 (by rfl) e2
  replace k := k.env hE
  clear hE
  refine then_n ?_
  refine cond_f e32 rfl ?_
  refine wp_skip ?_
  refine then_n ?_
  by_cases h1 : 30 < n1
  · skip
    refine wp_seq ?_
    refine wp_seq ?_
    refine wp_region_lit ?_
    have hE := Env.refl a5 [33, 34, 35, 36, 37, 38, 39, 40]
    apply sq_det 33 hE k rfl (by rfl) (by rfl) rfl
    case h =>
      exact x_move rfl (hE.eval 0 (by rfl) e0)
    intro a6 hE e33 kp
    apply sq_det 34 hE k rfl (by rfl) (by rfl) rfl
    case h =>
      exact x_len Try.underlying51 rfl e33
    intro a7 hE e34 kp
    apply sq_det 35 hE k rfl (by rfl) (by rfl) rfl
    case h =>
      exact x_dec (x_gtr rfl e34 rfl) (decide_eq_true (by omega))
    intro a8 hE e35 kp
    apply sq_det 36 hE k rfl (by rfl) (by rfl) rfl
    case h =>
      exact x_move rfl e35
    intro a9 hE e36 kp
    refine sq_skipg 37 hE k rfl (by rfl) (by rfl) rfl rfl (.inl e36) ?_
    intro a10 hE e37 kp
    replace e36 := (kp 36 rfl).trans e36
    refine sq_skipg 38 hE k rfl (by rfl) (by rfl) rfl rfl (.inl e36) ?_
    intro a11 hE e38 kp
    replace e36 := (kp 36 rfl).trans e36
    refine sq_skipg 39 hE k rfl (by rfl) (by rfl) rfl rfl (.inl e36) ?_
    intro a12 hE e39 kp
    replace e36 := (kp 36 rfl).trans e36
    apply sq_det 40 hE k rfl (by rfl) (by rfl) rfl
    case h =>
      exact x_pick_t rfl e36 rfl
    intro a13 hE e40 kp
    refine wpList_nil ?_
    replace e0 := hE.eval 0 (by rfl) e0
    replace e1 := hE.eval 1 (by rfl) e1
    replace e2 := hE.eval 2 (by rfl) e2
    replace k := k.env hE
    clear hE e32
    refine then_n ?_
    refine cond_t e40 rfl ?_
    refine wp_seq ?_
    refine wp_region_lit ?_
    have hE := Env.refl a13 [6]
    apply sq_det 6 hE k rfl (by rfl) (by rfl) rfl
    case h =>
      exact x_assign rfl rfl
    intro a14 hE e6 kp
    refine wpList_nil ?_
    replace k := k.env hE
    clear hE e0 e1 e2 e40
    refine then_n ?_
    refine wp_ret ?_
    refine then_r ?_
    refine ret_F1 rfl k e6 ?_
    exact ⟨rfl, O.below⟩
  by_cases h2 : 30 < n2
  · skip
    refine wp_seq ?_
    refine wp_seq ?_
    refine wp_region_lit ?_
    have hE := Env.refl a5 [33, 34, 35, 36, 37, 38, 39, 40]
    apply sq_det 33 hE k rfl (by rfl) (by rfl) rfl
    case h =>
      exact x_move rfl (hE.eval 0 (by rfl) e0)
    intro a15 hE e33 kp
    apply sq_det 34 hE k rfl (by rfl) (by rfl) rfl
    case h =>
      exact x_len Try.underlying51 rfl e33
    intro a16 hE e34 kp
    apply sq_det 35 hE k rfl (by rfl) (by rfl) rfl
    case h =>
      exact x_dec (x_gtr rfl e34 rfl) (decide_eq_false (by omega))
    intro a17 hE e35 kp
    apply sq_det 36 hE k rfl (by rfl) (by rfl) rfl
    case h =>
      exact x_move rfl e35
    intro a18 hE e36 kp
    apply sq_detg 37 hE k rfl (by rfl) (by rfl) rfl rfl e36
    case h =>
      exact x_move rfl (hE.eval 1 (by rfl) e1)
    intro a19 hE e37 kp
    replace e36 := (kp 36 rfl).trans e36
    apply sq_detg 38 hE k rfl (by rfl) (by rfl) rfl rfl e36
    case h =>
      exact x_len Try.underlying51 rfl e37
    intro a20 hE e38 kp
    replace e36 := (kp 36 rfl).trans e36
    apply sq_detg 39 hE k rfl (by rfl) (by rfl) rfl rfl e36
    case h =>
      exact x_dec (x_gtr rfl e38 rfl) (decide_eq_true (by omega))
    intro a21 hE e39 kp
    replace e36 := (kp 36 rfl).trans e36
    apply sq_det 40 hE k rfl (by rfl) (by rfl) rfl
    case h =>
      exact x_pick_f rfl e36 e39
    intro a22 hE e40 kp
    refine wpList_nil ?_
    replace e0 := hE.eval 0 (by rfl) e0
    replace e1 := hE.eval 1 (by rfl) e1
    replace e2 := hE.eval 2 (by rfl) e2
    replace k := k.env hE
    clear hE e32
    refine then_n ?_
    refine cond_t e40 rfl ?_
    refine wp_seq ?_
    refine wp_region_lit ?_
    have hE := Env.refl a22 [6]
    apply sq_det 6 hE k rfl (by rfl) (by rfl) rfl
    case h =>
      exact x_assign rfl rfl
    intro a23 hE e6 kp
    refine wpList_nil ?_
    replace k := k.env hE
    clear hE e0 e1 e2 e40
    refine then_n ?_
    refine wp_ret ?_
    refine then_r ?_
    refine ret_F1 rfl k e6 ?_
    exact ⟨rfl, O.below⟩
  clear hm1 hm2
  refine wp_seq ?_
  refine wp_seq ?_
  refine wp_region_lit ?_
  have hE := Env.refl a5 [33, 34, 35, 36, 37, 38, 39, 40]
  apply sq_det 33 hE k rfl (by rfl) (by rfl) rfl
  case h =>
    exact x_move rfl (hE.eval 0 (by rfl) e0)
  intro a24 hE e33 kp
  apply sq_det 34 hE k rfl (by rfl) (by rfl) rfl
  case h =>
    exact x_len Try.underlying51 rfl e33
  intro a25 hE e34 kp
  apply sq_det 35 hE k rfl (by rfl) (by rfl) rfl
  case h =>
    exact x_dec (x_gtr rfl e34 rfl) (decide_eq_false (by omega))
  intro a26 hE e35 kp
  apply sq_det 36 hE k rfl (by rfl) (by rfl) rfl
  case h =>
    exact x_move rfl e35
  intro a27 hE e36 kp
  apply sq_detg 37 hE k rfl (by rfl) (by rfl) rfl rfl e36
  case h =>
    exact x_move rfl (hE.eval 1 (by rfl) e1)
  intro a28 hE e37 kp
  replace e36 := (kp 36 rfl).trans e36
  apply sq_detg 38 hE k rfl (by rfl) (by rfl) rfl rfl e36
  case h =>
    exact x_len Try.underlying51 rfl e37
  intro a29 hE e38 kp
  replace e36 := (kp 36 rfl).trans e36
  apply sq_detg 39 hE k rfl (by rfl) (by rfl) rfl rfl e36
  case h =>
    exact x_dec (x_gtr rfl e38 rfl) (decide_eq_false (by omega))
  intro a30 hE e39 kp
  replace e36 := (kp 36 rfl).trans e36
  apply sq_det 40 hE k rfl (by rfl) (by rfl) rfl
  case h =>
    exact x_pick_f rfl e36 e39
  intro a31 hE e40 kp
  refine wpList_nil ?_
  replace e0 := hE.eval 0 (by rfl) e0
  replace e1 := hE.eval 1 (by rfl) e1
  replace e2 := hE.eval 2 (by rfl) e2
  replace k := k.env hE
  clear hE e32
  refine then_n ?_
  refine cond_f e40 rfl ?_
  refine wp_skip ?_
  refine then_n ?_
  refine wp_seq ?_
  refine wp_region_lit ?_
  have hE := Env.refl a31 [41, 42, 7]
  apply sq_det 41 hE k rfl (by rfl) (by rfl) rfl
  case h =>
    simp [go_sem, ↓IntWalk.iteOmega]
    with_reducible rfl
  intro a32 hE e41 kp
  refine sq_new O (cs := #[.slice none 0 0, .int .i64 511]) (t := 28) 42 hE k rfl (by rfl) (by rfl) rfl (by simp [go_sem, ↓IntWalk.iteOmega, ev e41]) ?_
  clear O
  intro sb a33 w34 O hE e42 kp
  apply sq_det 7 hE k rfl (by rfl) (by rfl) rfl
  case h =>
    exact x_assign rfl e42
  intro a35 hE e7 kp
  refine wpList_nil ?_
  replace e0 := hE.eval 0 (by rfl) e0
  replace e1 := hE.eval 1 (by rfl) e1
  replace e2 := hE.eval 2 (by rfl) e2
  replace k := k.env hE
  clear hE e40
  refine then_n ?_
  replace O := sh_nil O
  refine wp_seq ?_
  refine wp_region_lit ?_
  have hE := Env.refl a35 [8]
  apply sq_det 8 hE k rfl (by rfl) (by rfl) rfl
  case h =>
    exact x_assign rfl rfl
  intro a36 hE e8 kp
  refine wpList_nil ?_
  replace e0 := hE.eval 0 (by rfl) e0
  replace e1 := hE.eval 1 (by rfl) e1
  replace e2 := hE.eval 2 (by rfl) e2
  replace e7 := hE.eval 7 (by rfl) e7
  replace k := k.env hE
  clear hE
  refine then_n ?_
  refine wp_seq ?_
  refine wp_seq ?_
  refine wp_region_lit ?_
  have hE := Env.refl a36 [9]
  apply sq_det 9 hE k rfl (by rfl) (by rfl) rfl
  case h =>
    exact x_assign rfl rfl
  intro a37 hE e9 kp
  refine wpList_nil ?_
  replace e0 := hE.eval 0 (by rfl) e0
  replace e1 := hE.eval 1 (by rfl) e1
  replace e2 := hE.eval 2 (by rfl) e2
  replace e7 := hE.eval 7 (by rfl) e7
  replace e8 := hE.eval 8 (by rfl) e8
  replace k := k.env hE
  clear hE
  refine then_n ?_
  refine wp_block ?_
  refine wp_loop (fun a w => Fr 227 a ∧ a.eval (.tmp 0) = .slice A1 n1 cp1 ∧ a.eval (.tmp 1) = .slice A2 n2 cp2 ∧ a.eval (.tmp 2) = .bool ag ∧ a.eval (.tmp 7) = .pointer (some ⟨sb, 0, none⟩) ∧ ∃ (i ra : Nat) (P : List Pr) (N : List Nd) (B : Option Addr) (cap : Nat) (vs : List Value), a.eval (.tmp 8) = .int .i64 ↑ra ∧ a.eval (.tmp 9) = .int .i64 ↑i ∧ i ≤ n1 ∧ N.length ≤ 5 * i ∧ Tre N ra (8 + i) P ∧ P.all enOk = true ∧ OwnT W0.heap.size W0 ((tBlk sb 28 #[.slice B N.length cap, .int .i64 511]) :: (tRow 125 2 (.slice B N.length cap) N.length (leafV vs N)) :: (tPool vs N) :: []) w) (fun a w => n1 - (intOf (a.eval (.tmp 9))).toNat) ?_ ?_
  · exact ⟨k, e0, e1, e2, e7, 0, 0, [], [], none, 0, [], e8, e9, Nat.zero_le _, Nat.zero_le _, (Tre.zero []).le (by omega), rfl, O⟩
  intro a38 w39 hI
  clear k e0 e1 e2 e7
  obtain ⟨k, e0, e1, e2, e7, h_⟩ := hI
  clear O e8 e9
  obtain ⟨i, ra, P, N, B, cap, vs, e8, e9, hi, hN, hT, hP, O⟩ := h_
  have mi := e9
  by_cases hlt : i < n1
  · have hltI : (i : Int) < (n1 : Int) := by omega
    obtain ⟨x, hx⟩ : ∃ x, xs1[i]? = some x := ⟨_, List.getElem?_eq_getElem (by omega)⟩
    obtain ⟨b1, o1, rfl, d0⟩ := row1I hrow1 O.below hx
    obtain ⟨kx, hkx⟩ : ∃ k, uN x % 64 = k := ⟨_, rfl⟩
    have hk6 : kx < 64 := by omega
    
    refine wp_seq ?_
    refine wp_seq ?_
    refine wp_region_lit ?_
    have hE := Env.refl a38 [43, 44, 45, 46]
    apply sq_det 43 hE k rfl (by rfl) (by rfl) rfl
    case h =>
      exact x_move rfl (hE.eval 9 (by rfl) e9)
    intro a40 hE e43 kp
    apply sq_det 44 hE k rfl (by rfl) (by rfl) rfl
    case h =>
      exact x_move rfl (hE.eval 0 (by rfl) e0)
    intro a41 hE e44 kp
    replace e43 := (kp 43 rfl).trans e43
    apply sq_det 45 hE k rfl (by rfl) (by rfl) rfl
    case h =>
      exact x_len Try.underlying51 rfl e44
    intro a42 hE e45 kp
    replace e43 := (kp 43 rfl).trans e43
    apply sq_det 46 hE k rfl (by rfl) (by rfl) rfl
    case h =>
      exact x_dec (x_lss rfl e43 e45) (decide_eq_true (by omega))
    intro a43 hE e46 kp
    refine wpList_nil ?_
    replace e0 := hE.eval 0 (by rfl) e0
    replace e1 := hE.eval 1 (by rfl) e1
    replace e2 := hE.eval 2 (by rfl) e2
    replace e7 := hE.eval 7 (by rfl) e7
    replace e8 := hE.eval 8 (by rfl) e8
    replace e9 := hE.eval 9 (by rfl) e9
    replace k := k.env hE
    clear hE
    refine then_n ?_
    refine cond_t e46 rfl ?_
    refine wp_skip ?_
    refine then_n ?_
    refine wp_seq ?_
    refine wp_block ?_
    refine wp_seq ?_
    refine wp_region_lit ?_
    have hE := Env.refl a43 [50, 51, 52, 53, 54, 55, 56, 57, 58, 59, 60, 61, 62, 49, 63, 64, 10, 11]
    apply sq_det 50 hE k rfl (by rfl) (by rfl) rfl
    case h =>
      exact x_move rfl (hE.eval 7 (by rfl) e7)
    intro a44 hE e50 kp
    apply sq_det 51 hE k rfl (by rfl) (by rfl) rfl
    case h =>
      simp [go_sem, ↓IntWalk.iteOmega, ev e50]
      with_reducible rfl
    intro a45 hE e51 kp
    apply sq_det 52 hE k rfl (by rfl) (by rfl) rfl
    case h =>
      exact x_move rfl (hE.eval 8 (by rfl) e8)
    intro a46 hE e52 kp
    replace e51 := (kp 51 rfl).trans e51
    apply sq_det 53 hE k rfl (by rfl) (by rfl) rfl
    case h =>
      exact x_move rfl (hE.eval 0 (by rfl) e0)
    intro a47 hE e53 kp
    replace e51 := (kp 51 rfl).trans e51
    replace e52 := (kp 52 rfl).trans e52
    apply sq_det 54 hE k rfl (by rfl) (by rfl) rfl
    case h =>
      exact x_move rfl (hE.eval 9 (by rfl) e9)
    intro a48 hE e54 kp
    replace e51 := (kp 51 rfl).trans e51
    replace e52 := (kp 52 rfl).trans e52
    replace e53 := (kp 53 rfl).trans e53
    apply sq_det 55 hE k rfl (by rfl) (by rfl) rfl
    case h =>
      simp [go_sem, ↓IntWalk.iteOmega, ev e53, ev e54]
      with_reducible rfl
    intro a49 hE e55 kp
    replace e51 := (kp 51 rfl).trans e51
    replace e52 := (kp 52 rfl).trans e52
    apply sq_det 56 hE k rfl (by rfl) (by rfl) rfl
    case h =>
      simp [go_sem, ↓IntWalk.iteOmega, ev e55, d0]
      with_reducible rfl
    intro a50 hE e56 kp
    replace e51 := (kp 51 rfl).trans e51
    replace e52 := (kp 52 rfl).trans e52
    apply sq_det 57 hE k rfl (by rfl) (by rfl) rfl
    case h =>
      exact x_conv rfl e56 (conv_uint x _)
    intro a51 hE e57 kp
    replace e51 := (kp 51 rfl).trans e51
    replace e52 := (kp 52 rfl).trans e52
    apply sq_det 58 hE k rfl (by rfl) (by rfl) rfl
    case h =>
      exact x_remU (m := uN x) (j := 64) rfl e57 rfl rfl (by decide)
    intro a52 hE e58 kp
    replace e51 := (kp 51 rfl).trans e51
    replace e52 := (kp 52 rfl).trans e52
    apply sq_det 59 hE k rfl (by rfl) (by rfl) rfl
    case h =>
      exact x_conv rfl e58 (conv_int _ _ (by omega))
    intro a53 hE e59 kp
    replace e51 := (kp 51 rfl).trans e51
    replace e52 := (kp 52 rfl).trans e52
    replace e59 := e59.trans (int_eq (show ((uN x % 64 : Nat) : Int) = (kx : Int) by rw [hkx]))
    apply sq_det 60 hE k rfl (by rfl) (by rfl) rfl
    case h =>
      exact x_move rfl (hE.eval 9 (by rfl) e9)
    intro a54 hE e60 kp
    replace e51 := (kp 51 rfl).trans e51
    replace e52 := (kp 52 rfl).trans e52
    replace e59 := (kp 59 rfl).trans e59
    apply sq_det 61 hE k rfl (by rfl) (by rfl) rfl
    case h =>
      exact x_add rfl rfl e60 (by omega)
    intro a55 hE e61 kp
    replace e51 := (kp 51 rfl).trans e51
    replace e52 := (kp 52 rfl).trans e52
    replace e59 := (kp 59 rfl).trans e59
    replace e61 := e61.trans (int_eq (show 1 + (i : Int) = ((1 + i : Nat) : Int) by omega))
    apply sq_call 62 hE k rfl (by rfl) (by rfl) rfl
    case h =>
      simp [go_sem, ↓IntWalk.iteOmega, ev e51, ev e52, ev e59, ev e61]
      with_reducible exact ⟨rfl, rfl⟩
    case hc => exact mSet (ky := kx) (ch := 1 + i) _ O hT.norm (by split <;> omega) (by omega) hk6 (by omega)
    clear O
    rintro e w57 ⟨N2, r2, er, B2, cap2, vs2, rfl, O, hPL⟩
    refine ⟨_, rfl, ?_⟩
    intro a56 hE e62 kp
    apply sq_det 49 hE k rfl (by rfl) (by rfl) rfl
    case h =>
      exact x_move rfl e62
    intro a58 hE e49 kp
    apply sq_det 63 hE k rfl (by rfl) (by rfl) rfl
    case h =>
      simp [go_sem, ↓IntWalk.iteOmega, ev e49]
      with_reducible rfl
    intro a59 hE e63 kp
    replace e49 := (kp 49 rfl).trans e49
    apply sq_det 64 hE k rfl (by rfl) (by rfl) rfl
    case h =>
      simp [go_sem, ↓IntWalk.iteOmega, ev e49]
      with_reducible rfl
    intro a60 hE e64 kp
    replace e63 := (kp 63 rfl).trans e63
    apply sq_det 10 hE k rfl (by rfl) (by rfl) rfl
    case h =>
      exact x_assign rfl e63
    intro a61 hE e10 kp
    replace e64 := (kp 64 rfl).trans e64
    apply sq_det 11 hE k rfl (by rfl) (by rfl) rfl
    case h =>
      exact x_assign rfl e64
    intro a62 hE e11 kp
    replace e10 := (kp 10 rfl).trans e10
    refine wpList_nil ?_
    replace e0 := hE.eval 0 (by rfl) e0
    replace e1 := hE.eval 1 (by rfl) e1
    replace e2 := hE.eval 2 (by rfl) e2
    replace e7 := hE.eval 7 (by rfl) e7
    replace e9 := hE.eval 9 (by rfl) e9
    replace k := k.env hE
    clear hE e8 e46
    refine then_n ?_
    rcases hPL with ⟨⟨M, rfl, hM⟩, ⟨rfl, rfl, -⟩ | ⟨rfl, r, rfl, hr1, hr2, hT2⟩⟩
    · skip
      refine wp_seq ?_
      refine wp_seq ?_
      refine wp_region_lit ?_
      have hE := Env.refl a62 [65, 66]
      apply sq_det 65 hE k rfl (by rfl) (by rfl) rfl
      case h =>
        exact x_move rfl (hE.eval 11 (by rfl) e11)
      intro a63 hE e65 kp
      apply sq_det 66 hE k rfl (by rfl) (by rfl) rfl
      case h =>
        exact x_neq rfl e65 rfl
      intro a64 hE e66 kp
      refine wpList_nil ?_
      replace e0 := hE.eval 0 (by rfl) e0
      replace e1 := hE.eval 1 (by rfl) e1
      replace e2 := hE.eval 2 (by rfl) e2
      replace e7 := hE.eval 7 (by rfl) e7
      replace e9 := hE.eval 9 (by rfl) e9
      replace e10 := hE.eval 10 (by rfl) e10
      replace e11 := hE.eval 11 (by rfl) e11
      replace k := k.env hE
      clear hE
      refine then_n ?_
      refine cond_t e66 rfl ?_
      refine wp_seq ?_
      refine wp_region_lit ?_
      have hE := Env.refl a64 [67, 68, 6]
      apply sq_det 67 hE k rfl (by rfl) (by rfl) rfl
      case h =>
        exact x_move rfl (hE.eval 11 (by rfl) e11)
      intro a65 hE e67 kp
      apply sq_det 68 hE k rfl (by rfl) (by rfl) rfl
      case h =>
        exact x_eql rfl e67 rfl
      intro a66 hE e68 kp
      apply sq_det 6 hE k rfl (by rfl) (by rfl) rfl
      case h =>
        exact x_assign rfl e68
      intro a67 hE e6 kp
      refine wpList_nil ?_
      replace k := k.env hE
      clear hE e0 e1 e2 e7 e9 e10 e11 e66
      refine then_n ?_
      refine wp_ret ?_
      refine then_r ?_
      refine block_r ?_
      refine then_r ?_
      refine then_r ?_
      refine block_r ?_
      refine then_r ?_
      refine ret_F1 rfl k e6 ?_
      exact ⟨rfl, O.below⟩
    · skip
      refine wp_seq ?_
      refine wp_seq ?_
      refine wp_region_lit ?_
      have hE := Env.refl a62 [65, 66]
      apply sq_det 65 hE k rfl (by rfl) (by rfl) rfl
      case h =>
        exact x_move rfl (hE.eval 11 (by rfl) e11)
      intro a68 hE e65 kp
      apply sq_det 66 hE k rfl (by rfl) (by rfl) rfl
      case h =>
        exact x_neq rfl e65 rfl
      intro a69 hE e66 kp
      refine wpList_nil ?_
      replace e0 := hE.eval 0 (by rfl) e0
      replace e1 := hE.eval 1 (by rfl) e1
      replace e2 := hE.eval 2 (by rfl) e2
      replace e7 := hE.eval 7 (by rfl) e7
      replace e9 := hE.eval 9 (by rfl) e9
      replace e10 := hE.eval 10 (by rfl) e10
      replace e11 := hE.eval 11 (by rfl) e11
      replace k := k.env hE
      clear hE
      refine then_n ?_
      refine cond_f e66 rfl ?_
      refine wp_skip ?_
      refine then_n ?_
      refine wp_region_lit ?_
      have hE := Env.refl a69 [69, 8]
      apply sq_det 69 hE k rfl (by rfl) (by rfl) rfl
      case h =>
        exact x_move rfl (hE.eval 10 (by rfl) e10)
      intro a70 hE e69 kp
      apply sq_det 8 hE k rfl (by rfl) (by rfl) rfl
      case h =>
        exact x_assign rfl e69
      intro a71 hE e8 kp
      refine wpList_nil ?_
      replace e0 := hE.eval 0 (by rfl) e0
      replace e1 := hE.eval 1 (by rfl) e1
      replace e2 := hE.eval 2 (by rfl) e2
      replace e7 := hE.eval 7 (by rfl) e7
      replace e9 := hE.eval 9 (by rfl) e9
      replace k := k.env hE
      clear hE e10 e11 e66
      refine block_n ?_
      refine then_n ?_
      refine wp_region_lit ?_
      have hE := Env.refl a71 [47, 48, 9]
      apply sq_det 47 hE k rfl (by rfl) (by rfl) rfl
      case h =>
        exact x_move rfl e9
      intro a72 hE e47 kp
      replace e9 := (kp 9 rfl).trans e9
      apply sq_det 48 hE k rfl (by rfl) (by rfl) rfl
      case h =>
        exact x_add rfl e47 rfl (by omega)
      intro a73 hE e48 kp
      replace e9 := (kp 9 rfl).trans e9
      apply sq_det 9 hE k rfl (by rfl) (by rfl) rfl
      case h =>
        exact x_assign rfl e48
      intro a74 hE e9 kp
      refine wpList_nil ?_
      replace e0 := hE.eval 0 (by rfl) e0
      replace e1 := hE.eval 1 (by rfl) e1
      replace e2 := hE.eval 2 (by rfl) e2
      replace e7 := hE.eval 7 (by rfl) e7
      replace e8 := hE.eval 8 (by rfl) e8
      replace k := k.env hE
      clear hE
      refine then_n ?_
      refine ⟨⟨k, e0, e1, e2, e7, i + 1, r, insP (kx, 1 + i) P, N ++ M, B2, cap2, vs2, e8, e9, by omega, by rw [List.length_append]; omega, (hT2.next (by omega)).le (by omega), ins_ok hP hk6 (by omega), O⟩, ?_⟩
      rw [e9, mi]; simp only [intOf]; omega
  · skip
    obtain rfl : i = n1 := by omega
    clear mi
    refine wp_seq ?_
    refine wp_seq ?_
    refine wp_region_lit ?_
    have hE := Env.refl a38 [43, 44, 45, 46]
    apply sq_det 43 hE k rfl (by rfl) (by rfl) rfl
    case h =>
      exact x_move rfl (hE.eval 9 (by rfl) e9)
    intro a75 hE e43 kp
    apply sq_det 44 hE k rfl (by rfl) (by rfl) rfl
    case h =>
      exact x_move rfl (hE.eval 0 (by rfl) e0)
    intro a76 hE e44 kp
    replace e43 := (kp 43 rfl).trans e43
    apply sq_det 45 hE k rfl (by rfl) (by rfl) rfl
    case h =>
      exact x_len Try.underlying51 rfl e44
    intro a77 hE e45 kp
    replace e43 := (kp 43 rfl).trans e43
    apply sq_det 46 hE k rfl (by rfl) (by rfl) rfl
    case h =>
      exact x_dec (x_lss rfl e43 e45) (decide_eq_false (by omega))
    intro a78 hE e46 kp
    refine wpList_nil ?_
    replace e0 := hE.eval 0 (by rfl) e0
    replace e1 := hE.eval 1 (by rfl) e1
    replace e2 := hE.eval 2 (by rfl) e2
    replace e7 := hE.eval 7 (by rfl) e7
    replace e8 := hE.eval 8 (by rfl) e8
    replace e9 := hE.eval 9 (by rfl) e9
    replace k := k.env hE
    clear hE
    refine then_n ?_
    refine cond_f e46 rfl ?_
    refine wp_exit ?_
    refine then_x ?_
    refine then_x ?_
    refine block_x ?_
    refine then_n ?_
    refine wp_seq ?_
    refine wp_region_lit ?_
    have hE := Env.refl a78 [71, 72, 73, 74, 70, 75, 76, 12, 13]
    apply sq_det 71 hE k rfl (by rfl) (by rfl) rfl
    case h =>
      exact x_move rfl (hE.eval 7 (by rfl) e7)
    intro a79 hE e71 kp
    apply sq_det 72 hE k rfl (by rfl) (by rfl) rfl
    case h =>
      simp [go_sem, ↓IntWalk.iteOmega, ev e71]
      with_reducible rfl
    intro a80 hE e72 kp
    apply sq_det 73 hE k rfl (by rfl) (by rfl) rfl
    case h =>
      exact x_move rfl (hE.eval 8 (by rfl) e8)
    intro a81 hE e73 kp
    replace e72 := (kp 72 rfl).trans e72
    apply sq_call 74 hE k rfl (by rfl) (by rfl) rfl
    case h =>
      simp [go_sem, ↓IntWalk.iteOmega, ev e72, ev e73]
      with_reducible exact ⟨rfl, rfl⟩
    case hc => exact mList _ O hT (by omega) (by omega)
    rintro e w83 hL
    obtain ⟨Bw, cw, rfl, O⟩ := (hL.resolve_right (fun h => absurd (hP.symm.trans h.1) Bool.noConfusion)).2
    clear hL
    refine ⟨_, rfl, ?_⟩
    intro a82 hE e74 kp
    apply sq_det 70 hE k rfl (by rfl) (by rfl) rfl
    case h =>
      exact x_move rfl e74
    intro a84 hE e70 kp
    apply sq_det 75 hE k rfl (by rfl) (by rfl) rfl
    case h =>
      simp [go_sem, ↓IntWalk.iteOmega, ev e70]
      with_reducible rfl
    intro a85 hE e75 kp
    replace e70 := (kp 70 rfl).trans e70
    apply sq_det 76 hE k rfl (by rfl) (by rfl) rfl
    case h =>
      simp [go_sem, ↓IntWalk.iteOmega, ev e70]
      with_reducible rfl
    intro a86 hE e76 kp
    replace e75 := (kp 75 rfl).trans e75
    apply sq_det 12 hE k rfl (by rfl) (by rfl) rfl
    case h =>
      exact x_assign rfl e75
    intro a87 hE e12 kp
    replace e76 := (kp 76 rfl).trans e76
    apply sq_det 13 hE k rfl (by rfl) (by rfl) rfl
    case h =>
      exact x_assign rfl e76
    intro a88 hE e13 kp
    replace e12 := (kp 12 rfl).trans e12
    refine wpList_nil ?_
    replace e1 := hE.eval 1 (by rfl) e1
    replace e2 := hE.eval 2 (by rfl) e2
    replace e7 := hE.eval 7 (by rfl) e7
    replace e8 := hE.eval 8 (by rfl) e8
    replace k := k.env hE
    clear hE e0 e9 e46
    refine then_n ?_
    refine wp_seq ?_
    refine wp_region_lit ?_
    have hE := Env.refl a88 [77, 14]
    apply sq_det 77 hE k rfl (by rfl) (by rfl) rfl
    case h =>
      exact x_move rfl (hE.eval 8 (by rfl) e8)
    intro a89 hE e77 kp
    apply sq_det 14 hE k rfl (by rfl) (by rfl) rfl
    case h =>
      exact x_assign rfl e77
    intro a90 hE e14 kp
    refine wpList_nil ?_
    replace e1 := hE.eval 1 (by rfl) e1
    replace e2 := hE.eval 2 (by rfl) e2
    replace e7 := hE.eval 7 (by rfl) e7
    replace e8 := hE.eval 8 (by rfl) e8
    replace e12 := hE.eval 12 (by rfl) e12
    replace e13 := hE.eval 13 (by rfl) e13
    replace k := k.env hE
    clear hE
    refine then_n ?_
    refine wp_seq ?_
    refine wp_region_lit ?_
    have hE := Env.refl a90 [78, 15]
    apply sq_det 78 hE k rfl (by rfl) (by rfl) rfl
    case h =>
      exact x_move rfl (hE.eval 8 (by rfl) e8)
    intro a91 hE e78 kp
    apply sq_det 15 hE k rfl (by rfl) (by rfl) rfl
    case h =>
      exact x_assign rfl e78
    intro a92 hE e15 kp
    refine wpList_nil ?_
    replace e1 := hE.eval 1 (by rfl) e1
    replace e2 := hE.eval 2 (by rfl) e2
    replace e7 := hE.eval 7 (by rfl) e7
    replace e8 := hE.eval 8 (by rfl) e8
    replace e12 := hE.eval 12 (by rfl) e12
    replace e13 := hE.eval 13 (by rfl) e13
    replace e14 := hE.eval 14 (by rfl) e14
    replace k := k.env hE
    clear hE
    refine then_n ?_
    refine wp_seq ?_
    refine wp_seq ?_
    refine wp_region_lit ?_
    have hE := Env.refl a92 [16]
    apply sq_det 16 hE k rfl (by rfl) (by rfl) rfl
    case h =>
      exact x_assign rfl rfl
    intro a93 hE e16 kp
    refine wpList_nil ?_
    replace e1 := hE.eval 1 (by rfl) e1
    replace e2 := hE.eval 2 (by rfl) e2
    replace e7 := hE.eval 7 (by rfl) e7
    replace e8 := hE.eval 8 (by rfl) e8
    replace e12 := hE.eval 12 (by rfl) e12
    replace e13 := hE.eval 13 (by rfl) e13
    replace e14 := hE.eval 14 (by rfl) e14
    replace e15 := hE.eval 15 (by rfl) e15
    replace k := k.env hE
    clear hE
    refine then_n ?_
    refine wp_block ?_
    obtain ⟨na, hna⟩ : ∃ z, i = z := ⟨_, rfl⟩
    have hna30 : na ≤ 30 := by omega
    rw [hna] at hT hi hN
    clear hna
    refine wp_loop (fun a w => Fr 227 a ∧ a.eval (.tmp 1) = .slice A2 n2 cp2 ∧ a.eval (.tmp 2) = .bool ag ∧ a.eval (.tmp 7) = .pointer (some ⟨sb, 0, none⟩) ∧ a.eval (.tmp 8) = .int .i64 ↑ra ∧ a.eval (.tmp 12) = .slice Bw P.length cw ∧ a.eval (.tmp 13) = .int .i64 0 ∧ ∃ (j rb rc : Nat) (Pb Pc : List Pr) (N : List Nd) (B : Option Addr) (cap : Nat) (vs : List Value), a.eval (.tmp 14) = .int .i64 ↑rb ∧ a.eval (.tmp 15) = .int .i64 ↑rc ∧ a.eval (.tmp 16) = .int .i64 ↑j ∧ j ≤ n2 ∧ N.length ≤ 5 * na + 10 * j ∧ Tre N ra (8 + na) P ∧ Tre N rb (8 + na + j) Pb ∧ Tre N rc (8 + na + j) Pc ∧ Pb.all enOk = true ∧ Pc.all enOk = true ∧ (ag = true → Pc = Pb) ∧ (∀ z y, z < j → xs2[z]? = some y → ∃ v, lookP (uN y % 64) Pb = some v ∧ 100 ≤ v) ∧ OwnT W0.heap.size W0 ((tBlk sb 28 #[.slice B N.length cap, .int .i64 511]) :: (tRow 125 2 (.slice B N.length cap) N.length (leafV vs N)) :: (tPool vs N) :: (tEs (.slice Bw P.length cw) P) :: []) w) (fun a w => n2 - (intOf (a.eval (.tmp 16))).toNat) ?_ ?_
    · exact ⟨k, e1, e2, e7, e8, e12, e13, 0, ra, ra, P, P, N, B, cap, vs, e14, e15, e16, Nat.zero_le _, by omega, hT, hT, hT, hP, hP, (fun _ => rfl), (fun z y h => absurd h (Nat.not_lt_zero _)), O⟩
    intro a94 w95 hI
    clear k e1 e2 e7 e8 e12 e13
    obtain ⟨k, e1, e2, e7, e8, e12, e13, h_⟩ := hI
    clear O e14 e15 e16 hT hN
    obtain ⟨j, rb, rc, Pb, Pc, N, B, cap, vs, e14, e15, e16, hj, hN, hT, hTb, hTc, hPb, hPc, hag, hlk, O⟩ := h_
    have mi := e16
    by_cases hlt : j < n2
    · have hltI : (j : Int) < (n2 : Int) := by omega
      obtain ⟨x, hx⟩ : ∃ x, xs2[j]? = some x := ⟨_, List.getElem?_eq_getElem (by omega)⟩
      obtain ⟨b1, o1, rfl, d0⟩ := row1I hrow2 O.below hx
      obtain ⟨kx, hkx⟩ : ∃ k, uN x % 64 = k := ⟨_, rfl⟩
      have hk6 : kx < 64 := by omega
      obtain ⟨vx, hvx⟩ : ∃ v, 100 + j = v := ⟨_, rfl⟩
      
      refine wp_seq ?_
      refine wp_seq ?_
      refine wp_region_lit ?_
      have hE := Env.refl a94 [79, 80, 81, 82]
      apply sq_det 79 hE k rfl (by rfl) (by rfl) rfl
      case h =>
        exact x_move rfl (hE.eval 16 (by rfl) e16)
      intro a96 hE e79 kp
      apply sq_det 80 hE k rfl (by rfl) (by rfl) rfl
      case h =>
        exact x_move rfl (hE.eval 1 (by rfl) e1)
      intro a97 hE e80 kp
      replace e79 := (kp 79 rfl).trans e79
      apply sq_det 81 hE k rfl (by rfl) (by rfl) rfl
      case h =>
        exact x_len Try.underlying51 rfl e80
      intro a98 hE e81 kp
      replace e79 := (kp 79 rfl).trans e79
      apply sq_det 82 hE k rfl (by rfl) (by rfl) rfl
      case h =>
        exact x_dec (x_lss rfl e79 e81) (decide_eq_true (by omega))
      intro a99 hE e82 kp
      refine wpList_nil ?_
      replace e1 := hE.eval 1 (by rfl) e1
      replace e2 := hE.eval 2 (by rfl) e2
      replace e7 := hE.eval 7 (by rfl) e7
      replace e8 := hE.eval 8 (by rfl) e8
      replace e12 := hE.eval 12 (by rfl) e12
      replace e13 := hE.eval 13 (by rfl) e13
      replace e14 := hE.eval 14 (by rfl) e14
      replace e15 := hE.eval 15 (by rfl) e15
      replace e16 := hE.eval 16 (by rfl) e16
      replace k := k.env hE
      clear hE
      refine then_n ?_
      refine cond_t e82 rfl ?_
      refine wp_skip ?_
      refine then_n ?_
      refine wp_seq ?_
      refine wp_block ?_
      refine wp_seq ?_
      refine wp_region_lit ?_
      have hE := Env.refl a99 [85, 86, 87, 88, 89, 90, 91, 17]
      apply sq_det 85 hE k rfl (by rfl) (by rfl) rfl
      case h =>
        exact x_move rfl (hE.eval 1 (by rfl) e1)
      intro a100 hE e85 kp
      apply sq_det 86 hE k rfl (by rfl) (by rfl) rfl
      case h =>
        exact x_move rfl (hE.eval 16 (by rfl) e16)
      intro a101 hE e86 kp
      replace e85 := (kp 85 rfl).trans e85
      apply sq_det 87 hE k rfl (by rfl) (by rfl) rfl
      case h =>
        simp [go_sem, ↓IntWalk.iteOmega, ev e85, ev e86]
        with_reducible rfl
      intro a102 hE e87 kp
      apply sq_det 88 hE k rfl (by rfl) (by rfl) rfl
      case h =>
        simp [go_sem, ↓IntWalk.iteOmega, ev e87, d0]
        with_reducible rfl
      intro a103 hE e88 kp
      apply sq_det 89 hE k rfl (by rfl) (by rfl) rfl
      case h =>
        exact x_conv rfl e88 (conv_uint x _)
      intro a104 hE e89 kp
      apply sq_det 90 hE k rfl (by rfl) (by rfl) rfl
      case h =>
        exact x_remU (m := uN x) (j := 64) rfl e89 rfl rfl (by decide)
      intro a105 hE e90 kp
      apply sq_det 91 hE k rfl (by rfl) (by rfl) rfl
      case h =>
        exact x_conv rfl e90 (conv_int _ _ (by omega))
      intro a106 hE e91 kp
      replace e91 := e91.trans (int_eq (show ((uN x % 64 : Nat) : Int) = (kx : Int) by rw [hkx]))
      apply sq_det 17 hE k rfl (by rfl) (by rfl) rfl
      case h =>
        exact x_assign rfl e91
      intro a107 hE e17 kp
      refine wpList_nil ?_
      replace e1 := hE.eval 1 (by rfl) e1
      replace e2 := hE.eval 2 (by rfl) e2
      replace e7 := hE.eval 7 (by rfl) e7
      replace e8 := hE.eval 8 (by rfl) e8
      replace e12 := hE.eval 12 (by rfl) e12
      replace e13 := hE.eval 13 (by rfl) e13
      replace e14 := hE.eval 14 (by rfl) e14
      replace e15 := hE.eval 15 (by rfl) e15
      replace e16 := hE.eval 16 (by rfl) e16
      replace k := k.env hE
      clear hE e82
      refine then_n ?_
      refine wp_seq ?_
      refine wp_region_lit ?_
      have hE := Env.refl a107 [93, 94, 95, 96, 97, 98, 99, 92, 100, 101, 18, 19]
      apply sq_det 93 hE k rfl (by rfl) (by rfl) rfl
      case h =>
        exact x_move rfl (hE.eval 7 (by rfl) e7)
      intro a108 hE e93 kp
      apply sq_det 94 hE k rfl (by rfl) (by rfl) rfl
      case h =>
        simp [go_sem, ↓IntWalk.iteOmega, ev e93]
        with_reducible rfl
      intro a109 hE e94 kp
      apply sq_det 95 hE k rfl (by rfl) (by rfl) rfl
      case h =>
        exact x_move rfl (hE.eval 14 (by rfl) e14)
      intro a110 hE e95 kp
      replace e94 := (kp 94 rfl).trans e94
      apply sq_det 96 hE k rfl (by rfl) (by rfl) rfl
      case h =>
        exact x_move rfl (hE.eval 17 (by rfl) e17)
      intro a111 hE e96 kp
      replace e94 := (kp 94 rfl).trans e94
      replace e95 := (kp 95 rfl).trans e95
      apply sq_det 97 hE k rfl (by rfl) (by rfl) rfl
      case h =>
        exact x_move rfl (hE.eval 16 (by rfl) e16)
      intro a112 hE e97 kp
      replace e94 := (kp 94 rfl).trans e94
      replace e95 := (kp 95 rfl).trans e95
      replace e96 := (kp 96 rfl).trans e96
      apply sq_det 98 hE k rfl (by rfl) (by rfl) rfl
      case h =>
        exact x_add rfl rfl e97 (by omega)
      intro a113 hE e98 kp
      replace e94 := (kp 94 rfl).trans e94
      replace e95 := (kp 95 rfl).trans e95
      replace e96 := (kp 96 rfl).trans e96
      replace e98 := e98.trans (int_eq (show 100 + (j : Int) = (vx : Int) by omega))
      apply sq_call 99 hE k rfl (by rfl) (by rfl) rfl
      case h =>
        simp [go_sem, ↓IntWalk.iteOmega, ev e94, ev e95, ev e96, ev e98]
        with_reducible exact ⟨rfl, rfl⟩
      case hc => exact mSet (R := _ :: []) (ky := kx) (ch := vx) _ O hTb.norm (by split <;> omega) (by omega) hk6 (by omega)
      clear O
      rintro e w115 ⟨N2, r2, er, B2, cap2, vs2, rfl, O, hPL⟩
      refine ⟨_, rfl, ?_⟩
      intro a114 hE e99 kp
      apply sq_det 92 hE k rfl (by rfl) (by rfl) rfl
      case h =>
        exact x_move rfl e99
      intro a116 hE e92 kp
      apply sq_det 100 hE k rfl (by rfl) (by rfl) rfl
      case h =>
        simp [go_sem, ↓IntWalk.iteOmega, ev e92]
        with_reducible rfl
      intro a117 hE e100 kp
      replace e92 := (kp 92 rfl).trans e92
      apply sq_det 101 hE k rfl (by rfl) (by rfl) rfl
      case h =>
        simp [go_sem, ↓IntWalk.iteOmega, ev e92]
        with_reducible rfl
      intro a118 hE e101 kp
      replace e100 := (kp 100 rfl).trans e100
      apply sq_det 18 hE k rfl (by rfl) (by rfl) rfl
      case h =>
        exact x_assign rfl e100
      intro a119 hE e18 kp
      replace e101 := (kp 101 rfl).trans e101
      apply sq_det 19 hE k rfl (by rfl) (by rfl) rfl
      case h =>
        exact x_assign rfl e101
      intro a120 hE e19 kp
      replace e18 := (kp 18 rfl).trans e18
      refine wpList_nil ?_
      replace e1 := hE.eval 1 (by rfl) e1
      replace e2 := hE.eval 2 (by rfl) e2
      replace e7 := hE.eval 7 (by rfl) e7
      replace e8 := hE.eval 8 (by rfl) e8
      replace e12 := hE.eval 12 (by rfl) e12
      replace e13 := hE.eval 13 (by rfl) e13
      replace e15 := hE.eval 15 (by rfl) e15
      replace e16 := hE.eval 16 (by rfl) e16
      replace e17 := hE.eval 17 (by rfl) e17
      replace k := k.env hE
      clear hE e14
      refine then_n ?_
      rcases hPL with ⟨⟨M, rfl, hM⟩, ⟨rfl, rfl, -⟩ | ⟨rfl, r, rfl, hr1, hr2, hT2⟩⟩
      · skip
        refine wp_seq ?_
        refine wp_seq ?_
        refine wp_region_lit ?_
        have hE := Env.refl a120 [102, 103]
        apply sq_det 102 hE k rfl (by rfl) (by rfl) rfl
        case h =>
          exact x_move rfl (hE.eval 19 (by rfl) e19)
        intro a121 hE e102 kp
        apply sq_det 103 hE k rfl (by rfl) (by rfl) rfl
        case h =>
          exact x_neq rfl e102 rfl
        intro a122 hE e103 kp
        refine wpList_nil ?_
        replace e1 := hE.eval 1 (by rfl) e1
        replace e2 := hE.eval 2 (by rfl) e2
        replace e7 := hE.eval 7 (by rfl) e7
        replace e8 := hE.eval 8 (by rfl) e8
        replace e12 := hE.eval 12 (by rfl) e12
        replace e13 := hE.eval 13 (by rfl) e13
        replace e15 := hE.eval 15 (by rfl) e15
        replace e16 := hE.eval 16 (by rfl) e16
        replace e17 := hE.eval 17 (by rfl) e17
        replace e18 := hE.eval 18 (by rfl) e18
        replace e19 := hE.eval 19 (by rfl) e19
        replace k := k.env hE
        clear hE
        refine then_n ?_
        refine cond_t e103 rfl ?_
        refine wp_seq ?_
        refine wp_region_lit ?_
        have hE := Env.refl a122 [104, 105, 6]
        apply sq_det 104 hE k rfl (by rfl) (by rfl) rfl
        case h =>
          exact x_move rfl (hE.eval 19 (by rfl) e19)
        intro a123 hE e104 kp
        apply sq_det 105 hE k rfl (by rfl) (by rfl) rfl
        case h =>
          exact x_eql rfl e104 rfl
        intro a124 hE e105 kp
        apply sq_det 6 hE k rfl (by rfl) (by rfl) rfl
        case h =>
          exact x_assign rfl e105
        intro a125 hE e6 kp
        refine wpList_nil ?_
        replace k := k.env hE
        clear hE e1 e2 e7 e8 e12 e13 e15 e16 e17 e18 e19 e103
        refine then_n ?_
        refine wp_ret ?_
        refine then_r ?_
        refine block_r ?_
        refine then_r ?_
        refine then_r ?_
        refine block_r ?_
        refine then_r ?_
        refine ret_F1 rfl k e6 ?_
        exact ⟨rfl, O.below⟩
      · skip
        replace hT2 := hT2.next (by omega)
        have hlk2 : ∀ z y, z < j + 1 → xs2[z]? = some y → ∃ v, lookP (uN y % 64) (insP (kx, vx) Pb) = some v ∧ 100 ≤ v := fun z y hz hy => by
          by_cases e : uN y % 64 = kx
          · rw [e]; exact ⟨vx, lookP_self, by omega⟩
          · rw [lookP_other e]
            refine hlk z y ?_ hy
            rcases Nat.lt_succ_iff_lt_or_eq.1 hz with h | h
            · exact h
            · subst h; rw [hx] at hy; injection hy with hy; subst hy; exact absurd hkx e
        
        refine wp_seq ?_
        refine wp_seq ?_
        refine wp_region_lit ?_
        have hE := Env.refl a120 [102, 103]
        apply sq_det 102 hE k rfl (by rfl) (by rfl) rfl
        case h =>
          exact x_move rfl (hE.eval 19 (by rfl) e19)
        intro a126 hE e102 kp
        apply sq_det 103 hE k rfl (by rfl) (by rfl) rfl
        case h =>
          exact x_neq rfl e102 rfl
        intro a127 hE e103 kp
        refine wpList_nil ?_
        replace e1 := hE.eval 1 (by rfl) e1
        replace e2 := hE.eval 2 (by rfl) e2
        replace e7 := hE.eval 7 (by rfl) e7
        replace e8 := hE.eval 8 (by rfl) e8
        replace e12 := hE.eval 12 (by rfl) e12
        replace e13 := hE.eval 13 (by rfl) e13
        replace e15 := hE.eval 15 (by rfl) e15
        replace e16 := hE.eval 16 (by rfl) e16
        replace e17 := hE.eval 17 (by rfl) e17
        replace e18 := hE.eval 18 (by rfl) e18
        replace e19 := hE.eval 19 (by rfl) e19
        replace k := k.env hE
        clear hE
        refine then_n ?_
        refine cond_f e103 rfl ?_
        refine wp_skip ?_
        refine then_n ?_
        refine wp_seq ?_
        refine wp_region_lit ?_
        have hE := Env.refl a127 [106, 14]
        apply sq_det 106 hE k rfl (by rfl) (by rfl) rfl
        case h =>
          exact x_move rfl (hE.eval 18 (by rfl) e18)
        intro a128 hE e106 kp
        apply sq_det 14 hE k rfl (by rfl) (by rfl) rfl
        case h =>
          exact x_assign rfl e106
        intro a129 hE e14 kp
        refine wpList_nil ?_
        replace e1 := hE.eval 1 (by rfl) e1
        replace e2 := hE.eval 2 (by rfl) e2
        replace e7 := hE.eval 7 (by rfl) e7
        replace e8 := hE.eval 8 (by rfl) e8
        replace e12 := hE.eval 12 (by rfl) e12
        replace e13 := hE.eval 13 (by rfl) e13
        replace e15 := hE.eval 15 (by rfl) e15
        replace e16 := hE.eval 16 (by rfl) e16
        replace e17 := hE.eval 17 (by rfl) e17
        replace k := k.env hE
        clear hE e18 e19 e103
        refine then_n ?_
        refine wp_seq ?_
        refine wp_region_lit ?_
        have hE := Env.refl a129 [107]
        apply sq_det 107 hE k rfl (by rfl) (by rfl) rfl
        case h =>
          exact x_move rfl (hE.eval 2 (by rfl) e2)
        intro a130 hE e107 kp
        refine wpList_nil ?_
        replace e1 := hE.eval 1 (by rfl) e1
        replace e2 := hE.eval 2 (by rfl) e2
        replace e7 := hE.eval 7 (by rfl) e7
        replace e8 := hE.eval 8 (by rfl) e8
        replace e12 := hE.eval 12 (by rfl) e12
        replace e13 := hE.eval 13 (by rfl) e13
        replace e14 := hE.eval 14 (by rfl) e14
        replace e15 := hE.eval 15 (by rfl) e15
        replace e16 := hE.eval 16 (by rfl) e16
        replace e17 := hE.eval 17 (by rfl) e17
        replace k := k.env hE
        clear hE
        refine then_n ?_
        cases ag with
        | false =>
          refine cond_f e107 (rfl) ?_
          clear e17 e107
          refine wp_skip ?_
          refine block_n ?_
          refine then_n ?_
          refine wp_region_lit ?_
          have hE := Env.refl a130 [83, 84, 16]
          apply sq_det 83 hE k rfl (by rfl) (by rfl) rfl
          case h =>
            exact x_move rfl e16
          intro a131 hE e83 kp
          replace e16 := (kp 16 rfl).trans e16
          apply sq_det 84 hE k rfl (by rfl) (by rfl) rfl
          case h =>
            exact x_add rfl e83 rfl (by omega)
          intro a132 hE e84 kp
          replace e16 := (kp 16 rfl).trans e16
          apply sq_det 16 hE k rfl (by rfl) (by rfl) rfl
          case h =>
            exact x_assign rfl e84
          intro a133 hE e16 kp
          refine wpList_nil ?_
          replace e1 := hE.eval 1 (by rfl) e1
          replace e2 := hE.eval 2 (by rfl) e2
          replace e7 := hE.eval 7 (by rfl) e7
          replace e8 := hE.eval 8 (by rfl) e8
          replace e12 := hE.eval 12 (by rfl) e12
          replace e13 := hE.eval 13 (by rfl) e13
          replace e14 := hE.eval 14 (by rfl) e14
          replace e15 := hE.eval 15 (by rfl) e15
          replace k := k.env hE
          clear hE
          refine then_n ?_
          refine ⟨⟨k, e1, e2, e7, e8, e12, e13, j + 1, r, rc, insP (kx, vx) Pb, Pc, N ++ M, B2, cap2, vs2, e14, e15, e16, by omega, by simp only [List.length_append]; omega, hT.mono M, hT2.le (by omega), (hTc.mono M).le (by omega), ins_ok hPb hk6 (by omega), hPc, (fun h => by cases h), hlk2, O⟩, ?_⟩
          rw [e16, mi]; simp only [intOf]; omega
        | true =>
          refine cond_t e107 (rfl) ?_
          clear e107
          refine wp_seq ?_
          refine wp_region_lit ?_
          have hE := Env.refl a130 [109, 110, 111, 112, 113, 114, 115, 108, 116, 117, 18, 19]
          apply sq_det 109 hE k rfl (by rfl) (by rfl) rfl
          case h =>
            exact x_move rfl (hE.eval 7 (by rfl) e7)
          intro a134 hE e109 kp
          apply sq_det 110 hE k rfl (by rfl) (by rfl) rfl
          case h =>
            simp [go_sem, ↓IntWalk.iteOmega, ev e109]
            with_reducible rfl
          intro a135 hE e110 kp
          apply sq_det 111 hE k rfl (by rfl) (by rfl) rfl
          case h =>
            exact x_move rfl (hE.eval 15 (by rfl) e15)
          intro a136 hE e111 kp
          replace e110 := (kp 110 rfl).trans e110
          apply sq_det 112 hE k rfl (by rfl) (by rfl) rfl
          case h =>
            exact x_move rfl (hE.eval 17 (by rfl) e17)
          intro a137 hE e112 kp
          replace e110 := (kp 110 rfl).trans e110
          replace e111 := (kp 111 rfl).trans e111
          apply sq_det 113 hE k rfl (by rfl) (by rfl) rfl
          case h =>
            exact x_move rfl (hE.eval 16 (by rfl) e16)
          intro a138 hE e113 kp
          replace e110 := (kp 110 rfl).trans e110
          replace e111 := (kp 111 rfl).trans e111
          replace e112 := (kp 112 rfl).trans e112
          apply sq_det 114 hE k rfl (by rfl) (by rfl) rfl
          case h =>
            exact x_add rfl rfl e113 (by omega)
          intro a139 hE e114 kp
          replace e110 := (kp 110 rfl).trans e110
          replace e111 := (kp 111 rfl).trans e111
          replace e112 := (kp 112 rfl).trans e112
          replace e114 := e114.trans (int_eq (show 100 + (j : Int) = (vx : Int) by omega))
          apply sq_call 115 hE k rfl (by rfl) (by rfl) rfl
          case h =>
            simp [go_sem, ↓IntWalk.iteOmega, ev e110, ev e111, ev e112, ev e114]
            with_reducible exact ⟨rfl, rfl⟩
          case hc => exact mSet (R := _ :: []) (ky := kx) (ch := vx) _ O (hTc.mono M).norm (by split <;> omega) (by rw [List.length_append]; omega) hk6 (by omega)
          clear O
          rintro e w141 ⟨N3, r3, er, B3, cap3, vs3, rfl, O, hPL⟩
          refine ⟨_, rfl, ?_⟩
          intro a140 hE e115 kp
          apply sq_det 108 hE k rfl (by rfl) (by rfl) rfl
          case h =>
            exact x_move rfl e115
          intro a142 hE e108 kp
          apply sq_det 116 hE k rfl (by rfl) (by rfl) rfl
          case h =>
            simp [go_sem, ↓IntWalk.iteOmega, ev e108]
            with_reducible rfl
          intro a143 hE e116 kp
          replace e108 := (kp 108 rfl).trans e108
          apply sq_det 117 hE k rfl (by rfl) (by rfl) rfl
          case h =>
            simp [go_sem, ↓IntWalk.iteOmega, ev e108]
            with_reducible rfl
          intro a144 hE e117 kp
          replace e116 := (kp 116 rfl).trans e116
          apply sq_det 18 hE k rfl (by rfl) (by rfl) rfl
          case h =>
            exact x_assign rfl e116
          intro a145 hE e18 kp
          replace e117 := (kp 117 rfl).trans e117
          apply sq_det 19 hE k rfl (by rfl) (by rfl) rfl
          case h =>
            exact x_assign rfl e117
          intro a146 hE e19 kp
          replace e18 := (kp 18 rfl).trans e18
          refine wpList_nil ?_
          replace e1 := hE.eval 1 (by rfl) e1
          replace e2 := hE.eval 2 (by rfl) e2
          replace e7 := hE.eval 7 (by rfl) e7
          replace e8 := hE.eval 8 (by rfl) e8
          replace e12 := hE.eval 12 (by rfl) e12
          replace e13 := hE.eval 13 (by rfl) e13
          replace e14 := hE.eval 14 (by rfl) e14
          replace e16 := hE.eval 16 (by rfl) e16
          replace k := k.env hE
          clear hE e15 e17
          refine then_n ?_
          rcases hPL with ⟨⟨M3, rfl, hM3⟩, ⟨rfl, rfl, -⟩ | ⟨rfl, r3, rfl, hr31, hr32, hT3⟩⟩
          · skip
            refine wp_seq ?_
            refine wp_seq ?_
            refine wp_region_lit ?_
            have hE := Env.refl a146 [118, 119]
            apply sq_det 118 hE k rfl (by rfl) (by rfl) rfl
            case h =>
              exact x_move rfl (hE.eval 19 (by rfl) e19)
            intro a147 hE e118 kp
            apply sq_det 119 hE k rfl (by rfl) (by rfl) rfl
            case h =>
              exact x_neq rfl e118 rfl
            intro a148 hE e119 kp
            refine wpList_nil ?_
            replace e1 := hE.eval 1 (by rfl) e1
            replace e2 := hE.eval 2 (by rfl) e2
            replace e7 := hE.eval 7 (by rfl) e7
            replace e8 := hE.eval 8 (by rfl) e8
            replace e12 := hE.eval 12 (by rfl) e12
            replace e13 := hE.eval 13 (by rfl) e13
            replace e14 := hE.eval 14 (by rfl) e14
            replace e16 := hE.eval 16 (by rfl) e16
            replace e18 := hE.eval 18 (by rfl) e18
            replace e19 := hE.eval 19 (by rfl) e19
            replace k := k.env hE
            clear hE
            refine then_n ?_
            refine cond_t e119 rfl ?_
            refine wp_seq ?_
            refine wp_region_lit ?_
            have hE := Env.refl a148 [120, 121, 6]
            apply sq_det 120 hE k rfl (by rfl) (by rfl) rfl
            case h =>
              exact x_move rfl (hE.eval 19 (by rfl) e19)
            intro a149 hE e120 kp
            apply sq_det 121 hE k rfl (by rfl) (by rfl) rfl
            case h =>
              exact x_eql rfl e120 rfl
            intro a150 hE e121 kp
            apply sq_det 6 hE k rfl (by rfl) (by rfl) rfl
            case h =>
              exact x_assign rfl e121
            intro a151 hE e6 kp
            refine wpList_nil ?_
            replace k := k.env hE
            clear hE e1 e2 e7 e8 e12 e13 e14 e16 e18 e19 e119
            refine then_n ?_
            refine wp_ret ?_
            refine then_r ?_
            refine block_r ?_
            refine then_r ?_
            refine then_r ?_
            refine block_r ?_
            refine then_r ?_
            refine ret_F1 rfl k e6 ?_
            exact ⟨rfl, O.below⟩
          · skip
            replace hT3 := hT3.next (by omega)
            refine wp_seq ?_
            refine wp_seq ?_
            refine wp_region_lit ?_
            have hE := Env.refl a146 [118, 119]
            apply sq_det 118 hE k rfl (by rfl) (by rfl) rfl
            case h =>
              exact x_move rfl (hE.eval 19 (by rfl) e19)
            intro a152 hE e118 kp
            apply sq_det 119 hE k rfl (by rfl) (by rfl) rfl
            case h =>
              exact x_neq rfl e118 rfl
            intro a153 hE e119 kp
            refine wpList_nil ?_
            replace e1 := hE.eval 1 (by rfl) e1
            replace e2 := hE.eval 2 (by rfl) e2
            replace e7 := hE.eval 7 (by rfl) e7
            replace e8 := hE.eval 8 (by rfl) e8
            replace e12 := hE.eval 12 (by rfl) e12
            replace e13 := hE.eval 13 (by rfl) e13
            replace e14 := hE.eval 14 (by rfl) e14
            replace e16 := hE.eval 16 (by rfl) e16
            replace e18 := hE.eval 18 (by rfl) e18
            replace e19 := hE.eval 19 (by rfl) e19
            replace k := k.env hE
            clear hE
            refine then_n ?_
            refine cond_f e119 rfl ?_
            refine wp_skip ?_
            refine then_n ?_
            refine wp_region_lit ?_
            have hE := Env.refl a153 [122, 15]
            apply sq_det 122 hE k rfl (by rfl) (by rfl) rfl
            case h =>
              exact x_move rfl (hE.eval 18 (by rfl) e18)
            intro a154 hE e122 kp
            apply sq_det 15 hE k rfl (by rfl) (by rfl) rfl
            case h =>
              exact x_assign rfl e122
            intro a155 hE e15 kp
            refine wpList_nil ?_
            replace e1 := hE.eval 1 (by rfl) e1
            replace e2 := hE.eval 2 (by rfl) e2
            replace e7 := hE.eval 7 (by rfl) e7
            replace e8 := hE.eval 8 (by rfl) e8
            replace e12 := hE.eval 12 (by rfl) e12
            replace e13 := hE.eval 13 (by rfl) e13
            replace e14 := hE.eval 14 (by rfl) e14
            replace e16 := hE.eval 16 (by rfl) e16
            replace k := k.env hE
            clear hE e18 e19 e119
            refine block_n ?_
            refine then_n ?_
            refine wp_region_lit ?_
            have hE := Env.refl a155 [83, 84, 16]
            apply sq_det 83 hE k rfl (by rfl) (by rfl) rfl
            case h =>
              exact x_move rfl e16
            intro a156 hE e83 kp
            replace e16 := (kp 16 rfl).trans e16
            apply sq_det 84 hE k rfl (by rfl) (by rfl) rfl
            case h =>
              exact x_add rfl e83 rfl (by omega)
            intro a157 hE e84 kp
            replace e16 := (kp 16 rfl).trans e16
            apply sq_det 16 hE k rfl (by rfl) (by rfl) rfl
            case h =>
              exact x_assign rfl e84
            intro a158 hE e16 kp
            refine wpList_nil ?_
            replace e1 := hE.eval 1 (by rfl) e1
            replace e2 := hE.eval 2 (by rfl) e2
            replace e7 := hE.eval 7 (by rfl) e7
            replace e8 := hE.eval 8 (by rfl) e8
            replace e12 := hE.eval 12 (by rfl) e12
            replace e13 := hE.eval 13 (by rfl) e13
            replace e14 := hE.eval 14 (by rfl) e14
            replace e15 := hE.eval 15 (by rfl) e15
            replace k := k.env hE
            clear hE
            refine then_n ?_
            refine ⟨⟨k, e1, e2, e7, e8, e12, e13, j + 1, r, r3, insP (kx, vx) Pb, insP (kx, vx) Pc, (N ++ M) ++ M3, B3, cap3, vs3, e14, e15, e16, by omega, by simp only [List.length_append]; omega, (hT.mono M).mono M3, (hT2.mono M3).le (by omega), hT3.le (by omega), ins_ok hPb hk6 (by omega), ins_ok hPc hk6 (by omega), (fun _ => by rw [hag rfl]), hlk2, O⟩, ?_⟩
            rw [e16, mi]; simp only [intOf]; omega
    · skip
      obtain rfl : n2 = j := by omega
      have hLa := hT.len
      have hLb := hTb.len
      have hLc := hTc.len
      clear mi
      refine wp_seq ?_
      refine wp_seq ?_
      refine wp_region_lit ?_
      have hE := Env.refl a94 [79, 80, 81, 82]
      apply sq_det 79 hE k rfl (by rfl) (by rfl) rfl
      case h =>
        exact x_move rfl (hE.eval 16 (by rfl) e16)
      intro a159 hE e79 kp
      apply sq_det 80 hE k rfl (by rfl) (by rfl) rfl
      case h =>
        exact x_move rfl (hE.eval 1 (by rfl) e1)
      intro a160 hE e80 kp
      replace e79 := (kp 79 rfl).trans e79
      apply sq_det 81 hE k rfl (by rfl) (by rfl) rfl
      case h =>
        exact x_len Try.underlying51 rfl e80
      intro a161 hE e81 kp
      replace e79 := (kp 79 rfl).trans e79
      apply sq_det 82 hE k rfl (by rfl) (by rfl) rfl
      case h =>
        exact x_dec (x_lss rfl e79 e81) (decide_eq_false (by omega))
      intro a162 hE e82 kp
      refine wpList_nil ?_
      replace e1 := hE.eval 1 (by rfl) e1
      replace e2 := hE.eval 2 (by rfl) e2
      replace e7 := hE.eval 7 (by rfl) e7
      replace e8 := hE.eval 8 (by rfl) e8
      replace e12 := hE.eval 12 (by rfl) e12
      replace e13 := hE.eval 13 (by rfl) e13
      replace e14 := hE.eval 14 (by rfl) e14
      replace e15 := hE.eval 15 (by rfl) e15
      replace e16 := hE.eval 16 (by rfl) e16
      replace k := k.env hE
      clear hE
      refine then_n ?_
      refine cond_f e82 rfl ?_
      refine wp_exit ?_
      refine then_x ?_
      refine then_x ?_
      refine block_x ?_
      refine then_n ?_
      refine wp_seq ?_
      refine wp_region_lit ?_
      have hE := Env.refl a162 [124, 125, 126, 127, 123, 128, 129, 20, 21]
      apply sq_det 124 hE k rfl (by rfl) (by rfl) rfl
      case h =>
        exact x_move rfl (hE.eval 7 (by rfl) e7)
      intro a163 hE e124 kp
      apply sq_det 125 hE k rfl (by rfl) (by rfl) rfl
      case h =>
        simp [go_sem, ↓IntWalk.iteOmega, ev e124]
        with_reducible rfl
      intro a164 hE e125 kp
      apply sq_det 126 hE k rfl (by rfl) (by rfl) rfl
      case h =>
        exact x_move rfl (hE.eval 8 (by rfl) e8)
      intro a165 hE e126 kp
      replace e125 := (kp 125 rfl).trans e125
      apply sq_call 127 hE k rfl (by rfl) (by rfl) rfl
      case h =>
        simp [go_sem, ↓IntWalk.iteOmega, ev e125, ev e126]
        with_reducible exact ⟨rfl, rfl⟩
      case hc => exact mList (R := _ :: []) _ O hT (by omega) (by omega)
      rintro e w167 hL
      obtain ⟨Bn, cn, rfl, O⟩ := (hL.resolve_right (fun h => absurd (hP.symm.trans h.1) Bool.noConfusion)).2
      clear hL
      refine ⟨_, rfl, ?_⟩
      intro a166 hE e127 kp
      apply sq_det 123 hE k rfl (by rfl) (by rfl) rfl
      case h =>
        exact x_move rfl e127
      intro a168 hE e123 kp
      apply sq_det 128 hE k rfl (by rfl) (by rfl) rfl
      case h =>
        simp [go_sem, ↓IntWalk.iteOmega, ev e123]
        with_reducible rfl
      intro a169 hE e128 kp
      replace e123 := (kp 123 rfl).trans e123
      apply sq_det 129 hE k rfl (by rfl) (by rfl) rfl
      case h =>
        simp [go_sem, ↓IntWalk.iteOmega, ev e123]
        with_reducible rfl
      intro a170 hE e129 kp
      replace e128 := (kp 128 rfl).trans e128
      apply sq_det 20 hE k rfl (by rfl) (by rfl) rfl
      case h =>
        exact x_assign rfl e128
      intro a171 hE e20 kp
      replace e129 := (kp 129 rfl).trans e129
      apply sq_det 21 hE k rfl (by rfl) (by rfl) rfl
      case h =>
        exact x_assign rfl e129
      intro a172 hE e21 kp
      replace e20 := (kp 20 rfl).trans e20
      refine wpList_nil ?_
      replace e1 := hE.eval 1 (by rfl) e1
      replace e2 := hE.eval 2 (by rfl) e2
      replace e7 := hE.eval 7 (by rfl) e7
      replace e12 := hE.eval 12 (by rfl) e12
      replace e13 := hE.eval 13 (by rfl) e13
      replace e14 := hE.eval 14 (by rfl) e14
      replace e15 := hE.eval 15 (by rfl) e15
      replace k := k.env hE
      clear hE e8 e16 e82
      refine then_n ?_
      refine wp_seq ?_
      refine wp_region_lit ?_
      have hE := Env.refl a172 [131, 132, 133, 134, 130, 135, 136, 22, 23]
      apply sq_det 131 hE k rfl (by rfl) (by rfl) rfl
      case h =>
        exact x_move rfl (hE.eval 7 (by rfl) e7)
      intro a173 hE e131 kp
      apply sq_det 132 hE k rfl (by rfl) (by rfl) rfl
      case h =>
        simp [go_sem, ↓IntWalk.iteOmega, ev e131]
        with_reducible rfl
      intro a174 hE e132 kp
      apply sq_det 133 hE k rfl (by rfl) (by rfl) rfl
      case h =>
        exact x_move rfl (hE.eval 14 (by rfl) e14)
      intro a175 hE e133 kp
      replace e132 := (kp 132 rfl).trans e132
      apply sq_call 134 hE k rfl (by rfl) (by rfl) rfl
      case h =>
        simp [go_sem, ↓IntWalk.iteOmega, ev e132, ev e133]
        with_reducible exact ⟨rfl, rfl⟩
      case hc => exact mList (R := _ :: _ :: []) _ O hTb (by omega) (by omega)
      rintro e w177 hL
      obtain ⟨Bx, cx, rfl, O⟩ := (hL.resolve_right (fun h => absurd (hPb.symm.trans h.1) Bool.noConfusion)).2
      clear hL
      refine ⟨_, rfl, ?_⟩
      intro a176 hE e134 kp
      apply sq_det 130 hE k rfl (by rfl) (by rfl) rfl
      case h =>
        exact x_move rfl e134
      intro a178 hE e130 kp
      apply sq_det 135 hE k rfl (by rfl) (by rfl) rfl
      case h =>
        simp [go_sem, ↓IntWalk.iteOmega, ev e130]
        with_reducible rfl
      intro a179 hE e135 kp
      replace e130 := (kp 130 rfl).trans e130
      apply sq_det 136 hE k rfl (by rfl) (by rfl) rfl
      case h =>
        simp [go_sem, ↓IntWalk.iteOmega, ev e130]
        with_reducible rfl
      intro a180 hE e136 kp
      replace e135 := (kp 135 rfl).trans e135
      apply sq_det 22 hE k rfl (by rfl) (by rfl) rfl
      case h =>
        exact x_assign rfl e135
      intro a181 hE e22 kp
      replace e136 := (kp 136 rfl).trans e136
      apply sq_det 23 hE k rfl (by rfl) (by rfl) rfl
      case h =>
        exact x_assign rfl e136
      intro a182 hE e23 kp
      replace e22 := (kp 22 rfl).trans e22
      refine wpList_nil ?_
      replace e1 := hE.eval 1 (by rfl) e1
      replace e2 := hE.eval 2 (by rfl) e2
      replace e7 := hE.eval 7 (by rfl) e7
      replace e12 := hE.eval 12 (by rfl) e12
      replace e13 := hE.eval 13 (by rfl) e13
      replace e14 := hE.eval 14 (by rfl) e14
      replace e15 := hE.eval 15 (by rfl) e15
      replace e20 := hE.eval 20 (by rfl) e20
      replace e21 := hE.eval 21 (by rfl) e21
      replace k := k.env hE
      clear hE
      refine then_n ?_
      refine wp_seq ?_
      refine wp_region_lit ?_
      have hE := Env.refl a182 [138, 139, 140, 141, 137, 142, 143, 24, 25]
      apply sq_det 138 hE k rfl (by rfl) (by rfl) rfl
      case h =>
        exact x_move rfl (hE.eval 7 (by rfl) e7)
      intro a183 hE e138 kp
      apply sq_det 139 hE k rfl (by rfl) (by rfl) rfl
      case h =>
        simp [go_sem, ↓IntWalk.iteOmega, ev e138]
        with_reducible rfl
      intro a184 hE e139 kp
      apply sq_det 140 hE k rfl (by rfl) (by rfl) rfl
      case h =>
        exact x_move rfl (hE.eval 15 (by rfl) e15)
      intro a185 hE e140 kp
      replace e139 := (kp 139 rfl).trans e139
      apply sq_call 141 hE k rfl (by rfl) (by rfl) rfl
      case h =>
        simp [go_sem, ↓IntWalk.iteOmega, ev e139, ev e140]
        with_reducible exact ⟨rfl, rfl⟩
      case hc => exact mList (R := _ :: _ :: _ :: []) _ O hTc (by omega) (by omega)
      rintro e w187 hL
      obtain ⟨By, cy, rfl, O⟩ := (hL.resolve_right (fun h => absurd (hPc.symm.trans h.1) Bool.noConfusion)).2
      clear hL
      refine ⟨_, rfl, ?_⟩
      intro a186 hE e141 kp
      apply sq_det 137 hE k rfl (by rfl) (by rfl) rfl
      case h =>
        exact x_move rfl e141
      intro a188 hE e137 kp
      apply sq_det 142 hE k rfl (by rfl) (by rfl) rfl
      case h =>
        simp [go_sem, ↓IntWalk.iteOmega, ev e137]
        with_reducible rfl
      intro a189 hE e142 kp
      replace e137 := (kp 137 rfl).trans e137
      apply sq_det 143 hE k rfl (by rfl) (by rfl) rfl
      case h =>
        simp [go_sem, ↓IntWalk.iteOmega, ev e137]
        with_reducible rfl
      intro a190 hE e143 kp
      replace e142 := (kp 142 rfl).trans e142
      apply sq_det 24 hE k rfl (by rfl) (by rfl) rfl
      case h =>
        exact x_assign rfl e142
      intro a191 hE e24 kp
      replace e143 := (kp 143 rfl).trans e143
      apply sq_det 25 hE k rfl (by rfl) (by rfl) rfl
      case h =>
        exact x_assign rfl e143
      intro a192 hE e25 kp
      replace e24 := (kp 24 rfl).trans e24
      refine wpList_nil ?_
      replace e1 := hE.eval 1 (by rfl) e1
      replace e2 := hE.eval 2 (by rfl) e2
      replace e7 := hE.eval 7 (by rfl) e7
      replace e12 := hE.eval 12 (by rfl) e12
      replace e13 := hE.eval 13 (by rfl) e13
      replace e14 := hE.eval 14 (by rfl) e14
      replace e20 := hE.eval 20 (by rfl) e20
      replace e21 := hE.eval 21 (by rfl) e21
      replace e22 := hE.eval 22 (by rfl) e22
      replace e23 := hE.eval 23 (by rfl) e23
      replace k := k.env hE
      clear hE e15
      refine then_n ?_
      refine wp_seq ?_
      refine wp_seq ?_
      refine wp_region_lit ?_
      have hE := Env.refl a192 [144, 145, 146, 147, 148, 149, 150, 151, 152, 153, 154, 155, 156, 157, 158, 159, 160, 161, 162, 163, 164]
      apply sq_det 144 hE k rfl (by rfl) (by rfl) rfl
      case h =>
        exact x_move rfl (hE.eval 13 (by rfl) e13)
      intro a193 hE e144 kp
      apply sq_det 145 hE k rfl (by rfl) (by rfl) rfl
      case h =>
        exact x_neq rfl e144 rfl
      intro a194 hE e145 kp
      apply sq_det 146 hE k rfl (by rfl) (by rfl) rfl
      case h =>
        exact x_move rfl e145
      intro a195 hE e146 kp
      apply sq_detg 147 hE k rfl (by rfl) (by rfl) rfl rfl e146
      case h =>
        exact x_move rfl (hE.eval 21 (by rfl) e21)
      intro a196 hE e147 kp
      replace e146 := (kp 146 rfl).trans e146
      apply sq_detg 148 hE k rfl (by rfl) (by rfl) rfl rfl e146
      case h =>
        exact x_neq rfl e147 rfl
      intro a197 hE e148 kp
      replace e146 := (kp 146 rfl).trans e146
      apply sq_det 149 hE k rfl (by rfl) (by rfl) rfl
      case h =>
        exact x_pick_f rfl e146 e148
      intro a198 hE e149 kp
      apply sq_det 150 hE k rfl (by rfl) (by rfl) rfl
      case h =>
        exact x_move rfl e149
      intro a199 hE e150 kp
      apply sq_detg 151 hE k rfl (by rfl) (by rfl) rfl rfl e150
      case h =>
        exact x_move rfl (hE.eval 23 (by rfl) e23)
      intro a200 hE e151 kp
      replace e150 := (kp 150 rfl).trans e150
      apply sq_detg 152 hE k rfl (by rfl) (by rfl) rfl rfl e150
      case h =>
        exact x_neq rfl e151 rfl
      intro a201 hE e152 kp
      replace e150 := (kp 150 rfl).trans e150
      apply sq_det 153 hE k rfl (by rfl) (by rfl) rfl
      case h =>
        exact x_pick_f rfl e150 e152
      intro a202 hE e153 kp
      apply sq_det 154 hE k rfl (by rfl) (by rfl) rfl
      case h =>
        exact x_move rfl e153
      intro a203 hE e154 kp
      apply sq_detg 155 hE k rfl (by rfl) (by rfl) rfl rfl e154
      case h =>
        exact x_move rfl (hE.eval 25 (by rfl) e25)
      intro a204 hE e155 kp
      replace e154 := (kp 154 rfl).trans e154
      apply sq_detg 156 hE k rfl (by rfl) (by rfl) rfl rfl e154
      case h =>
        exact x_neq rfl e155 rfl
      intro a205 hE e156 kp
      replace e154 := (kp 154 rfl).trans e154
      apply sq_det 157 hE k rfl (by rfl) (by rfl) rfl
      case h =>
        exact x_pick_f rfl e154 e156
      intro a206 hE e157 kp
      apply sq_det 158 hE k rfl (by rfl) (by rfl) rfl
      case h =>
        exact x_move rfl e157
      intro a207 hE e158 kp
      apply sq_detg 159 hE k rfl (by rfl) (by rfl) rfl rfl e158
      case h =>
        exact x_move rfl (hE.eval 12 (by rfl) e12)
      intro a208 hE e159 kp
      replace e158 := (kp 158 rfl).trans e158
      apply sq_detg 160 hE k rfl (by rfl) (by rfl) rfl rfl e158
      case h =>
        exact x_len Try.underlying65 rfl e159
      intro a209 hE e160 kp
      replace e158 := (kp 158 rfl).trans e158
      apply sq_detg 161 hE k rfl (by rfl) (by rfl) rfl rfl e158
      case h =>
        exact x_move rfl (hE.eval 20 (by rfl) e20)
      intro a210 hE e161 kp
      replace e158 := (kp 158 rfl).trans e158
      replace e160 := (kp 160 rfl).trans e160
      apply sq_detg 162 hE k rfl (by rfl) (by rfl) rfl rfl e158
      case h =>
        exact x_len Try.underlying65 rfl e161
      intro a211 hE e162 kp
      replace e158 := (kp 158 rfl).trans e158
      replace e160 := (kp 160 rfl).trans e160
      apply sq_detg 163 hE k rfl (by rfl) (by rfl) rfl rfl e158
      case h =>
        exact x_dec (x_neq rfl e160 e162) (decide_eq_false (by omega))
      intro a212 hE e163 kp
      replace e158 := (kp 158 rfl).trans e158
      apply sq_det 164 hE k rfl (by rfl) (by rfl) rfl
      case h =>
        exact x_pick_f rfl e158 e163
      intro a213 hE e164 kp
      refine wpList_nil ?_
      replace e1 := hE.eval 1 (by rfl) e1
      replace e2 := hE.eval 2 (by rfl) e2
      replace e7 := hE.eval 7 (by rfl) e7
      replace e12 := hE.eval 12 (by rfl) e12
      replace e14 := hE.eval 14 (by rfl) e14
      replace e20 := hE.eval 20 (by rfl) e20
      replace e22 := hE.eval 22 (by rfl) e22
      replace e24 := hE.eval 24 (by rfl) e24
      replace k := k.env hE
      clear hE e13 e21 e23 e25
      refine then_n ?_
      refine cond_f e164 rfl ?_
      refine wp_skip ?_
      refine then_n ?_
      refine wp_seq ?_
      refine wp_seq ?_
      refine wp_region_lit ?_
      have hE := Env.refl a213 [26]
      apply sq_det 26 hE k rfl (by rfl) (by rfl) rfl
      case h =>
        exact x_assign rfl rfl
      intro a214 hE e26 kp
      refine wpList_nil ?_
      replace e1 := hE.eval 1 (by rfl) e1
      replace e2 := hE.eval 2 (by rfl) e2
      replace e7 := hE.eval 7 (by rfl) e7
      replace e12 := hE.eval 12 (by rfl) e12
      replace e14 := hE.eval 14 (by rfl) e14
      replace e20 := hE.eval 20 (by rfl) e20
      replace e22 := hE.eval 22 (by rfl) e22
      replace e24 := hE.eval 24 (by rfl) e24
      replace k := k.env hE
      clear hE e164
      refine then_n ?_
      refine wp_block ?_
      refine wp_loop (fun a w => Fr 227 a ∧ a.eval (.tmp 1) = .slice A2 n2 cp2 ∧ a.eval (.tmp 2) = .bool ag ∧ a.eval (.tmp 7) = .pointer (some ⟨sb, 0, none⟩) ∧ a.eval (.tmp 12) = .slice Bw P.length cw ∧ a.eval (.tmp 14) = .int .i64 ↑rb ∧ a.eval (.tmp 20) = .slice Bn P.length cn ∧ a.eval (.tmp 22) = .slice Bx Pb.length cx ∧ a.eval (.tmp 24) = .slice By Pc.length cy ∧ ∃ z : Nat, a.eval (.tmp 26) = .int .i64 ↑z ∧ z ≤ P.length ∧ OwnT W0.heap.size W0 ((tBlk sb 28 #[.slice B N.length cap, .int .i64 511]) :: (tRow 125 2 (.slice B N.length cap) N.length (leafV vs N)) :: (tPool vs N) :: (tEs (.slice By Pc.length cy) Pc) :: (tEs (.slice Bx Pb.length cx) Pb) :: (tEs (.slice Bn P.length cn) P) :: (tEs (.slice Bw P.length cw) P) :: []) w) (fun a w => P.length - (intOf (a.eval (.tmp 26))).toNat) ?_ ?_
      · exact ⟨k, e1, e2, e7, e12, e14, e20, e22, e24, 0, e26, Nat.zero_le _, O⟩
      intro a215 w216 hI
      clear k e1 e2 e7 e12 e14 e20 e22 e24
      obtain ⟨k, e1, e2, e7, e12, e14, e20, e22, e24, h_⟩ := hI
      clear O e26
      obtain ⟨z, e26, hz, O⟩ := h_
      have mz := e26
      by_cases hlt : z < P.length
      · have hltI : (z : Int) < (P.length : Int) := by omega
        obtain ⟨x, hx⟩ : ∃ x, P[z]? = some x := ⟨_, List.getElem?_eq_getElem (by omega)⟩
        have hx2 : P[z]? = some x := hx
        have hl2' := (List.getElem?_eq_some_iff.1 hx2).1
        have hltI2 : (z : Int) < (P.length : Int) := by omega
        obtain ⟨gx, rfl, -, -⟩ := es_cells (OwnT.get O 6 rfl) hx
        obtain ⟨gy, rfl, -, -⟩ := es_cells (OwnT.get O 5 rfl) hx2
        refine wp_seq ?_
        refine wp_seq ?_
        refine wp_region_lit ?_
        have hE := Env.refl a215 [165, 166, 167, 168]
        apply sq_det 165 hE k rfl (by rfl) (by rfl) rfl
        case h =>
          exact x_move rfl (hE.eval 26 (by rfl) e26)
        intro a217 hE e165 kp
        apply sq_det 166 hE k rfl (by rfl) (by rfl) rfl
        case h =>
          exact x_move rfl (hE.eval 12 (by rfl) e12)
        intro a218 hE e166 kp
        replace e165 := (kp 165 rfl).trans e165
        apply sq_det 167 hE k rfl (by rfl) (by rfl) rfl
        case h =>
          exact x_len Try.underlying65 rfl e166
        intro a219 hE e167 kp
        replace e165 := (kp 165 rfl).trans e165
        apply sq_det 168 hE k rfl (by rfl) (by rfl) rfl
        case h =>
          exact x_dec (x_lss rfl e165 e167) (decide_eq_true (by omega))
        intro a220 hE e168 kp
        refine wpList_nil ?_
        replace e1 := hE.eval 1 (by rfl) e1
        replace e2 := hE.eval 2 (by rfl) e2
        replace e7 := hE.eval 7 (by rfl) e7
        replace e12 := hE.eval 12 (by rfl) e12
        replace e14 := hE.eval 14 (by rfl) e14
        replace e20 := hE.eval 20 (by rfl) e20
        replace e22 := hE.eval 22 (by rfl) e22
        replace e24 := hE.eval 24 (by rfl) e24
        replace e26 := hE.eval 26 (by rfl) e26
        replace k := k.env hE
        clear hE
        refine then_n ?_
        refine cond_t e168 rfl ?_
        refine wp_skip ?_
        refine then_n ?_
        refine wp_seq ?_
        refine wp_block ?_
        refine wp_seq ?_
        refine wp_typed (R := Ext) (w0 := w216) [[], [], [0, 1], [0, 1, 2], [], [], [4, 5], [4, 5, 6], [0, 1, 2, 3, 4, 5, 6, 7]] [171, 172, 173, 174, 175, 176, 177, 178, 179] Ext.refl (fun _ _ _ => Ext.trans) (Ext.drew _) (by kernel_rfl) ?_
        apply Build.det 171 Ext.refl (by rfl) (by rw [k.size]; rfl) rfl
        case h =>
          intro ax wx hE hR hF
          exact x_move rfl (hE.eval 12 (by rfl) e12)
        apply Build.det 172 Ext.refl (by rfl) (by rw [k.size]; rfl) rfl
        case h =>
          intro ax wx hE hR hF
          exact x_move rfl (hE.eval 26 (by rfl) e26)
        apply Build.det 173 Ext.refl (by rfl) (by rw [k.size]; rfl) rfl
        case h =>
          intro ax wx hE hR hF
          have e171 : ax.eval (.tmp 171) = _ := hF 0 (det 171 _) (by decide) (.tail _ (.head _))
          have e172 : ax.eval (.tmp 172) = _ := hF 1 (det 172 _) (by decide) (.head _)
          simp [go_sem, ↓IntWalk.iteOmega, ev e171, ev e172]
          with_reducible rfl
        apply Build.det 174 Ext.refl (by rfl) (by rw [k.size]; rfl) rfl
        case h =>
          intro ax wx hE hR hF
          have e173 : ax.eval (.tmp 173) = _ := hF 2 (det 173 _) (by decide) (.head _)
          obtain ⟨_, e, c0, c1⟩ := es_cells (OwnT.get (OwnT.ext O hR) 6 rfl : (tEs (.slice (some ⟨gx, 0, none⟩) P.length cw) P).holds _) hx; injection e with e; injection e with e; subst e
          simp [go_sem, ↓IntWalk.iteOmega, ev e173, c0, c1]
          with_reducible rfl
        apply Build.det 175 Ext.refl (by rfl) (by rw [k.size]; rfl) rfl
        case h =>
          intro ax wx hE hR hF
          exact x_move rfl (hE.eval 20 (by rfl) e20)
        apply Build.det 176 Ext.refl (by rfl) (by rw [k.size]; rfl) rfl
        case h =>
          intro ax wx hE hR hF
          exact x_move rfl (hE.eval 26 (by rfl) e26)
        apply Build.det 177 Ext.refl (by rfl) (by rw [k.size]; rfl) rfl
        case h =>
          intro ax wx hE hR hF
          have e175 : ax.eval (.tmp 175) = _ := hF 4 (det 175 _) (by decide) (.tail _ (.head _))
          have e176 : ax.eval (.tmp 176) = _ := hF 5 (det 176 _) (by decide) (.head _)
          simp [go_sem, ↓IntWalk.iteOmega, ev e175, ev e176]
          with_reducible rfl
        apply Build.det 178 Ext.refl (by rfl) (by rw [k.size]; rfl) rfl
        case h =>
          intro ax wx hE hR hF
          have e177 : ax.eval (.tmp 177) = _ := hF 6 (det 177 _) (by decide) (.head _)
          obtain ⟨_, e, c0, c1⟩ := es_cells (OwnT.get (OwnT.ext O hR) 5 rfl : (tEs (.slice (some ⟨gy, 0, none⟩) P.length cn) P).holds _) hx2; injection e with e; injection e with e; subst e
          simp [go_sem, ↓IntWalk.iteOmega, ev e177, c0, c1]
          with_reducible rfl
        apply Build.det 179 Ext.refl (by rfl) (by rw [k.size]; rfl) rfl
        case h =>
          intro ax wx hE hR hF
          have e174 : ax.eval (.tmp 174) = _ := hF 3 (det 174 _) (by decide) (.tail _ (.tail _ (.tail _ (.tail _ (.head _)))))
          have e178 : ax.eval (.tmp 178) = _ := hF 7 (det 178 _) (by decide) (.head _)
          exact x_dec (c := false) (x_neEn rfl e174 e178) (decide_eq_false (fun h => h ⟨rfl, rfl⟩))
        apply Build.stop
        refine ⟨by kernel_rfl, .inl ⟨rfl, ?_⟩⟩
        intro a221 w222 hE R hF
        have e179 : a221.eval (.tmp 179) = _ := hF 8 (det 179 _) (.head _)
        clear hF
        replace O := OwnT.ext O R
        clear R
        replace e1 := hE.eval 1 (by rfl) e1
        replace e2 := hE.eval 2 (by rfl) e2
        replace e7 := hE.eval 7 (by rfl) e7
        replace e12 := hE.eval 12 (by rfl) e12
        replace e14 := hE.eval 14 (by rfl) e14
        replace e20 := hE.eval 20 (by rfl) e20
        replace e22 := hE.eval 22 (by rfl) e22
        replace e24 := hE.eval 24 (by rfl) e24
        replace e26 := hE.eval 26 (by rfl) e26
        replace k := k.env hE
        clear hE e168
        refine then_n ?_
        refine cond_f e179 rfl ?_
        refine wp_skip ?_
        refine block_n ?_
        refine then_n ?_
        refine wp_region_lit ?_
        have hE := Env.refl a221 [169, 170, 26]
        apply sq_det 169 hE k rfl (by rfl) (by rfl) rfl
        case h =>
          exact x_move rfl e26
        intro a223 hE e169 kp
        replace e26 := (kp 26 rfl).trans e26
        apply sq_det 170 hE k rfl (by rfl) (by rfl) rfl
        case h =>
          exact x_add rfl e169 rfl (by omega)
        intro a224 hE e170 kp
        replace e26 := (kp 26 rfl).trans e26
        apply sq_det 26 hE k rfl (by rfl) (by rfl) rfl
        case h =>
          exact x_assign rfl e170
        intro a225 hE e26 kp
        refine wpList_nil ?_
        replace e1 := hE.eval 1 (by rfl) e1
        replace e2 := hE.eval 2 (by rfl) e2
        replace e7 := hE.eval 7 (by rfl) e7
        replace e12 := hE.eval 12 (by rfl) e12
        replace e14 := hE.eval 14 (by rfl) e14
        replace e20 := hE.eval 20 (by rfl) e20
        replace e22 := hE.eval 22 (by rfl) e22
        replace e24 := hE.eval 24 (by rfl) e24
        replace k := k.env hE
        clear hE e179
        refine then_n ?_
        refine ⟨⟨k, e1, e2, e7, e12, e14, e20, e22, e24, z + 1, e26, by omega, O⟩, ?_⟩
        rw [e26, mz]; simp only [intOf]; omega
      · clear mz
        refine wp_seq ?_
        refine wp_seq ?_
        refine wp_region_lit ?_
        have hE := Env.refl a215 [165, 166, 167, 168]
        apply sq_det 165 hE k rfl (by rfl) (by rfl) rfl
        case h =>
          exact x_move rfl (hE.eval 26 (by rfl) e26)
        intro a226 hE e165 kp
        apply sq_det 166 hE k rfl (by rfl) (by rfl) rfl
        case h =>
          exact x_move rfl (hE.eval 12 (by rfl) e12)
        intro a227 hE e166 kp
        replace e165 := (kp 165 rfl).trans e165
        apply sq_det 167 hE k rfl (by rfl) (by rfl) rfl
        case h =>
          exact x_len Try.underlying65 rfl e166
        intro a228 hE e167 kp
        replace e165 := (kp 165 rfl).trans e165
        apply sq_det 168 hE k rfl (by rfl) (by rfl) rfl
        case h =>
          exact x_dec (x_lss rfl e165 e167) (decide_eq_false (by omega))
        intro a229 hE e168 kp
        refine wpList_nil ?_
        replace e1 := hE.eval 1 (by rfl) e1
        replace e2 := hE.eval 2 (by rfl) e2
        replace e7 := hE.eval 7 (by rfl) e7
        replace e12 := hE.eval 12 (by rfl) e12
        replace e14 := hE.eval 14 (by rfl) e14
        replace e20 := hE.eval 20 (by rfl) e20
        replace e22 := hE.eval 22 (by rfl) e22
        replace e24 := hE.eval 24 (by rfl) e24
        replace e26 := hE.eval 26 (by rfl) e26
        replace k := k.env hE
        clear hE
        refine then_n ?_
        refine cond_f e168 rfl ?_
        refine wp_exit ?_
        refine then_x ?_
        refine then_x ?_
        refine block_x ?_
        refine then_n ?_
        refine wp_seq ?_
        refine wp_seq ?_
        refine wp_region_lit ?_
        have hE := Env.refl a229 [180]
        apply sq_det 180 hE k rfl (by rfl) (by rfl) rfl
        case h =>
          exact x_move rfl (hE.eval 2 (by rfl) e2)
        intro a230 hE e180 kp
        refine wpList_nil ?_
        replace e1 := hE.eval 1 (by rfl) e1
        replace e7 := hE.eval 7 (by rfl) e7
        replace e14 := hE.eval 14 (by rfl) e14
        replace e22 := hE.eval 22 (by rfl) e22
        replace e24 := hE.eval 24 (by rfl) e24
        replace k := k.env hE
        clear hE e2 e12 e20 e26 e168
        refine then_n ?_
        cases ag with
        | false =>
          refine cond_f e180 (rfl) ?_
          clear e22 e24 e180
          refine wp_skip ?_
          refine then_n ?_
          refine wp_seq ?_
          refine wp_seq ?_
          refine wp_region_lit ?_
          have hE := Env.refl a230 [28]
          apply sq_det 28 hE k rfl (by rfl) (by rfl) rfl
          case h =>
            exact x_assign rfl rfl
          intro a231 hE e28 kp
          refine wpList_nil ?_
          replace e1 := hE.eval 1 (by rfl) e1
          replace e7 := hE.eval 7 (by rfl) e7
          replace e14 := hE.eval 14 (by rfl) e14
          replace k := k.env hE
          clear hE
          refine then_n ?_
          refine wp_block ?_
          refine wp_loop (fun a w => Fr 227 a ∧ a.eval (.tmp 1) = .slice A2 n2 cp2 ∧ a.eval (.tmp 7) = .pointer (some ⟨sb, 0, none⟩) ∧ a.eval (.tmp 14) = .int .i64 ↑rb ∧ ∃ z : Nat, a.eval (.tmp 28) = .int .i64 ↑z ∧ z ≤ n2 ∧ OwnT W0.heap.size W0 ((tBlk sb 28 #[.slice B N.length cap, .int .i64 511]) :: (tRow 125 2 (.slice B N.length cap) N.length (leafV vs N)) :: (tPool vs N) :: (tEs (.slice By Pc.length cy) Pc) :: (tEs (.slice Bx Pb.length cx) Pb) :: (tEs (.slice Bn P.length cn) P) :: (tEs (.slice Bw P.length cw) P) :: []) w) (fun a w => n2 - (intOf (a.eval (.tmp 28))).toNat) ?_ ?_
          · exact ⟨k, e1, e7, e14, 0, e28, Nat.zero_le _, O⟩
          intro a232 w233 hI
          clear k e1 e7 e14
          obtain ⟨k, e1, e7, e14, h_⟩ := hI
          clear O e28
          obtain ⟨z, e28, hz, O⟩ := h_
          have mz := e28
          by_cases hlt : z < n2
          · have hltI : (z : Int) < (n2 : Int) := by omega
            obtain ⟨x, hx⟩ : ∃ x, xs2[z]? = some x := ⟨_, List.getElem?_eq_getElem (by omega)⟩
            obtain ⟨b1, o1, rfl, d0⟩ := row1I hrow2 O.below hx
            obtain ⟨kx, hkx⟩ : ∃ k, uN x % 64 = k := ⟨_, rfl⟩
            have hk6 : kx < 64 := by omega
            obtain ⟨vx, hv1, hv2⟩ := hlk z x hlt hx
            rw [hkx] at hv1
            -- have hG := Lib.hid (fun W O => mGet (R := _ :: _ :: _ :: _ :: []) (ky := kx) (B := B) (cap := cap) (vs := vs) (room := 511) (H := W0.heap.size) (A0 := W0) (sb := sb) W O hTb (by omega) hk6 (ok_le hPb))
            
            refine wp_seq ?_
            refine wp_seq ?_
            refine wp_region_lit ?_
            have hE := Env.refl a232 [201, 202, 203, 204]
            apply sq_det 201 hE k rfl (by rfl) (by rfl) rfl
            case h =>
              exact x_move rfl (hE.eval 28 (by rfl) e28)
            intro a234 hE e201 kp
            apply sq_det 202 hE k rfl (by rfl) (by rfl) rfl
            case h =>
              exact x_move rfl (hE.eval 1 (by rfl) e1)
            intro a235 hE e202 kp
            replace e201 := (kp 201 rfl).trans e201
            apply sq_det 203 hE k rfl (by rfl) (by rfl) rfl
            case h =>
              exact x_len Try.underlying51 rfl e202
            intro a236 hE e203 kp
            replace e201 := (kp 201 rfl).trans e201
            apply sq_det 204 hE k rfl (by rfl) (by rfl) rfl
            case h =>
              exact x_dec (x_lss rfl e201 e203) (decide_eq_true (by omega))
            intro a237 hE e204 kp
            refine wpList_nil ?_
            replace e1 := hE.eval 1 (by rfl) e1
            replace e7 := hE.eval 7 (by rfl) e7
            replace e14 := hE.eval 14 (by rfl) e14
            replace e28 := hE.eval 28 (by rfl) e28
            replace k := k.env hE
            clear hE
            refine then_n ?_
            refine cond_t e204 rfl ?_
            refine wp_skip ?_
            refine then_n ?_
            refine wp_seq ?_
            refine wp_block ?_
            refine wp_seq ?_
            refine wp_region_lit ?_
            have hE := Env.refl a237 [208, 209, 210, 211, 212, 213, 214, 215, 216, 217, 218, 207, 219, 220, 29, 30]
            apply sq_det 208 hE k rfl (by rfl) (by rfl) rfl
            case h =>
              exact x_move rfl (hE.eval 7 (by rfl) e7)
            intro a238 hE e208 kp
            apply sq_det 209 hE k rfl (by rfl) (by rfl) rfl
            case h =>
              simp [go_sem, ↓IntWalk.iteOmega, ev e208]
              with_reducible rfl
            intro a239 hE e209 kp
            apply sq_det 210 hE k rfl (by rfl) (by rfl) rfl
            case h =>
              exact x_move rfl (hE.eval 14 (by rfl) e14)
            intro a240 hE e210 kp
            replace e209 := (kp 209 rfl).trans e209
            apply sq_det 211 hE k rfl (by rfl) (by rfl) rfl
            case h =>
              exact x_move rfl (hE.eval 1 (by rfl) e1)
            intro a241 hE e211 kp
            replace e209 := (kp 209 rfl).trans e209
            replace e210 := (kp 210 rfl).trans e210
            apply sq_det 212 hE k rfl (by rfl) (by rfl) rfl
            case h =>
              exact x_move rfl (hE.eval 28 (by rfl) e28)
            intro a242 hE e212 kp
            replace e209 := (kp 209 rfl).trans e209
            replace e210 := (kp 210 rfl).trans e210
            replace e211 := (kp 211 rfl).trans e211
            apply sq_det 213 hE k rfl (by rfl) (by rfl) rfl
            case h =>
              simp [go_sem, ↓IntWalk.iteOmega, ev e211, ev e212]
              with_reducible rfl
            intro a243 hE e213 kp
            replace e209 := (kp 209 rfl).trans e209
            replace e210 := (kp 210 rfl).trans e210
            apply sq_det 214 hE k rfl (by rfl) (by rfl) rfl
            case h =>
              simp [go_sem, ↓IntWalk.iteOmega, ev e213, d0]
              with_reducible rfl
            intro a244 hE e214 kp
            replace e209 := (kp 209 rfl).trans e209
            replace e210 := (kp 210 rfl).trans e210
            apply sq_det 215 hE k rfl (by rfl) (by rfl) rfl
            case h =>
              exact x_conv rfl e214 (conv_uint x _)
            intro a245 hE e215 kp
            replace e209 := (kp 209 rfl).trans e209
            replace e210 := (kp 210 rfl).trans e210
            apply sq_det 216 hE k rfl (by rfl) (by rfl) rfl
            case h =>
              exact x_remU (m := uN x) (j := 64) rfl e215 rfl rfl (by decide)
            intro a246 hE e216 kp
            replace e209 := (kp 209 rfl).trans e209
            replace e210 := (kp 210 rfl).trans e210
            apply sq_det 217 hE k rfl (by rfl) (by rfl) rfl
            case h =>
              exact x_conv rfl e216 (conv_int _ _ (by omega))
            intro a247 hE e217 kp
            replace e209 := (kp 209 rfl).trans e209
            replace e210 := (kp 210 rfl).trans e210
            replace e217 := e217.trans (int_eq (show ((uN x % 64 : Nat) : Int) = (kx : Int) by rw [hkx]))
            apply sq_call 218 hE k rfl (by rfl) (by rfl) rfl
            case h =>
              simp [go_sem, ↓IntWalk.iteOmega, ev e209, ev e210, ev e217]
              with_reducible exact ⟨rfl, rfl⟩
            case hc => exact mGet (R := _ :: _ :: _ :: _ :: []) (ky := kx) _ O hTb (by omega) hk6 (ok_le hPb)
            clear O
            rintro e w249 ⟨rfl, O⟩
            refine ⟨.tuple #[.int .i64 ↑vx, .int .i64 0], by rw [hv1]; rfl, ?_⟩
            intro a248 hE e218 kp
            apply sq_det 207 hE k rfl (by rfl) (by rfl) rfl
            case h =>
              exact x_move rfl e218
            intro a250 hE e207 kp
            apply sq_det 219 hE k rfl (by rfl) (by rfl) rfl
            case h =>
              simp [go_sem, ↓IntWalk.iteOmega, ev e207]
              with_reducible rfl
            intro a251 hE e219 kp
            replace e207 := (kp 207 rfl).trans e207
            apply sq_det 220 hE k rfl (by rfl) (by rfl) rfl
            case h =>
              simp [go_sem, ↓IntWalk.iteOmega, ev e207]
              with_reducible rfl
            intro a252 hE e220 kp
            replace e219 := (kp 219 rfl).trans e219
            apply sq_det 29 hE k rfl (by rfl) (by rfl) rfl
            case h =>
              exact x_assign rfl e219
            intro a253 hE e29 kp
            replace e220 := (kp 220 rfl).trans e220
            apply sq_det 30 hE k rfl (by rfl) (by rfl) rfl
            case h =>
              exact x_assign rfl e220
            intro a254 hE e30 kp
            replace e29 := (kp 29 rfl).trans e29
            refine wpList_nil ?_
            replace e1 := hE.eval 1 (by rfl) e1
            replace e7 := hE.eval 7 (by rfl) e7
            replace e14 := hE.eval 14 (by rfl) e14
            replace e28 := hE.eval 28 (by rfl) e28
            replace k := k.env hE
            clear hE e204
            refine then_n ?_
            refine wp_seq ?_
            refine wp_region_lit ?_
            have hE := Env.refl a254 [221, 222, 223, 224, 225, 226]
            apply sq_det 221 hE k rfl (by rfl) (by rfl) rfl
            case h =>
              exact x_move rfl (hE.eval 30 (by rfl) e30)
            intro a255 hE e221 kp
            apply sq_det 222 hE k rfl (by rfl) (by rfl) rfl
            case h =>
              exact x_neq rfl e221 rfl
            intro a256 hE e222 kp
            apply sq_det 223 hE k rfl (by rfl) (by rfl) rfl
            case h =>
              exact x_move rfl e222
            intro a257 hE e223 kp
            apply sq_detg 224 hE k rfl (by rfl) (by rfl) rfl rfl e223
            case h =>
              exact x_move rfl (hE.eval 29 (by rfl) e29)
            intro a258 hE e224 kp
            replace e223 := (kp 223 rfl).trans e223
            apply sq_detg 225 hE k rfl (by rfl) (by rfl) rfl rfl e223
            case h =>
              exact x_dec (x_lss rfl e224 rfl) (decide_eq_false (by omega))
            intro a259 hE e225 kp
            replace e223 := (kp 223 rfl).trans e223
            apply sq_det 226 hE k rfl (by rfl) (by rfl) rfl
            case h =>
              exact x_pick_f rfl e223 e225
            intro a260 hE e226 kp
            refine wpList_nil ?_
            replace e1 := hE.eval 1 (by rfl) e1
            replace e7 := hE.eval 7 (by rfl) e7
            replace e14 := hE.eval 14 (by rfl) e14
            replace e28 := hE.eval 28 (by rfl) e28
            replace k := k.env hE
            clear hE e29 e30
            refine then_n ?_
            refine cond_f e226 rfl ?_
            refine wp_skip ?_
            refine block_n ?_
            refine then_n ?_
            refine wp_region_lit ?_
            have hE := Env.refl a260 [205, 206, 28]
            apply sq_det 205 hE k rfl (by rfl) (by rfl) rfl
            case h =>
              exact x_move rfl e28
            intro a261 hE e205 kp
            replace e28 := (kp 28 rfl).trans e28
            apply sq_det 206 hE k rfl (by rfl) (by rfl) rfl
            case h =>
              exact x_add rfl e205 rfl (by omega)
            intro a262 hE e206 kp
            replace e28 := (kp 28 rfl).trans e28
            apply sq_det 28 hE k rfl (by rfl) (by rfl) rfl
            case h =>
              exact x_assign rfl e206
            intro a263 hE e28 kp
            refine wpList_nil ?_
            replace e1 := hE.eval 1 (by rfl) e1
            replace e7 := hE.eval 7 (by rfl) e7
            replace e14 := hE.eval 14 (by rfl) e14
            replace k := k.env hE
            clear hE e226
            refine then_n ?_
            refine ⟨⟨k, e1, e7, e14, z + 1, e28, by omega, O⟩, ?_⟩
            rw [e28, mz]; simp only [intOf]; omega
          · skip
            refine wp_seq ?_
            refine wp_seq ?_
            refine wp_region_lit ?_
            have hE := Env.refl a232 [201, 202, 203, 204]
            apply sq_det 201 hE k rfl (by rfl) (by rfl) rfl
            case h =>
              exact x_move rfl (hE.eval 28 (by rfl) e28)
            intro a264 hE e201 kp
            apply sq_det 202 hE k rfl (by rfl) (by rfl) rfl
            case h =>
              exact x_move rfl (hE.eval 1 (by rfl) e1)
            intro a265 hE e202 kp
            replace e201 := (kp 201 rfl).trans e201
            apply sq_det 203 hE k rfl (by rfl) (by rfl) rfl
            case h =>
              exact x_len Try.underlying51 rfl e202
            intro a266 hE e203 kp
            replace e201 := (kp 201 rfl).trans e201
            apply sq_det 204 hE k rfl (by rfl) (by rfl) rfl
            case h =>
              exact x_dec (x_lss rfl e201 e203) (decide_eq_false (by omega))
            intro a267 hE e204 kp
            refine wpList_nil ?_
            replace e1 := hE.eval 1 (by rfl) e1
            replace e7 := hE.eval 7 (by rfl) e7
            replace e14 := hE.eval 14 (by rfl) e14
            replace e28 := hE.eval 28 (by rfl) e28
            replace k := k.env hE
            clear hE
            refine then_n ?_
            refine cond_f e204 rfl ?_
            refine wp_exit ?_
            refine then_x ?_
            refine then_x ?_
            refine block_x ?_
            refine then_n ?_
            refine wp_seq ?_
            refine wp_region_lit ?_
            have hE := Env.refl a267 [6]
            apply sq_det 6 hE k rfl (by rfl) (by rfl) rfl
            case h =>
              exact x_assign rfl rfl
            intro a268 hE e6 kp
            refine wpList_nil ?_
            replace k := k.env hE
            clear hE e1 e7 e14 e28 e204
            refine then_n ?_
            refine wp_ret ?_
            refine ret_F1 rfl k e6 ?_
            exact ⟨rfl, O.below⟩
        | true =>
          have hcb := hag rfl
          have hcl : Pc.length = Pb.length := by rw [hcb]
          refine cond_t e180 (rfl) ?_
          clear e180
          refine wp_seq ?_
          refine wp_seq ?_
          refine wp_region_lit ?_
          have hE := Env.refl a230 [181, 182, 183, 184, 185]
          apply sq_det 181 hE k rfl (by rfl) (by rfl) rfl
          case h =>
            exact x_move rfl (hE.eval 22 (by rfl) e22)
          intro a269 hE e181 kp
          apply sq_det 182 hE k rfl (by rfl) (by rfl) rfl
          case h =>
            exact x_len Try.underlying65 rfl e181
          intro a270 hE e182 kp
          apply sq_det 183 hE k rfl (by rfl) (by rfl) rfl
          case h =>
            exact x_move rfl (hE.eval 24 (by rfl) e24)
          intro a271 hE e183 kp
          replace e182 := (kp 182 rfl).trans e182
          apply sq_det 184 hE k rfl (by rfl) (by rfl) rfl
          case h =>
            exact x_len Try.underlying65 rfl e183
          intro a272 hE e184 kp
          replace e182 := (kp 182 rfl).trans e182
          apply sq_det 185 hE k rfl (by rfl) (by rfl) rfl
          case h =>
            exact x_dec (x_neq rfl e182 e184) (decide_eq_false (by omega))
          intro a273 hE e185 kp
          refine wpList_nil ?_
          replace e1 := hE.eval 1 (by rfl) e1
          replace e7 := hE.eval 7 (by rfl) e7
          replace e14 := hE.eval 14 (by rfl) e14
          replace e22 := hE.eval 22 (by rfl) e22
          replace e24 := hE.eval 24 (by rfl) e24
          replace k := k.env hE
          clear hE
          refine then_n ?_
          refine cond_f e185 rfl ?_
          refine wp_skip ?_
          refine then_n ?_
          refine wp_seq ?_
          refine wp_region_lit ?_
          have hE := Env.refl a273 [27]
          apply sq_det 27 hE k rfl (by rfl) (by rfl) rfl
          case h =>
            exact x_assign rfl rfl
          intro a274 hE e27 kp
          refine wpList_nil ?_
          replace e1 := hE.eval 1 (by rfl) e1
          replace e7 := hE.eval 7 (by rfl) e7
          replace e14 := hE.eval 14 (by rfl) e14
          replace e22 := hE.eval 22 (by rfl) e22
          replace e24 := hE.eval 24 (by rfl) e24
          replace k := k.env hE
          clear hE e185
          refine then_n ?_
          refine wp_block ?_
          refine wp_loop (fun a w => Fr 227 a ∧ a.eval (.tmp 1) = .slice A2 n2 cp2 ∧ a.eval (.tmp 7) = .pointer (some ⟨sb, 0, none⟩) ∧ a.eval (.tmp 14) = .int .i64 ↑rb ∧ a.eval (.tmp 22) = .slice Bx Pb.length cx ∧ a.eval (.tmp 24) = .slice By Pc.length cy ∧ ∃ z : Nat, a.eval (.tmp 27) = .int .i64 ↑z ∧ z ≤ Pb.length ∧ OwnT W0.heap.size W0 ((tBlk sb 28 #[.slice B N.length cap, .int .i64 511]) :: (tRow 125 2 (.slice B N.length cap) N.length (leafV vs N)) :: (tPool vs N) :: (tEs (.slice By Pc.length cy) Pc) :: (tEs (.slice Bx Pb.length cx) Pb) :: (tEs (.slice Bn P.length cn) P) :: (tEs (.slice Bw P.length cw) P) :: []) w) (fun a w => Pb.length - (intOf (a.eval (.tmp 27))).toNat) ?_ ?_
          · exact ⟨k, e1, e7, e14, e22, e24, 0, e27, Nat.zero_le _, O⟩
          intro a275 w276 hI
          clear k e1 e7 e14 e22 e24
          obtain ⟨k, e1, e7, e14, e22, e24, h_⟩ := hI
          clear O e27
          obtain ⟨z, e27, hz, O⟩ := h_
          have mz := e27
          by_cases hlt : z < Pb.length
          · have hltI : (z : Int) < (Pb.length : Int) := by omega
            obtain ⟨x, hx⟩ : ∃ x, Pb[z]? = some x := ⟨_, List.getElem?_eq_getElem (by omega)⟩
            have hx2 : Pc[z]? = some x := hcb ▸ hx
            have hl2' := (List.getElem?_eq_some_iff.1 hx2).1
            have hltI2 : (z : Int) < (Pc.length : Int) := by omega
            obtain ⟨gx, rfl, -, -⟩ := es_cells (OwnT.get O 4 rfl) hx
            obtain ⟨gy, rfl, -, -⟩ := es_cells (OwnT.get O 3 rfl) hx2
            refine wp_seq ?_
            refine wp_seq ?_
            refine wp_region_lit ?_
            have hE := Env.refl a275 [186, 187, 188, 189]
            apply sq_det 186 hE k rfl (by rfl) (by rfl) rfl
            case h =>
              exact x_move rfl (hE.eval 27 (by rfl) e27)
            intro a277 hE e186 kp
            apply sq_det 187 hE k rfl (by rfl) (by rfl) rfl
            case h =>
              exact x_move rfl (hE.eval 22 (by rfl) e22)
            intro a278 hE e187 kp
            replace e186 := (kp 186 rfl).trans e186
            apply sq_det 188 hE k rfl (by rfl) (by rfl) rfl
            case h =>
              exact x_len Try.underlying65 rfl e187
            intro a279 hE e188 kp
            replace e186 := (kp 186 rfl).trans e186
            apply sq_det 189 hE k rfl (by rfl) (by rfl) rfl
            case h =>
              exact x_dec (x_lss rfl e186 e188) (decide_eq_true (by omega))
            intro a280 hE e189 kp
            refine wpList_nil ?_
            replace e1 := hE.eval 1 (by rfl) e1
            replace e7 := hE.eval 7 (by rfl) e7
            replace e14 := hE.eval 14 (by rfl) e14
            replace e22 := hE.eval 22 (by rfl) e22
            replace e24 := hE.eval 24 (by rfl) e24
            replace e27 := hE.eval 27 (by rfl) e27
            replace k := k.env hE
            clear hE
            refine then_n ?_
            refine cond_t e189 rfl ?_
            refine wp_skip ?_
            refine then_n ?_
            refine wp_seq ?_
            refine wp_block ?_
            refine wp_seq ?_
            refine wp_typed (R := Ext) (w0 := w276) [[], [], [0, 1], [0, 1, 2], [], [], [4, 5], [4, 5, 6], [0, 1, 2, 3, 4, 5, 6, 7]] [192, 193, 194, 195, 196, 197, 198, 199, 200] Ext.refl (fun _ _ _ => Ext.trans) (Ext.drew _) (by kernel_rfl) ?_
            apply Build.det 192 Ext.refl (by rfl) (by rw [k.size]; rfl) rfl
            case h =>
              intro ax wx hE hR hF
              exact x_move rfl (hE.eval 22 (by rfl) e22)
            apply Build.det 193 Ext.refl (by rfl) (by rw [k.size]; rfl) rfl
            case h =>
              intro ax wx hE hR hF
              exact x_move rfl (hE.eval 27 (by rfl) e27)
            apply Build.det 194 Ext.refl (by rfl) (by rw [k.size]; rfl) rfl
            case h =>
              intro ax wx hE hR hF
              have e192 : ax.eval (.tmp 192) = _ := hF 0 (det 192 _) (by decide) (.tail _ (.head _))
              have e193 : ax.eval (.tmp 193) = _ := hF 1 (det 193 _) (by decide) (.head _)
              simp [go_sem, ↓IntWalk.iteOmega, ev e192, ev e193]
              with_reducible rfl
            apply Build.det 195 Ext.refl (by rfl) (by rw [k.size]; rfl) rfl
            case h =>
              intro ax wx hE hR hF
              have e194 : ax.eval (.tmp 194) = _ := hF 2 (det 194 _) (by decide) (.head _)
              obtain ⟨_, e, c0, c1⟩ := es_cells (OwnT.get (OwnT.ext O hR) 4 rfl : (tEs (.slice (some ⟨gx, 0, none⟩) Pb.length cx) Pb).holds _) hx; injection e with e; injection e with e; subst e
              simp [go_sem, ↓IntWalk.iteOmega, ev e194, c0, c1]
              with_reducible rfl
            apply Build.det 196 Ext.refl (by rfl) (by rw [k.size]; rfl) rfl
            case h =>
              intro ax wx hE hR hF
              exact x_move rfl (hE.eval 24 (by rfl) e24)
            apply Build.det 197 Ext.refl (by rfl) (by rw [k.size]; rfl) rfl
            case h =>
              intro ax wx hE hR hF
              exact x_move rfl (hE.eval 27 (by rfl) e27)
            apply Build.det 198 Ext.refl (by rfl) (by rw [k.size]; rfl) rfl
            case h =>
              intro ax wx hE hR hF
              have e196 : ax.eval (.tmp 196) = _ := hF 4 (det 196 _) (by decide) (.tail _ (.head _))
              have e197 : ax.eval (.tmp 197) = _ := hF 5 (det 197 _) (by decide) (.head _)
              simp [go_sem, ↓IntWalk.iteOmega, ev e196, ev e197]
              with_reducible rfl
            apply Build.det 199 Ext.refl (by rfl) (by rw [k.size]; rfl) rfl
            case h =>
              intro ax wx hE hR hF
              have e198 : ax.eval (.tmp 198) = _ := hF 6 (det 198 _) (by decide) (.head _)
              obtain ⟨_, e, c0, c1⟩ := es_cells (OwnT.get (OwnT.ext O hR) 3 rfl : (tEs (.slice (some ⟨gy, 0, none⟩) Pc.length cy) Pc).holds _) hx2; injection e with e; injection e with e; subst e
              simp [go_sem, ↓IntWalk.iteOmega, ev e198, c0, c1]
              with_reducible rfl
            apply Build.det 200 Ext.refl (by rfl) (by rw [k.size]; rfl) rfl
            case h =>
              intro ax wx hE hR hF
              have e195 : ax.eval (.tmp 195) = _ := hF 3 (det 195 _) (by decide) (.tail _ (.tail _ (.tail _ (.tail _ (.head _)))))
              have e199 : ax.eval (.tmp 199) = _ := hF 7 (det 199 _) (by decide) (.head _)
              exact x_dec (c := false) (x_neEn rfl e195 e199) (decide_eq_false (fun h => h ⟨rfl, rfl⟩))
            apply Build.stop
            refine ⟨by kernel_rfl, .inl ⟨rfl, ?_⟩⟩
            intro a281 w282 hE R hF
            have e200 : a281.eval (.tmp 200) = _ := hF 8 (det 200 _) (.head _)
            clear hF
            replace O := OwnT.ext O R
            clear R
            replace e1 := hE.eval 1 (by rfl) e1
            replace e7 := hE.eval 7 (by rfl) e7
            replace e14 := hE.eval 14 (by rfl) e14
            replace e22 := hE.eval 22 (by rfl) e22
            replace e24 := hE.eval 24 (by rfl) e24
            replace e27 := hE.eval 27 (by rfl) e27
            replace k := k.env hE
            clear hE e189
            refine then_n ?_
            refine cond_f e200 rfl ?_
            refine wp_skip ?_
            refine block_n ?_
            refine then_n ?_
            refine wp_region_lit ?_
            have hE := Env.refl a281 [190, 191, 27]
            apply sq_det 190 hE k rfl (by rfl) (by rfl) rfl
            case h =>
              exact x_move rfl e27
            intro a283 hE e190 kp
            replace e27 := (kp 27 rfl).trans e27
            apply sq_det 191 hE k rfl (by rfl) (by rfl) rfl
            case h =>
              exact x_add rfl e190 rfl (by omega)
            intro a284 hE e191 kp
            replace e27 := (kp 27 rfl).trans e27
            apply sq_det 27 hE k rfl (by rfl) (by rfl) rfl
            case h =>
              exact x_assign rfl e191
            intro a285 hE e27 kp
            refine wpList_nil ?_
            replace e1 := hE.eval 1 (by rfl) e1
            replace e7 := hE.eval 7 (by rfl) e7
            replace e14 := hE.eval 14 (by rfl) e14
            replace e22 := hE.eval 22 (by rfl) e22
            replace e24 := hE.eval 24 (by rfl) e24
            replace k := k.env hE
            clear hE e200
            refine then_n ?_
            refine ⟨⟨k, e1, e7, e14, e22, e24, z + 1, e27, by omega, O⟩, ?_⟩
            rw [e27, mz]; simp only [intOf]; omega
          · clear mz
            refine wp_seq ?_
            refine wp_seq ?_
            refine wp_region_lit ?_
            have hE := Env.refl a275 [186, 187, 188, 189]
            apply sq_det 186 hE k rfl (by rfl) (by rfl) rfl
            case h =>
              exact x_move rfl (hE.eval 27 (by rfl) e27)
            intro a286 hE e186 kp
            apply sq_det 187 hE k rfl (by rfl) (by rfl) rfl
            case h =>
              exact x_move rfl (hE.eval 22 (by rfl) e22)
            intro a287 hE e187 kp
            replace e186 := (kp 186 rfl).trans e186
            apply sq_det 188 hE k rfl (by rfl) (by rfl) rfl
            case h =>
              exact x_len Try.underlying65 rfl e187
            intro a288 hE e188 kp
            replace e186 := (kp 186 rfl).trans e186
            apply sq_det 189 hE k rfl (by rfl) (by rfl) rfl
            case h =>
              exact x_dec (x_lss rfl e186 e188) (decide_eq_false (by omega))
            intro a289 hE e189 kp
            refine wpList_nil ?_
            replace e1 := hE.eval 1 (by rfl) e1
            replace e7 := hE.eval 7 (by rfl) e7
            replace e14 := hE.eval 14 (by rfl) e14
            replace e22 := hE.eval 22 (by rfl) e22
            replace e24 := hE.eval 24 (by rfl) e24
            replace e27 := hE.eval 27 (by rfl) e27
            replace k := k.env hE
            clear hE
            refine then_n ?_
            refine cond_f e189 rfl ?_
            refine wp_exit ?_
            refine then_x ?_
            refine then_x ?_
            refine block_x ?_
            refine then_n ?_
            refine wp_seq ?_
            refine wp_seq ?_
            refine wp_region_lit ?_
            have hE := Env.refl a289 [28]
            apply sq_det 28 hE k rfl (by rfl) (by rfl) rfl
            case h =>
              exact x_assign rfl rfl
            intro a290 hE e28 kp
            refine wpList_nil ?_
            replace e1 := hE.eval 1 (by rfl) e1
            replace e7 := hE.eval 7 (by rfl) e7
            replace e14 := hE.eval 14 (by rfl) e14
            replace k := k.env hE
            clear hE e22 e24 e27 e189
            refine then_n ?_
            refine wp_block ?_
            refine wp_loop (fun a w => Fr 227 a ∧ a.eval (.tmp 1) = .slice A2 n2 cp2 ∧ a.eval (.tmp 7) = .pointer (some ⟨sb, 0, none⟩) ∧ a.eval (.tmp 14) = .int .i64 ↑rb ∧ ∃ z : Nat, a.eval (.tmp 28) = .int .i64 ↑z ∧ z ≤ n2 ∧ OwnT W0.heap.size W0 ((tBlk sb 28 #[.slice B N.length cap, .int .i64 511]) :: (tRow 125 2 (.slice B N.length cap) N.length (leafV vs N)) :: (tPool vs N) :: (tEs (.slice By Pc.length cy) Pc) :: (tEs (.slice Bx Pb.length cx) Pb) :: (tEs (.slice Bn P.length cn) P) :: (tEs (.slice Bw P.length cw) P) :: []) w) (fun a w => n2 - (intOf (a.eval (.tmp 28))).toNat) ?_ ?_
            · exact ⟨k, e1, e7, e14, 0, e28, Nat.zero_le _, O⟩
            intro a291 w292 hI
            clear k e1 e7 e14
            obtain ⟨k, e1, e7, e14, h_⟩ := hI
            clear O e28
            obtain ⟨z, e28, hz, O⟩ := h_
            have mz := e28
            by_cases hlt : z < n2
            · have hltI : (z : Int) < (n2 : Int) := by omega
              obtain ⟨x, hx⟩ : ∃ x, xs2[z]? = some x := ⟨_, List.getElem?_eq_getElem (by omega)⟩
              obtain ⟨b1, o1, rfl, d0⟩ := row1I hrow2 O.below hx
              obtain ⟨kx, hkx⟩ : ∃ k, uN x % 64 = k := ⟨_, rfl⟩
              have hk6 : kx < 64 := by omega
              obtain ⟨vx, hv1, hv2⟩ := hlk z x hlt hx
              rw [hkx] at hv1
              -- have hG := Lib.hid (fun W O => mGet (R := _ :: _ :: _ :: _ :: []) (ky := kx) (B := B) (cap := cap) (vs := vs) (room := 511) (H := W0.heap.size) (A0 := W0) (sb := sb) W O hTb (by omega) hk6 (ok_le hPb))
              
              refine wp_seq ?_
              refine wp_seq ?_
              refine wp_region_lit ?_
              have hE := Env.refl a291 [201, 202, 203, 204]
              apply sq_det 201 hE k rfl (by rfl) (by rfl) rfl
              case h =>
                exact x_move rfl (hE.eval 28 (by rfl) e28)
              intro a293 hE e201 kp
              apply sq_det 202 hE k rfl (by rfl) (by rfl) rfl
              case h =>
                exact x_move rfl (hE.eval 1 (by rfl) e1)
              intro a294 hE e202 kp
              replace e201 := (kp 201 rfl).trans e201
              apply sq_det 203 hE k rfl (by rfl) (by rfl) rfl
              case h =>
                exact x_len Try.underlying51 rfl e202
              intro a295 hE e203 kp
              replace e201 := (kp 201 rfl).trans e201
              apply sq_det 204 hE k rfl (by rfl) (by rfl) rfl
              case h =>
                exact x_dec (x_lss rfl e201 e203) (decide_eq_true (by omega))
              intro a296 hE e204 kp
              refine wpList_nil ?_
              replace e1 := hE.eval 1 (by rfl) e1
              replace e7 := hE.eval 7 (by rfl) e7
              replace e14 := hE.eval 14 (by rfl) e14
              replace e28 := hE.eval 28 (by rfl) e28
              replace k := k.env hE
              clear hE
              refine then_n ?_
              refine cond_t e204 rfl ?_
              refine wp_skip ?_
              refine then_n ?_
              refine wp_seq ?_
              refine wp_block ?_
              refine wp_seq ?_
              refine wp_region_lit ?_
              have hE := Env.refl a296 [208, 209, 210, 211, 212, 213, 214, 215, 216, 217, 218, 207, 219, 220, 29, 30]
              apply sq_det 208 hE k rfl (by rfl) (by rfl) rfl
              case h =>
                exact x_move rfl (hE.eval 7 (by rfl) e7)
              intro a297 hE e208 kp
              apply sq_det 209 hE k rfl (by rfl) (by rfl) rfl
              case h =>
                simp [go_sem, ↓IntWalk.iteOmega, ev e208]
                with_reducible rfl
              intro a298 hE e209 kp
              apply sq_det 210 hE k rfl (by rfl) (by rfl) rfl
              case h =>
                exact x_move rfl (hE.eval 14 (by rfl) e14)
              intro a299 hE e210 kp
              replace e209 := (kp 209 rfl).trans e209
              apply sq_det 211 hE k rfl (by rfl) (by rfl) rfl
              case h =>
                exact x_move rfl (hE.eval 1 (by rfl) e1)
              intro a300 hE e211 kp
              replace e209 := (kp 209 rfl).trans e209
              replace e210 := (kp 210 rfl).trans e210
              apply sq_det 212 hE k rfl (by rfl) (by rfl) rfl
              case h =>
                exact x_move rfl (hE.eval 28 (by rfl) e28)
              intro a301 hE e212 kp
              replace e209 := (kp 209 rfl).trans e209
              replace e210 := (kp 210 rfl).trans e210
              replace e211 := (kp 211 rfl).trans e211
              apply sq_det 213 hE k rfl (by rfl) (by rfl) rfl
              case h =>
                simp [go_sem, ↓IntWalk.iteOmega, ev e211, ev e212]
                with_reducible rfl
              intro a302 hE e213 kp
              replace e209 := (kp 209 rfl).trans e209
              replace e210 := (kp 210 rfl).trans e210
              apply sq_det 214 hE k rfl (by rfl) (by rfl) rfl
              case h =>
                simp [go_sem, ↓IntWalk.iteOmega, ev e213, d0]
                with_reducible rfl
              intro a303 hE e214 kp
              replace e209 := (kp 209 rfl).trans e209
              replace e210 := (kp 210 rfl).trans e210
              apply sq_det 215 hE k rfl (by rfl) (by rfl) rfl
              case h =>
                exact x_conv rfl e214 (conv_uint x _)
              intro a304 hE e215 kp
              replace e209 := (kp 209 rfl).trans e209
              replace e210 := (kp 210 rfl).trans e210
              apply sq_det 216 hE k rfl (by rfl) (by rfl) rfl
              case h =>
                exact x_remU (m := uN x) (j := 64) rfl e215 rfl rfl (by decide)
              intro a305 hE e216 kp
              replace e209 := (kp 209 rfl).trans e209
              replace e210 := (kp 210 rfl).trans e210
              apply sq_det 217 hE k rfl (by rfl) (by rfl) rfl
              case h =>
                exact x_conv rfl e216 (conv_int _ _ (by omega))
              intro a306 hE e217 kp
              replace e209 := (kp 209 rfl).trans e209
              replace e210 := (kp 210 rfl).trans e210
              replace e217 := e217.trans (int_eq (show ((uN x % 64 : Nat) : Int) = (kx : Int) by rw [hkx]))
              apply sq_call 218 hE k rfl (by rfl) (by rfl) rfl
              case h =>
                simp [go_sem, ↓IntWalk.iteOmega, ev e209, ev e210, ev e217]
                with_reducible exact ⟨rfl, rfl⟩
              case hc => exact mGet (R := _ :: _ :: _ :: _ :: []) (ky := kx) _ O hTb (by omega) hk6 (ok_le hPb)
              clear O
              rintro e w308 ⟨rfl, O⟩
              refine ⟨.tuple #[.int .i64 ↑vx, .int .i64 0], by rw [hv1]; rfl, ?_⟩
              intro a307 hE e218 kp
              apply sq_det 207 hE k rfl (by rfl) (by rfl) rfl
              case h =>
                exact x_move rfl e218
              intro a309 hE e207 kp
              apply sq_det 219 hE k rfl (by rfl) (by rfl) rfl
              case h =>
                simp [go_sem, ↓IntWalk.iteOmega, ev e207]
                with_reducible rfl
              intro a310 hE e219 kp
              replace e207 := (kp 207 rfl).trans e207
              apply sq_det 220 hE k rfl (by rfl) (by rfl) rfl
              case h =>
                simp [go_sem, ↓IntWalk.iteOmega, ev e207]
                with_reducible rfl
              intro a311 hE e220 kp
              replace e219 := (kp 219 rfl).trans e219
              apply sq_det 29 hE k rfl (by rfl) (by rfl) rfl
              case h =>
                exact x_assign rfl e219
              intro a312 hE e29 kp
              replace e220 := (kp 220 rfl).trans e220
              apply sq_det 30 hE k rfl (by rfl) (by rfl) rfl
              case h =>
                exact x_assign rfl e220
              intro a313 hE e30 kp
              replace e29 := (kp 29 rfl).trans e29
              refine wpList_nil ?_
              replace e1 := hE.eval 1 (by rfl) e1
              replace e7 := hE.eval 7 (by rfl) e7
              replace e14 := hE.eval 14 (by rfl) e14
              replace e28 := hE.eval 28 (by rfl) e28
              replace k := k.env hE
              clear hE e204
              refine then_n ?_
              refine wp_seq ?_
              refine wp_region_lit ?_
              have hE := Env.refl a313 [221, 222, 223, 224, 225, 226]
              apply sq_det 221 hE k rfl (by rfl) (by rfl) rfl
              case h =>
                exact x_move rfl (hE.eval 30 (by rfl) e30)
              intro a314 hE e221 kp
              apply sq_det 222 hE k rfl (by rfl) (by rfl) rfl
              case h =>
                exact x_neq rfl e221 rfl
              intro a315 hE e222 kp
              apply sq_det 223 hE k rfl (by rfl) (by rfl) rfl
              case h =>
                exact x_move rfl e222
              intro a316 hE e223 kp
              apply sq_detg 224 hE k rfl (by rfl) (by rfl) rfl rfl e223
              case h =>
                exact x_move rfl (hE.eval 29 (by rfl) e29)
              intro a317 hE e224 kp
              replace e223 := (kp 223 rfl).trans e223
              apply sq_detg 225 hE k rfl (by rfl) (by rfl) rfl rfl e223
              case h =>
                exact x_dec (x_lss rfl e224 rfl) (decide_eq_false (by omega))
              intro a318 hE e225 kp
              replace e223 := (kp 223 rfl).trans e223
              apply sq_det 226 hE k rfl (by rfl) (by rfl) rfl
              case h =>
                exact x_pick_f rfl e223 e225
              intro a319 hE e226 kp
              refine wpList_nil ?_
              replace e1 := hE.eval 1 (by rfl) e1
              replace e7 := hE.eval 7 (by rfl) e7
              replace e14 := hE.eval 14 (by rfl) e14
              replace e28 := hE.eval 28 (by rfl) e28
              replace k := k.env hE
              clear hE e29 e30
              refine then_n ?_
              refine cond_f e226 rfl ?_
              refine wp_skip ?_
              refine block_n ?_
              refine then_n ?_
              refine wp_region_lit ?_
              have hE := Env.refl a319 [205, 206, 28]
              apply sq_det 205 hE k rfl (by rfl) (by rfl) rfl
              case h =>
                exact x_move rfl e28
              intro a320 hE e205 kp
              replace e28 := (kp 28 rfl).trans e28
              apply sq_det 206 hE k rfl (by rfl) (by rfl) rfl
              case h =>
                exact x_add rfl e205 rfl (by omega)
              intro a321 hE e206 kp
              replace e28 := (kp 28 rfl).trans e28
              apply sq_det 28 hE k rfl (by rfl) (by rfl) rfl
              case h =>
                exact x_assign rfl e206
              intro a322 hE e28 kp
              refine wpList_nil ?_
              replace e1 := hE.eval 1 (by rfl) e1
              replace e7 := hE.eval 7 (by rfl) e7
              replace e14 := hE.eval 14 (by rfl) e14
              replace k := k.env hE
              clear hE e226
              refine then_n ?_
              refine ⟨⟨k, e1, e7, e14, z + 1, e28, by omega, O⟩, ?_⟩
              rw [e28, mz]; simp only [intOf]; omega
            · skip
              refine wp_seq ?_
              refine wp_seq ?_
              refine wp_region_lit ?_
              have hE := Env.refl a291 [201, 202, 203, 204]
              apply sq_det 201 hE k rfl (by rfl) (by rfl) rfl
              case h =>
                exact x_move rfl (hE.eval 28 (by rfl) e28)
              intro a323 hE e201 kp
              apply sq_det 202 hE k rfl (by rfl) (by rfl) rfl
              case h =>
                exact x_move rfl (hE.eval 1 (by rfl) e1)
              intro a324 hE e202 kp
              replace e201 := (kp 201 rfl).trans e201
              apply sq_det 203 hE k rfl (by rfl) (by rfl) rfl
              case h =>
                exact x_len Try.underlying51 rfl e202
              intro a325 hE e203 kp
              replace e201 := (kp 201 rfl).trans e201
              apply sq_det 204 hE k rfl (by rfl) (by rfl) rfl
              case h =>
                exact x_dec (x_lss rfl e201 e203) (decide_eq_false (by omega))
              intro a326 hE e204 kp
              refine wpList_nil ?_
              replace e1 := hE.eval 1 (by rfl) e1
              replace e7 := hE.eval 7 (by rfl) e7
              replace e14 := hE.eval 14 (by rfl) e14
              replace e28 := hE.eval 28 (by rfl) e28
              replace k := k.env hE
              clear hE
              refine then_n ?_
              refine cond_f e204 rfl ?_
              refine wp_exit ?_
              refine then_x ?_
              refine then_x ?_
              refine block_x ?_
              refine then_n ?_
              refine wp_seq ?_
              refine wp_region_lit ?_
              have hE := Env.refl a326 [6]
              apply sq_det 6 hE k rfl (by rfl) (by rfl) rfl
              case h =>
                exact x_assign rfl rfl
              intro a327 hE e6 kp
              refine wpList_nil ?_
              replace k := k.env hE
              clear hE e1 e7 e14 e28 e204
              refine then_n ?_
              refine wp_ret ?_
              refine ret_F1 rfl k e6 ?_
              exact ⟨rfl, O.below⟩
theorem mapsApart_walk (w : World) (v0 v1 v2 : Value) (h0 : Arg Try.prog w 51 v0) (h1 : Arg Try.prog w 51 v1) (h2 : Arg Try.prog w 4 v2) :
    Calls Try.prog 8 #[v0, v1, v2] w fun e w' => e = .returned (.bool true) ∧ Below w.heap.size w w' := by
  have hc : Try.prog.cellsOf 3 = 1 := by kernel_rfl
  obtain ⟨A1, n1, c1, xs1, rfl, a1, a2, a3, -, a4⟩ := arg_ints Try.underlying51 Try.underlying3 hc h0
  obtain ⟨A2, n2, c2, xs2, rfl, b1, b2, b3, -, b4⟩ := arg_ints Try.underlying51 Try.underlying3 hc h1
  obtain ⟨b, rfl⟩ := arg_bool Try.underlying4 h2
  unfold maxLen at a2 b2
  exact mapsApart_core xs1 xs2 b w a3 b3 a4 b4 (by omega) (by omega)
end Go.Proofs.Ytngehbhhpkkijaa
