/- trees' law: TreeShares (printed by XTrSh.gen.py). -/
import Derived.Test.YtngehbhhpkkijaaKTreeShares30
namespace Go.Proofs.Ytngehbhhpkkijaa
attribute [local simp] BigFrame.eval_const BigFrame.eval_global BigFrame.eval_func
set_option linter.unusedVariables false
set_option linter.unusedSimpArgs false
open Go.RowKit Go.Maps


theorem elemI8 : ElemI Try.prog 51 3 1 8 := ⟨Try.underlying51, by
  have h : (Try.prog.info? 3).map (fun i => (i.zero, i.size, i.bytes)) = some (some (.int .i64 0), 1, 8) := by kernel_rfl
  obtain ⟨i, h1, h2, h3, h4⟩ := info_parts h
  exact ⟨i, _, h1, h2, h3, h4, rfl⟩⟩
theorem elemPS : ElemI Try.prog 60 29 1 24 := ⟨Try.underlying60, by
  have h : (Try.prog.info? 29).map (fun i => (i.zero, i.size, i.bytes)) = some (some (.slice none 0 0), 1, 24) := by kernel_rfl
  obtain ⟨i, h1, h2, h3, h4⟩ := info_parts h
  exact ⟨i, _, h1, h2, h3, h4, rfl⟩⟩
theorem OwnT.asRowN {g k n : Nat} {T : TypeId} {H : Nat} {A w : World} {L : List Thing} {cs : List Value} (h : OwnT H A (tBlk g T cs.toArray :: L) w) (hn : cs.length = n * k) (hm : n ≤ maxLen) : OwnT H A (tRow T k (.slice (some ⟨g, 0, none⟩) n n) n cs :: L) w :=
  h.call (F := []) (Chg.refl [] w) (by simp) (tRow T k (.slice (some ⟨g, 0, none⟩) n n) n cs) (row_of h.b0 (Nat.le_refl _) hm (by simpa using hn) (by rw [← hn]; simp)) (fun i hi => .inl (by simpa [tRow, tBlk, Value.ownBlock] using hi))
/-- A cell of a row of one-cell elements. -/
theorem row1_at {w : World} {T : TypeId} {B : Option Addr} {n c z : Nat} {xs : List Value} {v : Value} (h : w.ownsRow 0 T 1 (.slice B n c) n xs) (hz : xs[z]? = some v) (hzn : z < n) : ∃ g, B = some ⟨g, 0, none⟩ ∧ w.cell? ⟨g, z, none⟩ = some v := by
  obtain ⟨g, cap', cur, e, hb, _, _, _, h5⟩ := row_some h (by omega)
  injection e with e1
  subst e1
  refine ⟨g, rfl, ?_⟩
  rw [hb.cell, ← hz, ← h5, Nat.mul_one, List.getElem?_take_of_lt hzn]
  simp
def ints (l : List Nat) : List Value := l.map fun (x : Nat) => Value.int .i64 (x : Int)
theorem ints_app (l : List Nat) (x : Nat) : ints (l ++ [x]) = ints l ++ [Value.int .i64 (x : Int)] := by simp [ints]
/-- Trees on the way. -/
def Past (N : List Nd) (rts : List Nat) (Qs : List Nd) : Prop := rts.length = Qs.length ∧ ∀ (j : Nat) r q, rts[j]? = some r → Qs[j]? = some q → Tre N r 100 q.2
theorem Past.mono {N : List Nd} {rts : List Nat} {Qs : List Nd} (h : Past N rts Qs) (M : List Nd) : Past (N ++ M) rts Qs := ⟨h.1, fun j r q h1 h2 => (h.2 j r q h1 h2).mono M⟩
theorem Past.add {N : List Nd} {rts : List Nat} {Qs : List Nd} {r : Nat} {P : List Pr} (h : Past N rts Qs) (hT : Tre N r 100 P) : Past N (rts ++ [r]) (Qs ++ [(0, P)]) := by
  refine ⟨by rw [List.length_append, List.length_append, h.1]; rfl, fun j r' q h1 h2 => ?_⟩
  by_cases hj : j < rts.length
  · rw [List.getElem?_append_left hj] at h1
    rw [List.getElem?_append_left (by rw [← h.1]; exact hj)] at h2
    exact h.2 j r' q h1 h2
  · rw [List.getElem?_append_right (by omega)] at h1
    rw [List.getElem?_append_right (by rw [← h.1]; omega)] at h2
    have e : j - rts.length = 0 := by have := (List.getElem?_eq_some_iff.1 h1).1; simpa using this
    rw [e] at h1
    rw [← h.1, e] at h2
    obtain rfl : r = r' := by simpa using h1
    obtain rfl : (0, P) = q := by simpa using h2
    exact hT

set_option maxRecDepth 100000 in
set_option maxHeartbeats 4000000 in
theorem treeShares_core {A1 A2 : Option Addr} {n1 n2 cp1 cp2 : Nat} (xs : List Int) (bs : List Bool) (W0 : World) (hl1 : xs.length = n1) (hl2 : bs.length = n2) (hrow1 : Row1 W0 A1 (Value.int .i64) xs) (hrow2 : Row1 W0 A2 Value.bool bs) : Calls Try.prog 4 #[.slice A1 n1 cp1, .slice A2 n2 cp2] W0 fun e w' => e = .returned (.bool true) ∧ Below W0.heap.size W0 w' := by
  have O := OwnT.start W0
  refine calls_F Try.func4 rfl 131 rfl (by rfl) ?_
  intro a1 k hargs
  have e0 : a1.eval (.tmp 0) = .slice A1 n1 cp1 := hargs 0 _ rfl
  have e1 : a1.eval (.tmp 1) = .slice A2 n2 cp2 := hargs 1 _ rfl
  clear hargs
  refine wp_seq ?_
  refine wp_region_lit ?_
  have hE := Env.refl a1 [4]
  apply sq_det 4 hE k rfl (by rfl) (by rfl) rfl
  case h =>
    exact x_assign rfl rfl
  intro a2 hE e4 kp
  refine wpList_nil ?_
  replace e0 := hE.eval 0 (by rfl) e0
  replace e1 := hE.eval 1 (by rfl) e1
  replace k := k.env hE
  clear hE e4
  refine then_n ?_
  refine wp_seq ?_
  refine wp_seq ?_
  refine wp_region_lit ?_
  have hE := Env.refl a2 [18, 19]
  apply sq_call 18 hE k rfl (by rfl) (by rfl) rfl
  case h =>
    simp [go_sem, ↓IntWalk.iteOmega]
    with_reducible exact ⟨rfl, rfl⟩
  case hc => exact awake08 _
  rintro e w4 ⟨rfl, R⟩
  replace O := OwnT.ext O R
  refine ⟨_, rfl, ?_⟩
  intro a3 hE e18 kp
  apply sq_det 19 hE k rfl (by rfl) (by rfl) rfl
  case h =>
    exact x_not rfl e18
  intro a5 hE e19 kp
  refine wpList_nil ?_
  replace e0 := hE.eval 0 (by rfl) e0
  replace e1 := hE.eval 1 (by rfl) e1
  replace k := k.env hE
  clear hE
  refine then_n ?_
  refine cond_f e19 rfl ?_
  refine wp_skip ?_
  refine then_n ?_
  refine wp_seq ?_
  refine wp_region_lit ?_
  have hE := Env.refl a5 [20, 21, 5]
  apply sq_det 20 hE k rfl (by rfl) (by rfl) rfl
  case h =>
    simp [go_sem, ↓IntWalk.iteOmega]
    with_reducible rfl
  intro a6 hE e20 kp
  refine sq_new O (cs := #[.slice none 0 0, .int .i64 511]) (t := 28) 21 hE k rfl (by rfl) (by rfl) rfl (by simp [go_sem, ↓IntWalk.iteOmega, ev e20]) ?_
  clear O
  intro sb a7 w8 O hE e21 kp
  apply sq_det 5 hE k rfl (by rfl) (by rfl) rfl
  case h =>
    exact x_assign rfl e21
  intro a9 hE e5 kp
  refine wpList_nil ?_
  replace e0 := hE.eval 0 (by rfl) e0
  replace e1 := hE.eval 1 (by rfl) e1
  replace k := k.env hE
  clear hE e19
  refine then_n ?_
  replace O := sh_nil O
  refine wp_seq ?_
  refine wp_region_lit ?_
  have hE := Env.refl a9 [22, 6]
  refine sq_news (m := 1) (c := 1) O (cs := #[.int .i64 0]) (t := 3) 22 hE k rfl (by rfl) (by rfl) rfl (by simp [go_sem, ↓IntWalk.iteOmega]) ?_
  clear O
  intro g4 a10 w11 O hE e22 kp
  apply sq_det 6 hE k rfl (by rfl) (by rfl) rfl
  case h =>
    exact x_assign rfl e22
  intro a12 hE e6 kp
  refine wpList_nil ?_
  replace e0 := hE.eval 0 (by rfl) e0
  replace e1 := hE.eval 1 (by rfl) e1
  replace e5 := hE.eval 5 (by rfl) e5
  replace k := k.env hE
  clear hE
  refine then_n ?_
  replace O := OwnT.asRowN (k := 1) (n := 1) (cs := [.int .i64 0]) O rfl (by decide)
  refine wp_seq ?_
  refine wp_region_lit ?_
  have hE := Env.refl a12 [23, 24, 7]
  refine sq_news (m := 0) (c := 0) O (cs := #[]) (t := 38) 23 hE k rfl (by rfl) (by rfl) rfl (by simp [go_sem, ↓IntWalk.iteOmega]) ?_
  clear O
  intro g5 a13 w14 O hE e23 kp
  refine sq_news (m := 1) (c := 1) O (cs := #[.slice (some ⟨g5, 0, none⟩) 0 0]) (t := 29) 24 hE k rfl (by rfl) (by rfl) rfl (by simp [go_sem, ↓IntWalk.iteOmega, ev e23]) ?_
  clear O
  intro g6 a15 w16 O hE e24 kp
  apply sq_det 7 hE k rfl (by rfl) (by rfl) rfl
  case h =>
    exact x_assign rfl e24
  intro a17 hE e7 kp
  refine wpList_nil ?_
  replace e0 := hE.eval 0 (by rfl) e0
  replace e1 := hE.eval 1 (by rfl) e1
  replace e5 := hE.eval 5 (by rfl) e5
  replace e6 := hE.eval 6 (by rfl) e6
  replace k := k.env hE
  clear hE
  refine then_n ?_
  replace O := OwnT.asRowN (k := 1) (n := 1) (cs := [.slice (some ⟨g5, 0, none⟩) 0 0]) O rfl (by decide)
  replace O := OwnT.asRowE (k := 2) (OwnT.pickR (L := [_, _, _, _, _, _]) (R := []) O [1, 0, 2, 3, 4, 5] (by decide))
  replace O : OwnT _ _ (tPs (.slice (some ⟨g5, 0, none⟩) 0 0) [] :: _) w16 := O
  replace O := OwnT.poolAdd (l := 0) (OwnT.pickR (L := [_, _, _, _, _, _, _]) (R := []) (pool_nil O) [1, 0, 2, 3, 4, 5, 6] (by decide))
  replace O : OwnT _ _ ((tBlk sb 28 #[.slice none (([]).length) 0, .int .i64 511]) :: (tRow 125 2 (.slice none ([]).length 0) ([]).length (leafV ([]) ([]))) :: (tPool ([]) ([])) :: (tRow 3 1 (.slice (some ⟨g4, 0, none⟩) 1 1) 1 (ints ([0]))) :: (tRow 29 1 (.slice (some ⟨g6, 0, none⟩) 1 1) 1 ([.slice (some ⟨g5, 0, none⟩) 0 0])) :: (tPool (([] ++ [.slice (some ⟨g5, 0, none⟩) 0 0])) (([] ++ [(0, [])]))) :: []) w16 := OwnT.pickR (L := [_, _, _, _, _, _]) (R := []) O [3, 4, 5, 2, 1, 0] (by decide)
  refine wp_seq ?_
  refine wp_region_lit ?_
  have hE := Env.refl a17 [8]
  apply sq_det 8 hE k rfl (by rfl) (by rfl) rfl
  case h =>
    exact x_assign rfl rfl
  intro a18 hE e8 kp
  refine wpList_nil ?_
  replace e0 := hE.eval 0 (by rfl) e0
  replace e1 := hE.eval 1 (by rfl) e1
  replace e5 := hE.eval 5 (by rfl) e5
  replace e6 := hE.eval 6 (by rfl) e6
  replace e7 := hE.eval 7 (by rfl) e7
  replace k := k.env hE
  clear hE
  refine then_n ?_
  refine wp_seq ?_
  refine wp_seq ?_
  refine wp_region_lit ?_
  have hE := Env.refl a18 [9]
  apply sq_det 9 hE k rfl (by rfl) (by rfl) rfl
  case h =>
    exact x_assign rfl rfl
  intro a19 hE e9 kp
  refine wpList_nil ?_
  replace e0 := hE.eval 0 (by rfl) e0
  replace e1 := hE.eval 1 (by rfl) e1
  replace e5 := hE.eval 5 (by rfl) e5
  replace e6 := hE.eval 6 (by rfl) e6
  replace e7 := hE.eval 7 (by rfl) e7
  replace e8 := hE.eval 8 (by rfl) e8
  replace k := k.env hE
  clear hE
  refine then_n ?_
  refine wp_block ?_
  refine wp_loop (fun a w => Fr 131 a ∧ a.eval (.tmp 0) = .slice A1 n1 cp1 ∧ a.eval (.tmp 1) = .slice A2 n2 cp2 ∧ a.eval (.tmp 5) = .pointer (some ⟨sb, 0, none⟩) ∧ ∃ (i rt n : Nat) (P : List Pr) (rts : List Nat) (Qs : List Nd) (us : List Value) (Br : Option Addr) (cr : Nat) (Bu : Option Addr) (cu : Nat) (N : List Nd) (B : Option Addr) (cap : Nat) (vs : List Value), a.eval (.tmp 6) = .slice Br n cr ∧ a.eval (.tmp 7) = .slice Bu n cu ∧ a.eval (.tmp 8) = .int .i64 ↑rt ∧ a.eval (.tmp 9) = .int .i64 ↑i ∧ i ≤ 40 ∧ N.length ≤ 5 * i ∧ n ≤ i + 1 ∧ rts.length = n ∧ Tre N rt (8 + i) P ∧ Past N rts Qs ∧ OwnT W0.heap.size W0 ((tBlk sb 28 #[.slice B N.length cap, .int .i64 511]) :: (tRow 125 2 (.slice B N.length cap) N.length (leafV vs N)) :: (tPool vs N) :: (tRow 3 1 (.slice Br n cr) n (ints rts)) :: (tRow 29 1 (.slice Bu n cu) n us) :: (tPool us Qs) :: []) w) (fun a w => 40 - (intOf (a.eval (.tmp 9))).toNat) ?_ ?_
  · exact ⟨k, e0, e1, e5, 0, 0, 1, [], [0], [(0, [])], _, _, _, _, _, [], none, 0, [], e6, e7, e8, e9, by omega, Nat.zero_le _, Nat.le_refl _, rfl, (Tre.zero []).le (by omega), ⟨rfl, fun j r q h1 h2 => by cases j with | zero => (obtain rfl : 0 = r := by simpa using h1); (obtain rfl : (0, []) = q := by simpa using h2); exact (Tre.zero []).le (by omega) | succ j => simp at h1⟩, O⟩
  intro a20 w21 hI
  clear k e0 e1 e5
  obtain ⟨k, e0, e1, e5, h_⟩ := hI
  clear O e6 e7 e8 e9
  obtain ⟨i, rt, n, P, rts, Qs, us, Br, cr, Bu, cu, N, B, cap, vs, e6, e7, e8, e9, hi, hN, hni, hrn, hT, hPast, O⟩ := h_
  have mi := e9
  by_cases hlt : i < n1 ∧ i < n2 ∧ i < 40
  · obtain ⟨hlt1, hlt2, hlt3⟩ := hlt
    have hl1I : (i : Int) < (n1 : Int) := by omega
    have hl2I : (i : Int) < (n2 : Int) := by omega
    obtain ⟨x, hx⟩ : ∃ x, xs[i]? = some x := ⟨_, List.getElem?_eq_getElem (by omega)⟩
    obtain ⟨y, hy⟩ : ∃ y, bs[i]? = some y := ⟨_, List.getElem?_eq_getElem (by omega)⟩
    obtain ⟨b1, o1, rfl, d0⟩ := row1I hrow1 O.below hx
    obtain ⟨b2, o2, rfl, d1⟩ := row1B hrow2 O.below hy
    obtain ⟨kx, hkx⟩ : ∃ k, uN x % 60 = k := ⟨_, rfl⟩
    have hk6 : kx < 60 := by omega
    
    refine wp_seq ?_
    refine wp_seq ?_
    refine wp_region_lit ?_
    have hE := Env.refl a20 [25, 26, 27, 28, 29, 30, 31, 32, 33, 34, 35, 36, 37, 38]
    apply sq_det 25 hE k rfl (by rfl) (by rfl) rfl
    case h =>
      exact x_move rfl (hE.eval 9 (by rfl) e9)
    intro a22 hE e25 kp
    apply sq_det 26 hE k rfl (by rfl) (by rfl) rfl
    case h =>
      exact x_move rfl (hE.eval 0 (by rfl) e0)
    intro a23 hE e26 kp
    replace e25 := (kp 25 rfl).trans e25
    apply sq_det 27 hE k rfl (by rfl) (by rfl) rfl
    case h =>
      exact x_len Try.underlying51 rfl e26
    intro a24 hE e27 kp
    replace e25 := (kp 25 rfl).trans e25
    apply sq_det 28 hE k rfl (by rfl) (by rfl) rfl
    case h =>
      exact x_dec (x_lss rfl e25 e27) (decide_eq_true (by omega))
    intro a25 hE e28 kp
    apply sq_det 29 hE k rfl (by rfl) (by rfl) rfl
    case h =>
      exact x_move rfl e28
    intro a26 hE e29 kp
    apply sq_detg 30 hE k rfl (by rfl) (by rfl) rfl rfl e29
    case h =>
      exact x_move rfl (hE.eval 9 (by rfl) e9)
    intro a27 hE e30 kp
    replace e29 := (kp 29 rfl).trans e29
    apply sq_detg 31 hE k rfl (by rfl) (by rfl) rfl rfl e29
    case h =>
      exact x_move rfl (hE.eval 1 (by rfl) e1)
    intro a28 hE e31 kp
    replace e29 := (kp 29 rfl).trans e29
    replace e30 := (kp 30 rfl).trans e30
    apply sq_detg 32 hE k rfl (by rfl) (by rfl) rfl rfl e29
    case h =>
      exact x_len Try.underlying59 rfl e31
    intro a29 hE e32 kp
    replace e29 := (kp 29 rfl).trans e29
    replace e30 := (kp 30 rfl).trans e30
    apply sq_detg 33 hE k rfl (by rfl) (by rfl) rfl rfl e29
    case h =>
      exact x_dec (x_lss rfl e30 e32) (decide_eq_true (by omega))
    intro a30 hE e33 kp
    replace e29 := (kp 29 rfl).trans e29
    apply sq_det 34 hE k rfl (by rfl) (by rfl) rfl
    case h =>
      exact x_pick_t rfl e29 e33
    intro a31 hE e34 kp
    apply sq_det 35 hE k rfl (by rfl) (by rfl) rfl
    case h =>
      exact x_move rfl e34
    intro a32 hE e35 kp
    apply sq_detg 36 hE k rfl (by rfl) (by rfl) rfl rfl e35
    case h =>
      exact x_move rfl (hE.eval 9 (by rfl) e9)
    intro a33 hE e36 kp
    replace e35 := (kp 35 rfl).trans e35
    apply sq_detg 37 hE k rfl (by rfl) (by rfl) rfl rfl e35
    case h =>
      exact x_dec (x_lss rfl e36 rfl) (decide_eq_true (by omega))
    intro a34 hE e37 kp
    replace e35 := (kp 35 rfl).trans e35
    apply sq_det 38 hE k rfl (by rfl) (by rfl) rfl
    case h =>
      exact x_pick_t rfl e35 e37
    intro a35 hE e38 kp
    refine wpList_nil ?_
    replace e0 := hE.eval 0 (by rfl) e0
    replace e1 := hE.eval 1 (by rfl) e1
    replace e5 := hE.eval 5 (by rfl) e5
    replace e6 := hE.eval 6 (by rfl) e6
    replace e7 := hE.eval 7 (by rfl) e7
    replace e8 := hE.eval 8 (by rfl) e8
    replace e9 := hE.eval 9 (by rfl) e9
    replace k := k.env hE
    clear hE
    refine then_n ?_
    refine cond_t e38 rfl ?_
    refine wp_skip ?_
    refine then_n ?_
    refine wp_seq ?_
    refine wp_block ?_
    refine wp_seq ?_
    refine wp_region_lit ?_
    have hE := Env.refl a35 [41, 42, 43, 44, 45, 46, 47, 48, 10]
    apply sq_det 41 hE k rfl (by rfl) (by rfl) rfl
    case h =>
      exact x_move rfl (hE.eval 0 (by rfl) e0)
    intro a36 hE e41 kp
    apply sq_det 42 hE k rfl (by rfl) (by rfl) rfl
    case h =>
      exact x_move rfl (hE.eval 9 (by rfl) e9)
    intro a37 hE e42 kp
    replace e41 := (kp 41 rfl).trans e41
    apply sq_det 43 hE k rfl (by rfl) (by rfl) rfl
    case h =>
      simp [go_sem, ↓IntWalk.iteOmega, ev e41, ev e42]
      with_reducible rfl
    intro a38 hE e43 kp
    apply sq_det 44 hE k rfl (by rfl) (by rfl) rfl
    case h =>
      simp [go_sem, ↓IntWalk.iteOmega, ev e43, d0]
      with_reducible rfl
    intro a39 hE e44 kp
    apply sq_det 45 hE k rfl (by rfl) (by rfl) rfl
    case h =>
      exact x_conv rfl e44 (conv_uint x _)
    intro a40 hE e45 kp
    apply sq_det 46 hE k rfl (by rfl) (by rfl) rfl
    case h =>
      exact x_remU (m := uN x) (j := 60) rfl e45 rfl rfl (by decide)
    intro a41 hE e46 kp
    apply sq_det 47 hE k rfl (by rfl) (by rfl) rfl
    case h =>
      exact x_conv rfl e46 (conv_int _ _ (by omega))
    intro a42 hE e47 kp
    replace e47 := e47.trans (int_eq (show ((uN x % 60 : Nat) : Int) = (kx : Int) by rw [hkx]))
    apply sq_det 48 hE k rfl (by rfl) (by rfl) rfl
    case h =>
      exact x_conv rfl e47 (conv_u64 kx _ (by omega))
    intro a43 hE e48 kp
    apply sq_det 10 hE k rfl (by rfl) (by rfl) rfl
    case h =>
      exact x_assign rfl e48
    intro a44 hE e10 kp
    refine wpList_nil ?_
    replace e0 := hE.eval 0 (by rfl) e0
    replace e1 := hE.eval 1 (by rfl) e1
    replace e5 := hE.eval 5 (by rfl) e5
    replace e6 := hE.eval 6 (by rfl) e6
    replace e7 := hE.eval 7 (by rfl) e7
    replace e8 := hE.eval 8 (by rfl) e8
    replace e9 := hE.eval 9 (by rfl) e9
    replace k := k.env hE
    clear hE e38
    refine then_n ?_
    refine wp_seq ?_
    refine wp_region_lit ?_
    have hE := Env.refl a44 [11]
    apply sq_det 11 hE k rfl (by rfl) (by rfl) rfl
    case h =>
      exact x_assign rfl rfl
    intro a45 hE e11 kp
    refine wpList_nil ?_
    replace e0 := hE.eval 0 (by rfl) e0
    replace e1 := hE.eval 1 (by rfl) e1
    replace e5 := hE.eval 5 (by rfl) e5
    replace e6 := hE.eval 6 (by rfl) e6
    replace e7 := hE.eval 7 (by rfl) e7
    replace e8 := hE.eval 8 (by rfl) e8
    replace e9 := hE.eval 9 (by rfl) e9
    replace e10 := hE.eval 10 (by rfl) e10
    replace k := k.env hE
    clear hE e11
    refine then_n ?_
    refine wp_seq ?_
    refine wp_region_lit ?_
    have hE := Env.refl a45 [12]
    apply sq_det 12 hE k rfl (by rfl) (by rfl) rfl
    case h =>
      exact x_assign rfl rfl
    intro a46 hE e12 kp
    refine wpList_nil ?_
    replace e0 := hE.eval 0 (by rfl) e0
    replace e1 := hE.eval 1 (by rfl) e1
    replace e5 := hE.eval 5 (by rfl) e5
    replace e6 := hE.eval 6 (by rfl) e6
    replace e7 := hE.eval 7 (by rfl) e7
    replace e8 := hE.eval 8 (by rfl) e8
    replace e9 := hE.eval 9 (by rfl) e9
    replace e10 := hE.eval 10 (by rfl) e10
    replace k := k.env hE
    clear hE e12
    refine then_n ?_
    refine wp_seq ?_
    refine wp_seq ?_
    refine wp_region_lit ?_
    have hE := Env.refl a46 [49, 50, 51, 52]
    apply sq_det 49 hE k rfl (by rfl) (by rfl) rfl
    case h =>
      exact x_move rfl (hE.eval 1 (by rfl) e1)
    intro a47 hE e49 kp
    apply sq_det 50 hE k rfl (by rfl) (by rfl) rfl
    case h =>
      exact x_move rfl (hE.eval 9 (by rfl) e9)
    intro a48 hE e50 kp
    replace e49 := (kp 49 rfl).trans e49
    apply sq_det 51 hE k rfl (by rfl) (by rfl) rfl
    case h =>
      simp [go_sem, ↓IntWalk.iteOmega, ev e49, ev e50]
      with_reducible rfl
    intro a49 hE e51 kp
    apply sq_det 52 hE k rfl (by rfl) (by rfl) rfl
    case h =>
      simp [go_sem, ↓IntWalk.iteOmega, ev e51, d1]
      with_reducible rfl
    intro a50 hE e52 kp
    refine wpList_nil ?_
    replace e0 := hE.eval 0 (by rfl) e0
    replace e1 := hE.eval 1 (by rfl) e1
    replace e5 := hE.eval 5 (by rfl) e5
    replace e6 := hE.eval 6 (by rfl) e6
    replace e7 := hE.eval 7 (by rfl) e7
    replace e8 := hE.eval 8 (by rfl) e8
    replace e9 := hE.eval 9 (by rfl) e9
    replace e10 := hE.eval 10 (by rfl) e10
    replace k := k.env hE
    clear hE
    refine then_n ?_
    cases y with
    | true =>
      refine cond_t e52 (rfl) ?_
      clear e52
      refine wp_region_lit ?_
      have hE := Env.refl a50 [54, 55, 56, 57, 58, 53, 59, 60, 61, 11, 12]
      apply sq_det 54 hE k rfl (by rfl) (by rfl) rfl
      case h =>
        exact x_move rfl (hE.eval 5 (by rfl) e5)
      intro a51 hE e54 kp
      apply sq_det 55 hE k rfl (by rfl) (by rfl) rfl
      case h =>
        simp [go_sem, ↓IntWalk.iteOmega, ev e54]
        with_reducible rfl
      intro a52 hE e55 kp
      apply sq_det 56 hE k rfl (by rfl) (by rfl) rfl
      case h =>
        exact x_move rfl (hE.eval 8 (by rfl) e8)
      intro a53 hE e56 kp
      replace e55 := (kp 55 rfl).trans e55
      apply sq_det 57 hE k rfl (by rfl) (by rfl) rfl
      case h =>
        exact x_move rfl (hE.eval 10 (by rfl) e10)
      intro a54 hE e57 kp
      replace e55 := (kp 55 rfl).trans e55
      replace e56 := (kp 56 rfl).trans e56
      apply sq_call 58 hE k rfl (by rfl) (by rfl) rfl
      case h =>
        simp [go_sem, ↓IntWalk.iteOmega, ev e55, ev e56, ev e57]
        with_reducible exact ⟨rfl, rfl⟩
      case hc => exact lDrop (R := _ :: _ :: _ :: []) (ky := kx) _ O hT (by omega)
      clear O
      rintro e w56 ⟨N2, r2, ok, er, B2, cap2, vs2, rfl, O, hDL⟩
      refine ⟨_, rfl, ?_⟩
      intro a55 hE e58 kp
      apply sq_det 53 hE k rfl (by rfl) (by rfl) rfl
      case h =>
        exact x_move rfl e58
      intro a57 hE e53 kp
      apply sq_det 59 hE k rfl (by rfl) (by rfl) rfl
      case h =>
        simp [go_sem, ↓IntWalk.iteOmega, ev e53]
        with_reducible rfl
      intro a58 hE e59 kp
      replace e53 := (kp 53 rfl).trans e53
      apply sq_det 60 hE k rfl (by rfl) (by rfl) rfl
      case h =>
        simp [go_sem, ↓IntWalk.iteOmega, ev e53]
        with_reducible rfl
      intro a59 hE e60 kp
      replace e53 := (kp 53 rfl).trans e53
      replace e59 := (kp 59 rfl).trans e59
      apply sq_det 61 hE k rfl (by rfl) (by rfl) rfl
      case h =>
        simp [go_sem, ↓IntWalk.iteOmega, ev e53]
        with_reducible rfl
      intro a60 hE e61 kp
      replace e59 := (kp 59 rfl).trans e59
      apply sq_det 11 hE k rfl (by rfl) (by rfl) rfl
      case h =>
        exact x_assign rfl e59
      intro a61 hE e11 kp
      replace e61 := (kp 61 rfl).trans e61
      apply sq_det 12 hE k rfl (by rfl) (by rfl) rfl
      case h =>
        exact x_assign rfl e61
      intro a62 hE e12 kp
      replace e11 := (kp 11 rfl).trans e11
      refine wpList_nil ?_
      replace e0 := hE.eval 0 (by rfl) e0
      replace e1 := hE.eval 1 (by rfl) e1
      replace e5 := hE.eval 5 (by rfl) e5
      replace e6 := hE.eval 6 (by rfl) e6
      replace e7 := hE.eval 7 (by rfl) e7
      replace e8 := hE.eval 8 (by rfl) e8
      replace e9 := hE.eval 9 (by rfl) e9
      replace k := k.env hE
      clear hE e10
      refine then_n ?_
      obtain ⟨⟨M, rfl, hM⟩, hDL⟩ := hDL
      have hX : (er = 6) ∨ (er = 0 ∧ ∃ r : Nat, r2 = r ∧ Tre (N ++ M) r (8 + i + 1) (delP kx P)) := by
        rcases hDL with ⟨h1, h2, h3, h4, h5⟩ | ⟨h1, _⟩ | ⟨h1, h2, h3, r, h4, h5⟩
        · exact .inr ⟨h1, rt, h3, by rw [del_none h5]; exact (hT.mono M).le (by omega)⟩
        · exact .inl h1
        · exact .inr ⟨h1, r, h4, h5.le (by omega)⟩
      clear hDL
      
      rcases hX with rfl | ⟨rfl, r, rfl, hT2⟩
      · skip
        refine wp_seq ?_
        refine wp_seq ?_
        refine wp_region_lit ?_
        have hE := Env.refl a62 [72, 73]
        apply sq_det 72 hE k rfl (by rfl) (by rfl) rfl
        case h =>
          exact x_move rfl (hE.eval 12 (by rfl) e12)
        intro a63 hE e72 kp
        apply sq_det 73 hE k rfl (by rfl) (by rfl) rfl
        case h =>
          exact x_dec (x_eql rfl e72 rfl) (decide_eq_true (by omega))
        intro a64 hE e73 kp
        refine wpList_nil ?_
        replace e0 := hE.eval 0 (by rfl) e0
        replace e1 := hE.eval 1 (by rfl) e1
        replace e5 := hE.eval 5 (by rfl) e5
        replace e6 := hE.eval 6 (by rfl) e6
        replace e7 := hE.eval 7 (by rfl) e7
        replace e8 := hE.eval 8 (by rfl) e8
        replace e9 := hE.eval 9 (by rfl) e9
        replace e11 := hE.eval 11 (by rfl) e11
        replace e12 := hE.eval 12 (by rfl) e12
        replace k := k.env hE
        clear hE
        refine then_n ?_
        refine cond_t e73 rfl ?_
        refine wp_exit ?_
        refine then_x ?_
        refine block_x ?_
        refine then_n ?_
        refine wp_region_lit ?_
        have hE := Env.refl a64 [39, 40, 9]
        apply sq_det 39 hE k rfl (by rfl) (by rfl) rfl
        case h =>
          exact x_move rfl e9
        intro a65 hE e39 kp
        replace e9 := (kp 9 rfl).trans e9
        apply sq_det 40 hE k rfl (by rfl) (by rfl) rfl
        case h =>
          exact x_add rfl e39 rfl (by omega)
        intro a66 hE e40 kp
        replace e9 := (kp 9 rfl).trans e9
        apply sq_det 9 hE k rfl (by rfl) (by rfl) rfl
        case h =>
          exact x_assign rfl e40
        intro a67 hE e9 kp
        refine wpList_nil ?_
        replace e0 := hE.eval 0 (by rfl) e0
        replace e1 := hE.eval 1 (by rfl) e1
        replace e5 := hE.eval 5 (by rfl) e5
        replace e6 := hE.eval 6 (by rfl) e6
        replace e7 := hE.eval 7 (by rfl) e7
        replace e8 := hE.eval 8 (by rfl) e8
        replace k := k.env hE
        clear hE e11 e12 e73
        refine then_n ?_
        refine ⟨⟨k, e0, e1, e5, i + 1, rt, n, P, rts, Qs, us, Br, cr, Bu, cu, N ++ M, B2, cap2, vs2, e6, e7, e8, e9, by omega, by simp only [List.length_append]; omega, by omega, hrn, (hT.mono M).le (by omega), hPast.mono M, O⟩, ?_⟩
        rw [e9, mi]; simp only [intOf]; omega
      · skip
        refine wp_seq ?_
        refine wp_seq ?_
        refine wp_region_lit ?_
        have hE := Env.refl a62 [72, 73]
        apply sq_det 72 hE k rfl (by rfl) (by rfl) rfl
        case h =>
          exact x_move rfl (hE.eval 12 (by rfl) e12)
        intro a68 hE e72 kp
        apply sq_det 73 hE k rfl (by rfl) (by rfl) rfl
        case h =>
          exact x_dec (x_eql rfl e72 rfl) (decide_eq_false (by omega))
        intro a69 hE e73 kp
        refine wpList_nil ?_
        replace e0 := hE.eval 0 (by rfl) e0
        replace e1 := hE.eval 1 (by rfl) e1
        replace e5 := hE.eval 5 (by rfl) e5
        replace e6 := hE.eval 6 (by rfl) e6
        replace e7 := hE.eval 7 (by rfl) e7
        replace e8 := hE.eval 8 (by rfl) e8
        replace e9 := hE.eval 9 (by rfl) e9
        replace e11 := hE.eval 11 (by rfl) e11
        replace e12 := hE.eval 12 (by rfl) e12
        replace k := k.env hE
        clear hE
        refine then_n ?_
        refine cond_f e73 rfl ?_
        refine wp_skip ?_
        refine then_n ?_
        refine wp_seq ?_
        refine wp_seq ?_
        refine wp_region_lit ?_
        have hE := Env.refl a69 [74, 75]
        apply sq_det 74 hE k rfl (by rfl) (by rfl) rfl
        case h =>
          exact x_move rfl (hE.eval 12 (by rfl) e12)
        intro a70 hE e74 kp
        apply sq_det 75 hE k rfl (by rfl) (by rfl) rfl
        case h =>
          exact x_dec (x_neq rfl e74 rfl) (decide_eq_false (by omega))
        intro a71 hE e75 kp
        refine wpList_nil ?_
        replace e0 := hE.eval 0 (by rfl) e0
        replace e1 := hE.eval 1 (by rfl) e1
        replace e5 := hE.eval 5 (by rfl) e5
        replace e6 := hE.eval 6 (by rfl) e6
        replace e7 := hE.eval 7 (by rfl) e7
        replace e9 := hE.eval 9 (by rfl) e9
        replace e11 := hE.eval 11 (by rfl) e11
        replace k := k.env hE
        clear hE e8 e12 e73
        refine then_n ?_
        refine cond_f e75 rfl ?_
        refine wp_skip ?_
        refine then_n ?_
        refine wp_seq ?_
        refine wp_region_lit ?_
        have hE := Env.refl a71 [77, 78, 79, 80, 76, 81, 82, 13, 14]
        apply sq_det 77 hE k rfl (by rfl) (by rfl) rfl
        case h =>
          exact x_move rfl (hE.eval 5 (by rfl) e5)
        intro a72 hE e77 kp
        apply sq_det 78 hE k rfl (by rfl) (by rfl) rfl
        case h =>
          simp [go_sem, ↓IntWalk.iteOmega, ev e77]
          with_reducible rfl
        intro a73 hE e78 kp
        apply sq_det 79 hE k rfl (by rfl) (by rfl) rfl
        case h =>
          exact x_move rfl (hE.eval 11 (by rfl) e11)
        intro a74 hE e79 kp
        replace e78 := (kp 78 rfl).trans e78
        apply sq_call 80 hE k rfl (by rfl) (by rfl) rfl
        case h =>
          simp [go_sem, ↓IntWalk.iteOmega, ev e78, ev e79]
          with_reducible exact ⟨rfl, rfl⟩
        case hc => exact lAll (R := _ :: _ :: _ :: []) _ O hT2 (by omega) (by rw [List.length_append]; omega)
        clear O
        rintro e w76 ⟨Bl, cl, rfl, O⟩
        refine ⟨_, rfl, ?_⟩
        intro a75 hE e80 kp
        apply sq_det 76 hE k rfl (by rfl) (by rfl) rfl
        case h =>
          exact x_move rfl e80
        intro a77 hE e76 kp
        apply sq_det 81 hE k rfl (by rfl) (by rfl) rfl
        case h =>
          simp [go_sem, ↓IntWalk.iteOmega, ev e76]
          with_reducible rfl
        intro a78 hE e81 kp
        replace e76 := (kp 76 rfl).trans e76
        apply sq_det 82 hE k rfl (by rfl) (by rfl) rfl
        case h =>
          simp [go_sem, ↓IntWalk.iteOmega, ev e76]
          with_reducible rfl
        intro a79 hE e82 kp
        replace e81 := (kp 81 rfl).trans e81
        apply sq_det 13 hE k rfl (by rfl) (by rfl) rfl
        case h =>
          exact x_assign rfl e81
        intro a80 hE e13 kp
        replace e82 := (kp 82 rfl).trans e82
        apply sq_det 14 hE k rfl (by rfl) (by rfl) rfl
        case h =>
          exact x_assign rfl e82
        intro a81 hE e14 kp
        replace e13 := (kp 13 rfl).trans e13
        refine wpList_nil ?_
        replace e0 := hE.eval 0 (by rfl) e0
        replace e1 := hE.eval 1 (by rfl) e1
        replace e5 := hE.eval 5 (by rfl) e5
        replace e6 := hE.eval 6 (by rfl) e6
        replace e7 := hE.eval 7 (by rfl) e7
        replace e9 := hE.eval 9 (by rfl) e9
        replace e11 := hE.eval 11 (by rfl) e11
        replace k := k.env hE
        clear hE e75
        refine then_n ?_
        refine wp_seq ?_
        refine wp_seq ?_
        refine wp_region_lit ?_
        have hE := Env.refl a81 [83, 84]
        apply sq_det 83 hE k rfl (by rfl) (by rfl) rfl
        case h =>
          exact x_move rfl (hE.eval 14 (by rfl) e14)
        intro a82 hE e83 kp
        apply sq_det 84 hE k rfl (by rfl) (by rfl) rfl
        case h =>
          exact x_dec (x_neq rfl e83 rfl) (decide_eq_false (by omega))
        intro a83 hE e84 kp
        refine wpList_nil ?_
        replace e0 := hE.eval 0 (by rfl) e0
        replace e1 := hE.eval 1 (by rfl) e1
        replace e5 := hE.eval 5 (by rfl) e5
        replace e6 := hE.eval 6 (by rfl) e6
        replace e7 := hE.eval 7 (by rfl) e7
        replace e9 := hE.eval 9 (by rfl) e9
        replace e11 := hE.eval 11 (by rfl) e11
        replace e13 := hE.eval 13 (by rfl) e13
        replace k := k.env hE
        clear hE e14
        refine then_n ?_
        refine cond_f e84 rfl ?_
        refine wp_skip ?_
        refine then_n ?_
        refine wp_seq ?_
        refine wp_region_lit ?_
        have hE := Env.refl a83 [85, 8]
        apply sq_det 85 hE k rfl (by rfl) (by rfl) rfl
        case h =>
          exact x_move rfl (hE.eval 11 (by rfl) e11)
        intro a84 hE e85 kp
        apply sq_det 8 hE k rfl (by rfl) (by rfl) rfl
        case h =>
          exact x_assign rfl e85
        intro a85 hE e8 kp
        refine wpList_nil ?_
        replace e0 := hE.eval 0 (by rfl) e0
        replace e1 := hE.eval 1 (by rfl) e1
        replace e5 := hE.eval 5 (by rfl) e5
        replace e6 := hE.eval 6 (by rfl) e6
        replace e7 := hE.eval 7 (by rfl) e7
        replace e9 := hE.eval 9 (by rfl) e9
        replace e11 := hE.eval 11 (by rfl) e11
        replace e13 := hE.eval 13 (by rfl) e13
        replace k := k.env hE
        clear hE e84
        refine then_n ?_
        replace O : OwnT _ _ ((tRow 3 1 (.slice Br n cr) n (ints rts)) :: (tBlk sb 28 #[.slice B2 (((N ++ M)).length) cap2, .int .i64 511]) :: (tRow 125 2 (.slice B2 ((N ++ M)).length cap2) ((N ++ M)).length (leafV vs2 ((N ++ M)))) :: (tPool vs2 ((N ++ M))) :: (tPs (.slice Bl (delP kx P).length cl) (delP kx P)) :: (tRow 29 1 (.slice Bu n cu) n us) :: (tPool us Qs) :: []) w76 := OwnT.pickR (L := [_, _, _, _, _, _, _]) (R := []) O [4, 0, 1, 2, 3, 5, 6] (by decide)
        refine wp_seq ?_
        refine wp_region_lit ?_
        have hE := Env.refl a85 [86, 87, 88, 89, 6]
        apply sq_det 86 hE k rfl (by rfl) (by rfl) rfl
        case h =>
          exact x_move rfl e6
        intro a86 hE e86 kp
        replace e6 := (kp 6 rfl).trans e6
        apply sq_det 87 hE k rfl (by rfl) (by rfl) rfl
        case h =>
          exact x_move rfl (hE.eval 11 (by rfl) e11)
        intro a87 hE e87 kp
        replace e6 := (kp 6 rfl).trans e6
        replace e86 := (kp 86 rfl).trans e86
        refine sq_news (m := 1) (c := 1) O (cs := #[.int .i64 ↑r]) (t := 3) 88 hE k rfl (by rfl) (by rfl) rfl (by simp [go_sem, ↓IntWalk.iteOmega, ev e87]) ?_
        clear O
        intro g7 a88 w89 O hE e88 kp
        replace e6 := (kp 6 rfl).trans e6
        replace e86 := (kp 86 rfl).trans e86
        obtain ⟨gr, cr2, w90, hrun, O⟩ := app_seq O elemI8 (by decide) rfl (by intro u hu; simp at hu; subst hu; rfl) (by unfold maxLen; omega) (by omega)
        apply sq_val 89 hE k rfl (by rfl) (by rfl) rfl
        case h => exact x_append rfl e86 e88 (hrun _)
        clear hrun
        intro a91 hE e89 kp
        replace e6 := (kp 6 rfl).trans e6
        apply sq_det 6 hE k rfl (by rfl) (by rfl) rfl
        case h =>
          exact x_assign rfl e89
        intro a92 hE e6 kp
        refine wpList_nil ?_
        replace e0 := hE.eval 0 (by rfl) e0
        replace e1 := hE.eval 1 (by rfl) e1
        replace e5 := hE.eval 5 (by rfl) e5
        replace e7 := hE.eval 7 (by rfl) e7
        replace e8 := hE.eval 8 (by rfl) e8
        replace e9 := hE.eval 9 (by rfl) e9
        replace e13 := hE.eval 13 (by rfl) e13
        replace k := k.env hE
        clear hE e11
        refine then_n ?_
        replace O : OwnT _ _ ((tRow 29 1 (.slice Bu n cu) n us) :: (tRow 3 1 (.slice (some ⟨gr, 0, none⟩) ((n + 1)) cr2) (n + 1) ((ints rts) ++ [Value.int .i64 (r : Int)])) :: (tBlk sb 28 #[.slice B2 (((N ++ M)).length) cap2, .int .i64 511]) :: (tRow 125 2 (.slice B2 ((N ++ M)).length cap2) ((N ++ M)).length (leafV vs2 ((N ++ M)))) :: (tPool vs2 ((N ++ M))) :: (tPs (.slice Bl (delP kx P).length cl) (delP kx P)) :: (tPool us Qs) :: []) w90 := OwnT.pickR (L := [_, _, _, _, _, _, _]) (R := []) O [5, 0, 1, 2, 3, 4, 6] (by decide)
        refine wp_region_lit ?_
        have hE := Env.refl a92 [90, 91, 92, 93, 7]
        apply sq_det 90 hE k rfl (by rfl) (by rfl) rfl
        case h =>
          exact x_move rfl e7
        intro a93 hE e90 kp
        replace e7 := (kp 7 rfl).trans e7
        apply sq_det 91 hE k rfl (by rfl) (by rfl) rfl
        case h =>
          exact x_move rfl (hE.eval 13 (by rfl) e13)
        intro a94 hE e91 kp
        replace e7 := (kp 7 rfl).trans e7
        replace e90 := (kp 90 rfl).trans e90
        refine sq_news (m := 1) (c := 1) O (cs := #[.slice Bl ((delP kx P).length) cl]) (t := 29) 92 hE k rfl (by rfl) (by rfl) rfl (by simp [go_sem, ↓IntWalk.iteOmega, ev e91]) ?_
        clear O
        intro g8 a95 w96 O hE e92 kp
        replace e7 := (kp 7 rfl).trans e7
        replace e90 := (kp 90 rfl).trans e90
        obtain ⟨gu, cu2, w97, hrun, O⟩ := app_seq O elemPS (by decide) rfl (by intro u hu; simp at hu; subst hu; rfl) (by unfold maxLen; omega) (by omega)
        apply sq_val 93 hE k rfl (by rfl) (by rfl) rfl
        case h => exact x_append rfl e90 e92 (hrun _)
        clear hrun
        intro a98 hE e93 kp
        replace e7 := (kp 7 rfl).trans e7
        apply sq_det 7 hE k rfl (by rfl) (by rfl) rfl
        case h =>
          exact x_assign rfl e93
        intro a99 hE e7 kp
        refine wpList_nil ?_
        replace e0 := hE.eval 0 (by rfl) e0
        replace e1 := hE.eval 1 (by rfl) e1
        replace e5 := hE.eval 5 (by rfl) e5
        replace e6 := hE.eval 6 (by rfl) e6
        replace e8 := hE.eval 8 (by rfl) e8
        replace e9 := hE.eval 9 (by rfl) e9
        replace k := k.env hE
        clear hE e13
        refine block_n ?_
        refine then_n ?_
        replace O : OwnT _ _ ((tPs (.slice Bl (delP kx P).length cl) (delP kx P)) :: (tPool us Qs) :: (tBlk sb 28 #[.slice B2 (((N ++ M)).length) cap2, .int .i64 511]) :: (tRow 125 2 (.slice B2 ((N ++ M)).length cap2) ((N ++ M)).length (leafV vs2 ((N ++ M)))) :: (tPool vs2 ((N ++ M))) :: (tRow 3 1 (.slice (some ⟨gr, 0, none⟩) ((n + 1)) cr2) (n + 1) ((ints rts) ++ [Value.int .i64 (r : Int)])) :: (tRow 29 1 (.slice (some ⟨gu, 0, none⟩) ((n + 1)) cu2) (n + 1) (us ++ [Value.slice Bl (delP kx P).length cl])) :: []) w97 := OwnT.pickR (L := [_, _, _, _, _, _, _]) (R := []) O [5, 6, 2, 3, 4, 1, 0] (by decide)
        replace O := OwnT.poolAdd (l := 0) O
        replace O : OwnT _ _ ((tBlk sb 28 #[.slice B2 (((N ++ M)).length) cap2, .int .i64 511]) :: (tRow 125 2 (.slice B2 ((N ++ M)).length cap2) ((N ++ M)).length (leafV vs2 ((N ++ M)))) :: (tPool vs2 ((N ++ M))) :: (tRow 3 1 (.slice (some ⟨gr, 0, none⟩) ((n + 1)) cr2) (n + 1) ((ints rts) ++ [Value.int .i64 (r : Int)])) :: (tRow 29 1 (.slice (some ⟨gu, 0, none⟩) ((n + 1)) cu2) (n + 1) (us ++ [Value.slice Bl (delP kx P).length cl])) :: (tPool ((us ++ [.slice Bl (delP kx P).length cl])) ((Qs ++ [(0, delP kx P)]))) :: []) w97 := OwnT.pickR (L := [_, _, _, _, _, _]) (R := []) O [1, 2, 3, 4, 5, 0] (by decide)
        refine wp_region_lit ?_
        have hE := Env.refl a99 [39, 40, 9]
        apply sq_det 39 hE k rfl (by rfl) (by rfl) rfl
        case h =>
          exact x_move rfl e9
        intro a100 hE e39 kp
        replace e9 := (kp 9 rfl).trans e9
        apply sq_det 40 hE k rfl (by rfl) (by rfl) rfl
        case h =>
          exact x_add rfl e39 rfl (by omega)
        intro a101 hE e40 kp
        replace e9 := (kp 9 rfl).trans e9
        apply sq_det 9 hE k rfl (by rfl) (by rfl) rfl
        case h =>
          exact x_assign rfl e40
        intro a102 hE e9 kp
        refine wpList_nil ?_
        replace e0 := hE.eval 0 (by rfl) e0
        replace e1 := hE.eval 1 (by rfl) e1
        replace e5 := hE.eval 5 (by rfl) e5
        replace e6 := hE.eval 6 (by rfl) e6
        replace e7 := hE.eval 7 (by rfl) e7
        replace e8 := hE.eval 8 (by rfl) e8
        replace k := k.env hE
        clear hE
        refine then_n ?_
        rw [← ints_app] at O
        refine ⟨⟨k, e0, e1, e5, i + 1, r, n + 1, delP kx P, rts ++ [r], Qs ++ [(0, delP kx P)], us ++ [.slice Bl (delP kx P).length cl], some ⟨gr, 0, none⟩, cr2, some ⟨gu, 0, none⟩, cu2, N ++ M, B2, cap2, vs2, e6, e7, e8, e9, by omega, by simp only [List.length_append]; omega, by omega, by rw [List.length_append, hrn]; rfl, hT2.le (by omega), (hPast.mono M).add (hT2.le (by omega)), O⟩, ?_⟩
        rw [e9, mi]; simp only [intOf]; omega
    | false =>
      refine cond_f e52 (rfl) ?_
      clear e52
      refine wp_region_lit ?_
      have hE := Env.refl a50 [63, 64, 65, 66, 67, 68, 69, 62, 70, 71, 11, 12]
      apply sq_det 63 hE k rfl (by rfl) (by rfl) rfl
      case h =>
        exact x_move rfl (hE.eval 5 (by rfl) e5)
      intro a103 hE e63 kp
      apply sq_det 64 hE k rfl (by rfl) (by rfl) rfl
      case h =>
        simp [go_sem, ↓IntWalk.iteOmega, ev e63]
        with_reducible rfl
      intro a104 hE e64 kp
      apply sq_det 65 hE k rfl (by rfl) (by rfl) rfl
      case h =>
        exact x_move rfl (hE.eval 8 (by rfl) e8)
      intro a105 hE e65 kp
      replace e64 := (kp 64 rfl).trans e64
      apply sq_det 66 hE k rfl (by rfl) (by rfl) rfl
      case h =>
        exact x_move rfl (hE.eval 10 (by rfl) e10)
      intro a106 hE e66 kp
      replace e64 := (kp 64 rfl).trans e64
      replace e65 := (kp 65 rfl).trans e65
      apply sq_det 67 hE k rfl (by rfl) (by rfl) rfl
      case h =>
        exact x_move rfl (hE.eval 9 (by rfl) e9)
      intro a107 hE e67 kp
      replace e64 := (kp 64 rfl).trans e64
      replace e65 := (kp 65 rfl).trans e65
      replace e66 := (kp 66 rfl).trans e66
      apply sq_det 68 hE k rfl (by rfl) (by rfl) rfl
      case h =>
        exact x_conv rfl e67 (conv_u64 i _ (by omega))
      intro a108 hE e68 kp
      replace e64 := (kp 64 rfl).trans e64
      replace e65 := (kp 65 rfl).trans e65
      replace e66 := (kp 66 rfl).trans e66
      apply sq_call 69 hE k rfl (by rfl) (by rfl) rfl
      case h =>
        simp [go_sem, ↓IntWalk.iteOmega, ev e64, ev e65, ev e66, ev e68]
        with_reducible exact ⟨rfl, rfl⟩
      case hc => exact lPut (R := _ :: _ :: _ :: []) (ky := kx) (vl := i) _ O hT.norm (by split <;> omega) (by omega) (by omega) (by omega)
      clear O
      rintro e w110 ⟨N2, r2, er, B2, cap2, vs2, rfl, O, hPL⟩
      refine ⟨_, rfl, ?_⟩
      intro a109 hE e69 kp
      apply sq_det 62 hE k rfl (by rfl) (by rfl) rfl
      case h =>
        exact x_move rfl e69
      intro a111 hE e62 kp
      apply sq_det 70 hE k rfl (by rfl) (by rfl) rfl
      case h =>
        simp [go_sem, ↓IntWalk.iteOmega, ev e62]
        with_reducible rfl
      intro a112 hE e70 kp
      replace e62 := (kp 62 rfl).trans e62
      apply sq_det 71 hE k rfl (by rfl) (by rfl) rfl
      case h =>
        simp [go_sem, ↓IntWalk.iteOmega, ev e62]
        with_reducible rfl
      intro a113 hE e71 kp
      replace e70 := (kp 70 rfl).trans e70
      apply sq_det 11 hE k rfl (by rfl) (by rfl) rfl
      case h =>
        exact x_assign rfl e70
      intro a114 hE e11 kp
      replace e71 := (kp 71 rfl).trans e71
      apply sq_det 12 hE k rfl (by rfl) (by rfl) rfl
      case h =>
        exact x_assign rfl e71
      intro a115 hE e12 kp
      replace e11 := (kp 11 rfl).trans e11
      refine wpList_nil ?_
      replace e0 := hE.eval 0 (by rfl) e0
      replace e1 := hE.eval 1 (by rfl) e1
      replace e5 := hE.eval 5 (by rfl) e5
      replace e6 := hE.eval 6 (by rfl) e6
      replace e7 := hE.eval 7 (by rfl) e7
      replace e8 := hE.eval 8 (by rfl) e8
      replace e9 := hE.eval 9 (by rfl) e9
      replace k := k.env hE
      clear hE e10
      refine then_n ?_
      obtain ⟨⟨M, rfl, hM⟩, hPL⟩ := hPL
      have hX : (er = 6) ∨ (er = 0 ∧ ∃ r : Nat, r2 = r ∧ Tre (N ++ M) r (8 + i + 1) (insP (kx, i) P)) := by
        rcases hPL with ⟨h1, _⟩ | ⟨h1, r, h2, _, _, h3⟩
        · exact .inl h1
        · exact .inr ⟨h1, r, h2, h3.next (by omega)⟩
      clear hPL
      
      rcases hX with rfl | ⟨rfl, r, rfl, hT2⟩
      · skip
        refine wp_seq ?_
        refine wp_seq ?_
        refine wp_region_lit ?_
        have hE := Env.refl a115 [72, 73]
        apply sq_det 72 hE k rfl (by rfl) (by rfl) rfl
        case h =>
          exact x_move rfl (hE.eval 12 (by rfl) e12)
        intro a116 hE e72 kp
        apply sq_det 73 hE k rfl (by rfl) (by rfl) rfl
        case h =>
          exact x_dec (x_eql rfl e72 rfl) (decide_eq_true (by omega))
        intro a117 hE e73 kp
        refine wpList_nil ?_
        replace e0 := hE.eval 0 (by rfl) e0
        replace e1 := hE.eval 1 (by rfl) e1
        replace e5 := hE.eval 5 (by rfl) e5
        replace e6 := hE.eval 6 (by rfl) e6
        replace e7 := hE.eval 7 (by rfl) e7
        replace e8 := hE.eval 8 (by rfl) e8
        replace e9 := hE.eval 9 (by rfl) e9
        replace e11 := hE.eval 11 (by rfl) e11
        replace e12 := hE.eval 12 (by rfl) e12
        replace k := k.env hE
        clear hE
        refine then_n ?_
        refine cond_t e73 rfl ?_
        refine wp_exit ?_
        refine then_x ?_
        refine block_x ?_
        refine then_n ?_
        refine wp_region_lit ?_
        have hE := Env.refl a117 [39, 40, 9]
        apply sq_det 39 hE k rfl (by rfl) (by rfl) rfl
        case h =>
          exact x_move rfl e9
        intro a118 hE e39 kp
        replace e9 := (kp 9 rfl).trans e9
        apply sq_det 40 hE k rfl (by rfl) (by rfl) rfl
        case h =>
          exact x_add rfl e39 rfl (by omega)
        intro a119 hE e40 kp
        replace e9 := (kp 9 rfl).trans e9
        apply sq_det 9 hE k rfl (by rfl) (by rfl) rfl
        case h =>
          exact x_assign rfl e40
        intro a120 hE e9 kp
        refine wpList_nil ?_
        replace e0 := hE.eval 0 (by rfl) e0
        replace e1 := hE.eval 1 (by rfl) e1
        replace e5 := hE.eval 5 (by rfl) e5
        replace e6 := hE.eval 6 (by rfl) e6
        replace e7 := hE.eval 7 (by rfl) e7
        replace e8 := hE.eval 8 (by rfl) e8
        replace k := k.env hE
        clear hE e11 e12 e73
        refine then_n ?_
        refine ⟨⟨k, e0, e1, e5, i + 1, rt, n, P, rts, Qs, us, Br, cr, Bu, cu, N ++ M, B2, cap2, vs2, e6, e7, e8, e9, by omega, by simp only [List.length_append]; omega, by omega, hrn, (hT.mono M).le (by omega), hPast.mono M, O⟩, ?_⟩
        rw [e9, mi]; simp only [intOf]; omega
      · skip
        refine wp_seq ?_
        refine wp_seq ?_
        refine wp_region_lit ?_
        have hE := Env.refl a115 [72, 73]
        apply sq_det 72 hE k rfl (by rfl) (by rfl) rfl
        case h =>
          exact x_move rfl (hE.eval 12 (by rfl) e12)
        intro a121 hE e72 kp
        apply sq_det 73 hE k rfl (by rfl) (by rfl) rfl
        case h =>
          exact x_dec (x_eql rfl e72 rfl) (decide_eq_false (by omega))
        intro a122 hE e73 kp
        refine wpList_nil ?_
        replace e0 := hE.eval 0 (by rfl) e0
        replace e1 := hE.eval 1 (by rfl) e1
        replace e5 := hE.eval 5 (by rfl) e5
        replace e6 := hE.eval 6 (by rfl) e6
        replace e7 := hE.eval 7 (by rfl) e7
        replace e8 := hE.eval 8 (by rfl) e8
        replace e9 := hE.eval 9 (by rfl) e9
        replace e11 := hE.eval 11 (by rfl) e11
        replace e12 := hE.eval 12 (by rfl) e12
        replace k := k.env hE
        clear hE
        refine then_n ?_
        refine cond_f e73 rfl ?_
        refine wp_skip ?_
        refine then_n ?_
        refine wp_seq ?_
        refine wp_seq ?_
        refine wp_region_lit ?_
        have hE := Env.refl a122 [74, 75]
        apply sq_det 74 hE k rfl (by rfl) (by rfl) rfl
        case h =>
          exact x_move rfl (hE.eval 12 (by rfl) e12)
        intro a123 hE e74 kp
        apply sq_det 75 hE k rfl (by rfl) (by rfl) rfl
        case h =>
          exact x_dec (x_neq rfl e74 rfl) (decide_eq_false (by omega))
        intro a124 hE e75 kp
        refine wpList_nil ?_
        replace e0 := hE.eval 0 (by rfl) e0
        replace e1 := hE.eval 1 (by rfl) e1
        replace e5 := hE.eval 5 (by rfl) e5
        replace e6 := hE.eval 6 (by rfl) e6
        replace e7 := hE.eval 7 (by rfl) e7
        replace e9 := hE.eval 9 (by rfl) e9
        replace e11 := hE.eval 11 (by rfl) e11
        replace k := k.env hE
        clear hE e8 e12 e73
        refine then_n ?_
        refine cond_f e75 rfl ?_
        refine wp_skip ?_
        refine then_n ?_
        refine wp_seq ?_
        refine wp_region_lit ?_
        have hE := Env.refl a124 [77, 78, 79, 80, 76, 81, 82, 13, 14]
        apply sq_det 77 hE k rfl (by rfl) (by rfl) rfl
        case h =>
          exact x_move rfl (hE.eval 5 (by rfl) e5)
        intro a125 hE e77 kp
        apply sq_det 78 hE k rfl (by rfl) (by rfl) rfl
        case h =>
          simp [go_sem, ↓IntWalk.iteOmega, ev e77]
          with_reducible rfl
        intro a126 hE e78 kp
        apply sq_det 79 hE k rfl (by rfl) (by rfl) rfl
        case h =>
          exact x_move rfl (hE.eval 11 (by rfl) e11)
        intro a127 hE e79 kp
        replace e78 := (kp 78 rfl).trans e78
        apply sq_call 80 hE k rfl (by rfl) (by rfl) rfl
        case h =>
          simp [go_sem, ↓IntWalk.iteOmega, ev e78, ev e79]
          with_reducible exact ⟨rfl, rfl⟩
        case hc => exact lAll (R := _ :: _ :: _ :: []) _ O hT2 (by omega) (by rw [List.length_append]; omega)
        clear O
        rintro e w129 ⟨Bl, cl, rfl, O⟩
        refine ⟨_, rfl, ?_⟩
        intro a128 hE e80 kp
        apply sq_det 76 hE k rfl (by rfl) (by rfl) rfl
        case h =>
          exact x_move rfl e80
        intro a130 hE e76 kp
        apply sq_det 81 hE k rfl (by rfl) (by rfl) rfl
        case h =>
          simp [go_sem, ↓IntWalk.iteOmega, ev e76]
          with_reducible rfl
        intro a131 hE e81 kp
        replace e76 := (kp 76 rfl).trans e76
        apply sq_det 82 hE k rfl (by rfl) (by rfl) rfl
        case h =>
          simp [go_sem, ↓IntWalk.iteOmega, ev e76]
          with_reducible rfl
        intro a132 hE e82 kp
        replace e81 := (kp 81 rfl).trans e81
        apply sq_det 13 hE k rfl (by rfl) (by rfl) rfl
        case h =>
          exact x_assign rfl e81
        intro a133 hE e13 kp
        replace e82 := (kp 82 rfl).trans e82
        apply sq_det 14 hE k rfl (by rfl) (by rfl) rfl
        case h =>
          exact x_assign rfl e82
        intro a134 hE e14 kp
        replace e13 := (kp 13 rfl).trans e13
        refine wpList_nil ?_
        replace e0 := hE.eval 0 (by rfl) e0
        replace e1 := hE.eval 1 (by rfl) e1
        replace e5 := hE.eval 5 (by rfl) e5
        replace e6 := hE.eval 6 (by rfl) e6
        replace e7 := hE.eval 7 (by rfl) e7
        replace e9 := hE.eval 9 (by rfl) e9
        replace e11 := hE.eval 11 (by rfl) e11
        replace k := k.env hE
        clear hE e75
        refine then_n ?_
        refine wp_seq ?_
        refine wp_seq ?_
        refine wp_region_lit ?_
        have hE := Env.refl a134 [83, 84]
        apply sq_det 83 hE k rfl (by rfl) (by rfl) rfl
        case h =>
          exact x_move rfl (hE.eval 14 (by rfl) e14)
        intro a135 hE e83 kp
        apply sq_det 84 hE k rfl (by rfl) (by rfl) rfl
        case h =>
          exact x_dec (x_neq rfl e83 rfl) (decide_eq_false (by omega))
        intro a136 hE e84 kp
        refine wpList_nil ?_
        replace e0 := hE.eval 0 (by rfl) e0
        replace e1 := hE.eval 1 (by rfl) e1
        replace e5 := hE.eval 5 (by rfl) e5
        replace e6 := hE.eval 6 (by rfl) e6
        replace e7 := hE.eval 7 (by rfl) e7
        replace e9 := hE.eval 9 (by rfl) e9
        replace e11 := hE.eval 11 (by rfl) e11
        replace e13 := hE.eval 13 (by rfl) e13
        replace k := k.env hE
        clear hE e14
        refine then_n ?_
        refine cond_f e84 rfl ?_
        refine wp_skip ?_
        refine then_n ?_
        refine wp_seq ?_
        refine wp_region_lit ?_
        have hE := Env.refl a136 [85, 8]
        apply sq_det 85 hE k rfl (by rfl) (by rfl) rfl
        case h =>
          exact x_move rfl (hE.eval 11 (by rfl) e11)
        intro a137 hE e85 kp
        apply sq_det 8 hE k rfl (by rfl) (by rfl) rfl
        case h =>
          exact x_assign rfl e85
        intro a138 hE e8 kp
        refine wpList_nil ?_
        replace e0 := hE.eval 0 (by rfl) e0
        replace e1 := hE.eval 1 (by rfl) e1
        replace e5 := hE.eval 5 (by rfl) e5
        replace e6 := hE.eval 6 (by rfl) e6
        replace e7 := hE.eval 7 (by rfl) e7
        replace e9 := hE.eval 9 (by rfl) e9
        replace e11 := hE.eval 11 (by rfl) e11
        replace e13 := hE.eval 13 (by rfl) e13
        replace k := k.env hE
        clear hE e84
        refine then_n ?_
        replace O : OwnT _ _ ((tRow 3 1 (.slice Br n cr) n (ints rts)) :: (tBlk sb 28 #[.slice B2 (((N ++ M)).length) cap2, .int .i64 511]) :: (tRow 125 2 (.slice B2 ((N ++ M)).length cap2) ((N ++ M)).length (leafV vs2 ((N ++ M)))) :: (tPool vs2 ((N ++ M))) :: (tPs (.slice Bl (insP (kx, i) P).length cl) (insP (kx, i) P)) :: (tRow 29 1 (.slice Bu n cu) n us) :: (tPool us Qs) :: []) w129 := OwnT.pickR (L := [_, _, _, _, _, _, _]) (R := []) O [4, 0, 1, 2, 3, 5, 6] (by decide)
        refine wp_seq ?_
        refine wp_region_lit ?_
        have hE := Env.refl a138 [86, 87, 88, 89, 6]
        apply sq_det 86 hE k rfl (by rfl) (by rfl) rfl
        case h =>
          exact x_move rfl e6
        intro a139 hE e86 kp
        replace e6 := (kp 6 rfl).trans e6
        apply sq_det 87 hE k rfl (by rfl) (by rfl) rfl
        case h =>
          exact x_move rfl (hE.eval 11 (by rfl) e11)
        intro a140 hE e87 kp
        replace e6 := (kp 6 rfl).trans e6
        replace e86 := (kp 86 rfl).trans e86
        refine sq_news (m := 1) (c := 1) O (cs := #[.int .i64 ↑r]) (t := 3) 88 hE k rfl (by rfl) (by rfl) rfl (by simp [go_sem, ↓IntWalk.iteOmega, ev e87]) ?_
        clear O
        intro g7 a141 w142 O hE e88 kp
        replace e6 := (kp 6 rfl).trans e6
        replace e86 := (kp 86 rfl).trans e86
        obtain ⟨gr, cr2, w143, hrun, O⟩ := app_seq O elemI8 (by decide) rfl (by intro u hu; simp at hu; subst hu; rfl) (by unfold maxLen; omega) (by omega)
        apply sq_val 89 hE k rfl (by rfl) (by rfl) rfl
        case h => exact x_append rfl e86 e88 (hrun _)
        clear hrun
        intro a144 hE e89 kp
        replace e6 := (kp 6 rfl).trans e6
        apply sq_det 6 hE k rfl (by rfl) (by rfl) rfl
        case h =>
          exact x_assign rfl e89
        intro a145 hE e6 kp
        refine wpList_nil ?_
        replace e0 := hE.eval 0 (by rfl) e0
        replace e1 := hE.eval 1 (by rfl) e1
        replace e5 := hE.eval 5 (by rfl) e5
        replace e7 := hE.eval 7 (by rfl) e7
        replace e8 := hE.eval 8 (by rfl) e8
        replace e9 := hE.eval 9 (by rfl) e9
        replace e13 := hE.eval 13 (by rfl) e13
        replace k := k.env hE
        clear hE e11
        refine then_n ?_
        replace O : OwnT _ _ ((tRow 29 1 (.slice Bu n cu) n us) :: (tRow 3 1 (.slice (some ⟨gr, 0, none⟩) ((n + 1)) cr2) (n + 1) ((ints rts) ++ [Value.int .i64 (r : Int)])) :: (tBlk sb 28 #[.slice B2 (((N ++ M)).length) cap2, .int .i64 511]) :: (tRow 125 2 (.slice B2 ((N ++ M)).length cap2) ((N ++ M)).length (leafV vs2 ((N ++ M)))) :: (tPool vs2 ((N ++ M))) :: (tPs (.slice Bl (insP (kx, i) P).length cl) (insP (kx, i) P)) :: (tPool us Qs) :: []) w143 := OwnT.pickR (L := [_, _, _, _, _, _, _]) (R := []) O [5, 0, 1, 2, 3, 4, 6] (by decide)
        refine wp_region_lit ?_
        have hE := Env.refl a145 [90, 91, 92, 93, 7]
        apply sq_det 90 hE k rfl (by rfl) (by rfl) rfl
        case h =>
          exact x_move rfl e7
        intro a146 hE e90 kp
        replace e7 := (kp 7 rfl).trans e7
        apply sq_det 91 hE k rfl (by rfl) (by rfl) rfl
        case h =>
          exact x_move rfl (hE.eval 13 (by rfl) e13)
        intro a147 hE e91 kp
        replace e7 := (kp 7 rfl).trans e7
        replace e90 := (kp 90 rfl).trans e90
        refine sq_news (m := 1) (c := 1) O (cs := #[.slice Bl ((insP (kx, i) P).length) cl]) (t := 29) 92 hE k rfl (by rfl) (by rfl) rfl (by simp [go_sem, ↓IntWalk.iteOmega, ev e91]) ?_
        clear O
        intro g8 a148 w149 O hE e92 kp
        replace e7 := (kp 7 rfl).trans e7
        replace e90 := (kp 90 rfl).trans e90
        obtain ⟨gu, cu2, w150, hrun, O⟩ := app_seq O elemPS (by decide) rfl (by intro u hu; simp at hu; subst hu; rfl) (by unfold maxLen; omega) (by omega)
        apply sq_val 93 hE k rfl (by rfl) (by rfl) rfl
        case h => exact x_append rfl e90 e92 (hrun _)
        clear hrun
        intro a151 hE e93 kp
        replace e7 := (kp 7 rfl).trans e7
        apply sq_det 7 hE k rfl (by rfl) (by rfl) rfl
        case h =>
          exact x_assign rfl e93
        intro a152 hE e7 kp
        refine wpList_nil ?_
        replace e0 := hE.eval 0 (by rfl) e0
        replace e1 := hE.eval 1 (by rfl) e1
        replace e5 := hE.eval 5 (by rfl) e5
        replace e6 := hE.eval 6 (by rfl) e6
        replace e8 := hE.eval 8 (by rfl) e8
        replace e9 := hE.eval 9 (by rfl) e9
        replace k := k.env hE
        clear hE e13
        refine block_n ?_
        refine then_n ?_
        replace O : OwnT _ _ ((tPs (.slice Bl (insP (kx, i) P).length cl) (insP (kx, i) P)) :: (tPool us Qs) :: (tBlk sb 28 #[.slice B2 (((N ++ M)).length) cap2, .int .i64 511]) :: (tRow 125 2 (.slice B2 ((N ++ M)).length cap2) ((N ++ M)).length (leafV vs2 ((N ++ M)))) :: (tPool vs2 ((N ++ M))) :: (tRow 3 1 (.slice (some ⟨gr, 0, none⟩) ((n + 1)) cr2) (n + 1) ((ints rts) ++ [Value.int .i64 (r : Int)])) :: (tRow 29 1 (.slice (some ⟨gu, 0, none⟩) ((n + 1)) cu2) (n + 1) (us ++ [Value.slice Bl (insP (kx, i) P).length cl])) :: []) w150 := OwnT.pickR (L := [_, _, _, _, _, _, _]) (R := []) O [5, 6, 2, 3, 4, 1, 0] (by decide)
        replace O := OwnT.poolAdd (l := 0) O
        replace O : OwnT _ _ ((tBlk sb 28 #[.slice B2 (((N ++ M)).length) cap2, .int .i64 511]) :: (tRow 125 2 (.slice B2 ((N ++ M)).length cap2) ((N ++ M)).length (leafV vs2 ((N ++ M)))) :: (tPool vs2 ((N ++ M))) :: (tRow 3 1 (.slice (some ⟨gr, 0, none⟩) ((n + 1)) cr2) (n + 1) ((ints rts) ++ [Value.int .i64 (r : Int)])) :: (tRow 29 1 (.slice (some ⟨gu, 0, none⟩) ((n + 1)) cu2) (n + 1) (us ++ [Value.slice Bl (insP (kx, i) P).length cl])) :: (tPool ((us ++ [.slice Bl (insP (kx, i) P).length cl])) ((Qs ++ [(0, insP (kx, i) P)]))) :: []) w150 := OwnT.pickR (L := [_, _, _, _, _, _]) (R := []) O [1, 2, 3, 4, 5, 0] (by decide)
        refine wp_region_lit ?_
        have hE := Env.refl a152 [39, 40, 9]
        apply sq_det 39 hE k rfl (by rfl) (by rfl) rfl
        case h =>
          exact x_move rfl e9
        intro a153 hE e39 kp
        replace e9 := (kp 9 rfl).trans e9
        apply sq_det 40 hE k rfl (by rfl) (by rfl) rfl
        case h =>
          exact x_add rfl e39 rfl (by omega)
        intro a154 hE e40 kp
        replace e9 := (kp 9 rfl).trans e9
        apply sq_det 9 hE k rfl (by rfl) (by rfl) rfl
        case h =>
          exact x_assign rfl e40
        intro a155 hE e9 kp
        refine wpList_nil ?_
        replace e0 := hE.eval 0 (by rfl) e0
        replace e1 := hE.eval 1 (by rfl) e1
        replace e5 := hE.eval 5 (by rfl) e5
        replace e6 := hE.eval 6 (by rfl) e6
        replace e7 := hE.eval 7 (by rfl) e7
        replace e8 := hE.eval 8 (by rfl) e8
        replace k := k.env hE
        clear hE
        refine then_n ?_
        rw [← ints_app] at O
        refine ⟨⟨k, e0, e1, e5, i + 1, r, n + 1, insP (kx, i) P, rts ++ [r], Qs ++ [(0, insP (kx, i) P)], us ++ [.slice Bl (insP (kx, i) P).length cl], some ⟨gr, 0, none⟩, cr2, some ⟨gu, 0, none⟩, cu2, N ++ M, B2, cap2, vs2, e6, e7, e8, e9, by omega, by simp only [List.length_append]; omega, by omega, by rw [List.length_append, hrn]; rfl, hT2.le (by omega), (hPast.mono M).add (hT2.le (by omega)), O⟩, ?_⟩
        rw [e9, mi]; simp only [intOf]; omega
  · clear mi
    by_cases h1 : i < n1
    rotate_left
    · skip
      refine wp_seq ?_
      refine wp_seq ?_
      refine wp_region_lit ?_
      have hE := Env.refl a20 [25, 26, 27, 28, 29, 30, 31, 32, 33, 34, 35, 36, 37, 38]
      apply sq_det 25 hE k rfl (by rfl) (by rfl) rfl
      case h =>
        exact x_move rfl (hE.eval 9 (by rfl) e9)
      intro a156 hE e25 kp
      apply sq_det 26 hE k rfl (by rfl) (by rfl) rfl
      case h =>
        exact x_move rfl (hE.eval 0 (by rfl) e0)
      intro a157 hE e26 kp
      replace e25 := (kp 25 rfl).trans e25
      apply sq_det 27 hE k rfl (by rfl) (by rfl) rfl
      case h =>
        exact x_len Try.underlying51 rfl e26
      intro a158 hE e27 kp
      replace e25 := (kp 25 rfl).trans e25
      apply sq_det 28 hE k rfl (by rfl) (by rfl) rfl
      case h =>
        exact x_dec (x_lss rfl e25 e27) (decide_eq_false (by omega))
      intro a159 hE e28 kp
      apply sq_det 29 hE k rfl (by rfl) (by rfl) rfl
      case h =>
        exact x_move rfl e28
      intro a160 hE e29 kp
      refine sq_skipg 30 hE k rfl (by rfl) (by rfl) rfl rfl (.inl e29) ?_
      intro a161 hE e30 kp
      replace e29 := (kp 29 rfl).trans e29
      refine sq_skipg 31 hE k rfl (by rfl) (by rfl) rfl rfl (.inl e29) ?_
      intro a162 hE e31 kp
      replace e29 := (kp 29 rfl).trans e29
      replace e30 := (kp 30 rfl).trans e30
      refine sq_skipg 32 hE k rfl (by rfl) (by rfl) rfl rfl (.inl e29) ?_
      intro a163 hE e32 kp
      replace e29 := (kp 29 rfl).trans e29
      replace e30 := (kp 30 rfl).trans e30
      refine sq_skipg 33 hE k rfl (by rfl) (by rfl) rfl rfl (.inl e29) ?_
      intro a164 hE e33 kp
      replace e29 := (kp 29 rfl).trans e29
      apply sq_det 34 hE k rfl (by rfl) (by rfl) rfl
      case h =>
        exact x_pick_f rfl e29 rfl
      intro a165 hE e34 kp
      apply sq_det 35 hE k rfl (by rfl) (by rfl) rfl
      case h =>
        exact x_move rfl e34
      intro a166 hE e35 kp
      refine sq_skipg 36 hE k rfl (by rfl) (by rfl) rfl rfl (.inl e35) ?_
      intro a167 hE e36 kp
      replace e35 := (kp 35 rfl).trans e35
      refine sq_skipg 37 hE k rfl (by rfl) (by rfl) rfl rfl (.inl e35) ?_
      intro a168 hE e37 kp
      replace e35 := (kp 35 rfl).trans e35
      apply sq_det 38 hE k rfl (by rfl) (by rfl) rfl
      case h =>
        exact x_pick_f rfl e35 rfl
      intro a169 hE e38 kp
      refine wpList_nil ?_
      replace e0 := hE.eval 0 (by rfl) e0
      replace e1 := hE.eval 1 (by rfl) e1
      replace e5 := hE.eval 5 (by rfl) e5
      replace e6 := hE.eval 6 (by rfl) e6
      replace e7 := hE.eval 7 (by rfl) e7
      replace e8 := hE.eval 8 (by rfl) e8
      replace e9 := hE.eval 9 (by rfl) e9
      replace k := k.env hE
      clear hE
      refine then_n ?_
      refine cond_f e38 rfl ?_
      refine wp_exit ?_
      refine then_x ?_
      refine then_x ?_
      refine block_x ?_
      refine then_n ?_
      refine wp_seq ?_
      refine wp_seq ?_
      refine wp_region_lit ?_
      have hE := Env.refl a169 [15]
      apply sq_det 15 hE k rfl (by rfl) (by rfl) rfl
      case h =>
        exact x_assign rfl rfl
      intro a170 hE e15 kp
      refine wpList_nil ?_
      replace e5 := hE.eval 5 (by rfl) e5
      replace e6 := hE.eval 6 (by rfl) e6
      replace e7 := hE.eval 7 (by rfl) e7
      replace k := k.env hE
      clear hE e0 e1 e8 e9 e38
      refine then_n ?_
      refine wp_block ?_
      refine wp_loop (fun a w => Fr 131 a ∧ a.eval (.tmp 5) = .pointer (some ⟨sb, 0, none⟩) ∧ a.eval (.tmp 6) = .slice Br n cr ∧ a.eval (.tmp 7) = .slice Bu n cu ∧ ∃ (j : Nat), a.eval (.tmp 15) = .int .i64 ↑j ∧ j ≤ n ∧ OwnT W0.heap.size W0 ((tBlk sb 28 #[.slice B N.length cap, .int .i64 511]) :: (tRow 125 2 (.slice B N.length cap) N.length (leafV vs N)) :: (tPool vs N) :: (tRow 3 1 (.slice Br n cr) n (ints rts)) :: (tRow 29 1 (.slice Bu n cu) n us) :: (tPool us Qs) :: []) w) (fun a w => n - (intOf (a.eval (.tmp 15))).toNat) ?_ ?_
      · exact ⟨k, e5, e6, e7, 0, e15, Nat.zero_le _, O⟩
      intro a171 w172 hI
      clear k e5 e6 e7
      obtain ⟨k, e5, e6, e7, h_⟩ := hI
      clear O e15
      obtain ⟨j, e15, hj, O⟩ := h_
      have mj := e15
      by_cases hltj : j < n
      · have hltjI : (j : Int) < (n : Int) := by omega
        obtain ⟨r, hr⟩ : ∃ r, rts[j]? = some r := ⟨_, List.getElem?_eq_getElem (by omega)⟩
        obtain ⟨q, hq⟩ : ∃ q, Qs[j]? = some q := ⟨_, List.getElem?_eq_getElem (by rw [← hPast.1]; omega)⟩
        have hTj := hPast.2 j r q hr hq
        obtain ⟨q0, Q⟩ := q
        have hTj : Tre N r 100 Q := hTj
        have hQl := hTj.len
        have hul : us.length = Qs.length := (OwnT.get O 5 rfl : (tPool us Qs).holds _).1
        obtain ⟨u, hu⟩ : ∃ u, us[j]? = some u := ⟨_, List.getElem?_eq_getElem (by rw [hul, ← hPast.1]; omega)⟩
        obtain ⟨Bq, cq, rfl, -⟩ := ps_row ((OwnT.get O 5 rfl : (tPool us Qs).holds _).2 j u (q0, Q) hu hq)
        obtain ⟨gr, rfl, d0⟩ := row1_at (OwnT.get O 3 rfl) (show (ints rts)[j]? = some (.int .i64 (r : Int)) by rw [ints, List.getElem?_map, hr]; rfl) hltj
        obtain ⟨gu, rfl, -⟩ := row1_at (OwnT.get O 4 rfl) hu hltj
        
        refine wp_seq ?_
        refine wp_seq ?_
        refine wp_region_lit ?_
        have hE := Env.refl a171 [94, 95, 96, 97]
        apply sq_det 94 hE k rfl (by rfl) (by rfl) rfl
        case h =>
          exact x_move rfl (hE.eval 15 (by rfl) e15)
        intro a173 hE e94 kp
        apply sq_det 95 hE k rfl (by rfl) (by rfl) rfl
        case h =>
          exact x_move rfl (hE.eval 6 (by rfl) e6)
        intro a174 hE e95 kp
        replace e94 := (kp 94 rfl).trans e94
        apply sq_det 96 hE k rfl (by rfl) (by rfl) rfl
        case h =>
          exact x_len Try.underlying51 rfl e95
        intro a175 hE e96 kp
        replace e94 := (kp 94 rfl).trans e94
        apply sq_det 97 hE k rfl (by rfl) (by rfl) rfl
        case h =>
          exact x_dec (x_lss rfl e94 e96) (decide_eq_true (by omega))
        intro a176 hE e97 kp
        refine wpList_nil ?_
        replace e5 := hE.eval 5 (by rfl) e5
        replace e6 := hE.eval 6 (by rfl) e6
        replace e7 := hE.eval 7 (by rfl) e7
        replace e15 := hE.eval 15 (by rfl) e15
        replace k := k.env hE
        clear hE
        refine then_n ?_
        refine cond_t e97 rfl ?_
        refine wp_skip ?_
        refine then_n ?_
        refine wp_seq ?_
        refine wp_block ?_
        refine wp_seq ?_
        refine wp_region_lit ?_
        have hE := Env.refl a176 [101, 102, 103, 104, 105, 106, 107, 100, 108, 109, 16, 17]
        apply sq_det 101 hE k rfl (by rfl) (by rfl) rfl
        case h =>
          exact x_move rfl (hE.eval 5 (by rfl) e5)
        intro a177 hE e101 kp
        apply sq_det 102 hE k rfl (by rfl) (by rfl) rfl
        case h =>
          simp [go_sem, ↓IntWalk.iteOmega, ev e101]
          with_reducible rfl
        intro a178 hE e102 kp
        apply sq_det 103 hE k rfl (by rfl) (by rfl) rfl
        case h =>
          exact x_move rfl (hE.eval 6 (by rfl) e6)
        intro a179 hE e103 kp
        replace e102 := (kp 102 rfl).trans e102
        apply sq_det 104 hE k rfl (by rfl) (by rfl) rfl
        case h =>
          exact x_move rfl (hE.eval 15 (by rfl) e15)
        intro a180 hE e104 kp
        replace e102 := (kp 102 rfl).trans e102
        replace e103 := (kp 103 rfl).trans e103
        apply sq_det 105 hE k rfl (by rfl) (by rfl) rfl
        case h =>
          simp [go_sem, ↓IntWalk.iteOmega, ev e103, ev e104]
          with_reducible rfl
        intro a181 hE e105 kp
        replace e102 := (kp 102 rfl).trans e102
        apply sq_det 106 hE k rfl (by rfl) (by rfl) rfl
        case h =>
          simp [go_sem, ↓IntWalk.iteOmega, ev e105, d0]
          with_reducible rfl
        intro a182 hE e106 kp
        replace e102 := (kp 102 rfl).trans e102
        apply sq_call 107 hE k rfl (by rfl) (by rfl) rfl
        case h =>
          simp [go_sem, ↓IntWalk.iteOmega, ev e102, ev e106]
          with_reducible exact ⟨rfl, rfl⟩
        case hc => exact lAll (R := _ :: _ :: _ :: []) _ O hTj (by omega) (by omega)
        clear O
        rintro e w184 ⟨Bl, cl, rfl, O⟩
        refine ⟨_, rfl, ?_⟩
        intro a183 hE e107 kp
        apply sq_det 100 hE k rfl (by rfl) (by rfl) rfl
        case h =>
          exact x_move rfl e107
        intro a185 hE e100 kp
        apply sq_det 108 hE k rfl (by rfl) (by rfl) rfl
        case h =>
          simp [go_sem, ↓IntWalk.iteOmega, ev e100]
          with_reducible rfl
        intro a186 hE e108 kp
        replace e100 := (kp 100 rfl).trans e100
        apply sq_det 109 hE k rfl (by rfl) (by rfl) rfl
        case h =>
          simp [go_sem, ↓IntWalk.iteOmega, ev e100]
          with_reducible rfl
        intro a187 hE e109 kp
        replace e108 := (kp 108 rfl).trans e108
        apply sq_det 16 hE k rfl (by rfl) (by rfl) rfl
        case h =>
          exact x_assign rfl e108
        intro a188 hE e16 kp
        replace e109 := (kp 109 rfl).trans e109
        apply sq_det 17 hE k rfl (by rfl) (by rfl) rfl
        case h =>
          exact x_assign rfl e109
        intro a189 hE e17 kp
        replace e16 := (kp 16 rfl).trans e16
        refine wpList_nil ?_
        replace e5 := hE.eval 5 (by rfl) e5
        replace e6 := hE.eval 6 (by rfl) e6
        replace e7 := hE.eval 7 (by rfl) e7
        replace e15 := hE.eval 15 (by rfl) e15
        replace k := k.env hE
        clear hE e97
        refine then_n ?_
        clear d0
        obtain ⟨_, e, d1⟩ := row1_at (OwnT.get O 5 rfl) hu hltj
        injection e with e; injection e with e; subst e
        obtain ⟨_, e, d0⟩ := row1_at (OwnT.get O 4 rfl) (show (ints rts)[j]? = some (.int .i64 (r : Int)) by rw [ints, List.getElem?_map, hr]; rfl) hltj
        injection e with e; injection e with e; subst e
        have hqq := (OwnT.get O 6 rfl : (tPool us Qs).holds _).2 j _ (q0, Q) hu hq
        
        refine wp_seq ?_
        refine wp_region_lit ?_
        have hE := Env.refl a189 [110, 111, 112, 113, 114, 115, 116, 117, 118, 119, 120, 121, 122, 123, 124, 125, 126, 127, 128, 129, 130]
        apply sq_det 110 hE k rfl (by rfl) (by rfl) rfl
        case h =>
          exact x_move rfl (hE.eval 17 (by rfl) e17)
        intro a190 hE e110 kp
        apply sq_det 111 hE k rfl (by rfl) (by rfl) rfl
        case h =>
          exact x_neq rfl e110 rfl
        intro a191 hE e111 kp
        apply sq_det 112 hE k rfl (by rfl) (by rfl) rfl
        case h =>
          exact x_move rfl e111
        intro a192 hE e112 kp
        apply sq_detg 113 hE k rfl (by rfl) (by rfl) rfl rfl e112
        case h =>
          exact x_move rfl (hE.eval 16 (by rfl) e16)
        intro a193 hE e113 kp
        replace e112 := (kp 112 rfl).trans e112
        apply sq_detg 114 hE k rfl (by rfl) (by rfl) rfl rfl e112
        case h =>
          exact x_move rfl (hE.eval 7 (by rfl) e7)
        intro a194 hE e114 kp
        replace e112 := (kp 112 rfl).trans e112
        replace e113 := (kp 113 rfl).trans e113
        apply sq_detg 115 hE k rfl (by rfl) (by rfl) rfl rfl e112
        case h =>
          exact x_move rfl (hE.eval 15 (by rfl) e15)
        intro a195 hE e115 kp
        replace e112 := (kp 112 rfl).trans e112
        replace e113 := (kp 113 rfl).trans e113
        replace e114 := (kp 114 rfl).trans e114
        apply sq_detg 116 hE k rfl (by rfl) (by rfl) rfl rfl e112
        case h =>
          simp [go_sem, ↓IntWalk.iteOmega, ev e114, ev e115]
          with_reducible rfl
        intro a196 hE e116 kp
        replace e112 := (kp 112 rfl).trans e112
        replace e113 := (kp 113 rfl).trans e113
        apply sq_detg 117 hE k rfl (by rfl) (by rfl) rfl rfl e112
        case h =>
          simp [go_sem, ↓IntWalk.iteOmega, ev e116, d1]
          with_reducible rfl
        intro a197 hE e117 kp
        replace e112 := (kp 112 rfl).trans e112
        replace e113 := (kp 113 rfl).trans e113
        apply sq_callg 118 hE k rfl (by rfl) (by rfl) rfl rfl e112
        case h =>
          simp [go_sem, ↓IntWalk.iteOmega, ev e113, ev e117]
          with_reducible exact ⟨rfl, rfl⟩
        case hc => exact pairs_same (OwnT.get O 3 rfl) hqq rfl rfl (by omega)
        rintro e w199 ⟨rfl, RE⟩
        replace O := OwnT.ext O RE
        refine ⟨_, rfl, ?_⟩
        intro a198 hE e118 kp
        replace e112 := (kp 112 rfl).trans e112
        apply sq_detg 119 hE k rfl (by rfl) (by rfl) rfl rfl e112
        case h =>
          exact x_not rfl e118
        intro a200 hE e119 kp
        replace e112 := (kp 112 rfl).trans e112
        apply sq_det 120 hE k rfl (by rfl) (by rfl) rfl
        case h =>
          exact x_pick_f rfl e112 e119
        intro a201 hE e120 kp
        apply sq_det 121 hE k rfl (by rfl) (by rfl) rfl
        case h =>
          exact x_move rfl e120
        intro a202 hE e121 kp
        apply sq_detg 122 hE k rfl (by rfl) (by rfl) rfl rfl e121
        case h =>
          exact x_move rfl (hE.eval 5 (by rfl) e5)
        intro a203 hE e122 kp
        replace e121 := (kp 121 rfl).trans e121
        apply sq_detg 123 hE k rfl (by rfl) (by rfl) rfl rfl e121
        case h =>
          simp [go_sem, ↓IntWalk.iteOmega, ev e122]
          with_reducible rfl
        intro a204 hE e123 kp
        replace e121 := (kp 121 rfl).trans e121
        apply sq_detg 124 hE k rfl (by rfl) (by rfl) rfl rfl e121
        case h =>
          exact x_move rfl (hE.eval 6 (by rfl) e6)
        intro a205 hE e124 kp
        replace e121 := (kp 121 rfl).trans e121
        replace e123 := (kp 123 rfl).trans e123
        apply sq_detg 125 hE k rfl (by rfl) (by rfl) rfl rfl e121
        case h =>
          exact x_move rfl (hE.eval 15 (by rfl) e15)
        intro a206 hE e125 kp
        replace e121 := (kp 121 rfl).trans e121
        replace e123 := (kp 123 rfl).trans e123
        replace e124 := (kp 124 rfl).trans e124
        apply sq_detg 126 hE k rfl (by rfl) (by rfl) rfl rfl e121
        case h =>
          simp [go_sem, ↓IntWalk.iteOmega, ev e124, ev e125]
          with_reducible rfl
        intro a207 hE e126 kp
        replace e121 := (kp 121 rfl).trans e121
        replace e123 := (kp 123 rfl).trans e123
        apply sq_detg 127 hE k rfl (by rfl) (by rfl) rfl rfl e121
        case h =>
          obtain ⟨_, e, d0⟩ := row1_at (OwnT.get O 4 rfl) (show (ints rts)[j]? = some (.int .i64 (r : Int)) by rw [ints, List.getElem?_map, hr]; rfl) hltj
          injection e with e; injection e with e; subst e
          simp [go_sem, ↓IntWalk.iteOmega, ev e126, d0]
          with_reducible rfl
        intro a208 hE e127 kp
        replace e121 := (kp 121 rfl).trans e121
        replace e123 := (kp 123 rfl).trans e123
        apply sq_callg 128 hE k rfl (by rfl) (by rfl) rfl rfl e121
        case h =>
          simp [go_sem, ↓IntWalk.iteOmega, ev e123, ev e127]
          with_reducible exact ⟨rfl, rfl⟩
        case hc => exact lCheck (R := _ :: _ :: _ :: _ :: []) _ O hTj (by omega) (by omega)
        clear O
        rintro e w210 ⟨rfl, O⟩
        refine ⟨_, rfl, ?_⟩
        intro a209 hE e128 kp
        replace e121 := (kp 121 rfl).trans e121
        apply sq_detg 129 hE k rfl (by rfl) (by rfl) rfl rfl e121
        case h =>
          exact x_neq rfl e128 rfl
        intro a211 hE e129 kp
        replace e121 := (kp 121 rfl).trans e121
        apply sq_det 130 hE k rfl (by rfl) (by rfl) rfl
        case h =>
          exact x_pick_f rfl e121 e129
        intro a212 hE e130 kp
        refine wpList_nil ?_
        replace e5 := hE.eval 5 (by rfl) e5
        replace e6 := hE.eval 6 (by rfl) e6
        replace e7 := hE.eval 7 (by rfl) e7
        replace e15 := hE.eval 15 (by rfl) e15
        replace k := k.env hE
        clear hE e16 e17
        refine then_n ?_
        refine cond_f e130 rfl ?_
        refine wp_skip ?_
        refine block_n ?_
        refine then_n ?_
        refine wp_region_lit ?_
        have hE := Env.refl a212 [98, 99, 15]
        apply sq_det 98 hE k rfl (by rfl) (by rfl) rfl
        case h =>
          exact x_move rfl e15
        intro a213 hE e98 kp
        replace e15 := (kp 15 rfl).trans e15
        apply sq_det 99 hE k rfl (by rfl) (by rfl) rfl
        case h =>
          exact x_add rfl e98 rfl (by omega)
        intro a214 hE e99 kp
        replace e15 := (kp 15 rfl).trans e15
        apply sq_det 15 hE k rfl (by rfl) (by rfl) rfl
        case h =>
          exact x_assign rfl e99
        intro a215 hE e15 kp
        refine wpList_nil ?_
        replace e5 := hE.eval 5 (by rfl) e5
        replace e6 := hE.eval 6 (by rfl) e6
        replace e7 := hE.eval 7 (by rfl) e7
        replace k := k.env hE
        clear hE e130
        refine then_n ?_
        replace O : OwnT _ _ ((tBlk sb 28 #[.slice B N.length cap, .int .i64 511]) :: (tRow 125 2 (.slice B N.length cap) N.length (leafV vs N)) :: (tPool vs N) :: (tRow 3 1 (.slice (some ⟨gr, 0, none⟩) n cr) n (ints rts)) :: (tRow 29 1 (.slice (some ⟨gu, 0, none⟩) n cu) n us) :: (tPool us Qs) :: []) w210 := OwnT.pickR (L := [_, _, _, _, _, _, _]) (R := []) O [0, 1, 2, 4, 5, 6] (by decide)
        refine ⟨⟨k, e5, e6, e7, j + 1, e15, by omega, O⟩, ?_⟩
        rw [e15, mj]; simp only [intOf]; omega
      · skip
        refine wp_seq ?_
        refine wp_seq ?_
        refine wp_region_lit ?_
        have hE := Env.refl a171 [94, 95, 96, 97]
        apply sq_det 94 hE k rfl (by rfl) (by rfl) rfl
        case h =>
          exact x_move rfl (hE.eval 15 (by rfl) e15)
        intro a216 hE e94 kp
        apply sq_det 95 hE k rfl (by rfl) (by rfl) rfl
        case h =>
          exact x_move rfl (hE.eval 6 (by rfl) e6)
        intro a217 hE e95 kp
        replace e94 := (kp 94 rfl).trans e94
        apply sq_det 96 hE k rfl (by rfl) (by rfl) rfl
        case h =>
          exact x_len Try.underlying51 rfl e95
        intro a218 hE e96 kp
        replace e94 := (kp 94 rfl).trans e94
        apply sq_det 97 hE k rfl (by rfl) (by rfl) rfl
        case h =>
          exact x_dec (x_lss rfl e94 e96) (decide_eq_false (by omega))
        intro a219 hE e97 kp
        refine wpList_nil ?_
        replace e5 := hE.eval 5 (by rfl) e5
        replace e6 := hE.eval 6 (by rfl) e6
        replace e7 := hE.eval 7 (by rfl) e7
        replace e15 := hE.eval 15 (by rfl) e15
        replace k := k.env hE
        clear hE
        refine then_n ?_
        refine cond_f e97 rfl ?_
        refine wp_exit ?_
        refine then_x ?_
        refine then_x ?_
        refine block_x ?_
        refine then_n ?_
        refine wp_seq ?_
        refine wp_region_lit ?_
        have hE := Env.refl a219 [4]
        apply sq_det 4 hE k rfl (by rfl) (by rfl) rfl
        case h =>
          exact x_assign rfl rfl
        intro a220 hE e4 kp
        refine wpList_nil ?_
        replace k := k.env hE
        clear hE e5 e6 e7 e15 e97
        refine then_n ?_
        refine wp_ret ?_
        refine ret_F1 rfl k e4 ?_
        exact ⟨rfl, O.below⟩
    by_cases h2 : i < n2
    rotate_left
    · skip
      refine wp_seq ?_
      refine wp_seq ?_
      refine wp_region_lit ?_
      have hE := Env.refl a20 [25, 26, 27, 28, 29, 30, 31, 32, 33, 34, 35, 36, 37, 38]
      apply sq_det 25 hE k rfl (by rfl) (by rfl) rfl
      case h =>
        exact x_move rfl (hE.eval 9 (by rfl) e9)
      intro a221 hE e25 kp
      apply sq_det 26 hE k rfl (by rfl) (by rfl) rfl
      case h =>
        exact x_move rfl (hE.eval 0 (by rfl) e0)
      intro a222 hE e26 kp
      replace e25 := (kp 25 rfl).trans e25
      apply sq_det 27 hE k rfl (by rfl) (by rfl) rfl
      case h =>
        exact x_len Try.underlying51 rfl e26
      intro a223 hE e27 kp
      replace e25 := (kp 25 rfl).trans e25
      apply sq_det 28 hE k rfl (by rfl) (by rfl) rfl
      case h =>
        exact x_dec (x_lss rfl e25 e27) (decide_eq_true (by omega))
      intro a224 hE e28 kp
      apply sq_det 29 hE k rfl (by rfl) (by rfl) rfl
      case h =>
        exact x_move rfl e28
      intro a225 hE e29 kp
      apply sq_detg 30 hE k rfl (by rfl) (by rfl) rfl rfl e29
      case h =>
        exact x_move rfl (hE.eval 9 (by rfl) e9)
      intro a226 hE e30 kp
      replace e29 := (kp 29 rfl).trans e29
      apply sq_detg 31 hE k rfl (by rfl) (by rfl) rfl rfl e29
      case h =>
        exact x_move rfl (hE.eval 1 (by rfl) e1)
      intro a227 hE e31 kp
      replace e29 := (kp 29 rfl).trans e29
      replace e30 := (kp 30 rfl).trans e30
      apply sq_detg 32 hE k rfl (by rfl) (by rfl) rfl rfl e29
      case h =>
        exact x_len Try.underlying59 rfl e31
      intro a228 hE e32 kp
      replace e29 := (kp 29 rfl).trans e29
      replace e30 := (kp 30 rfl).trans e30
      apply sq_detg 33 hE k rfl (by rfl) (by rfl) rfl rfl e29
      case h =>
        exact x_dec (x_lss rfl e30 e32) (decide_eq_false (by omega))
      intro a229 hE e33 kp
      replace e29 := (kp 29 rfl).trans e29
      apply sq_det 34 hE k rfl (by rfl) (by rfl) rfl
      case h =>
        exact x_pick_t rfl e29 e33
      intro a230 hE e34 kp
      apply sq_det 35 hE k rfl (by rfl) (by rfl) rfl
      case h =>
        exact x_move rfl e34
      intro a231 hE e35 kp
      refine sq_skipg 36 hE k rfl (by rfl) (by rfl) rfl rfl (.inl e35) ?_
      intro a232 hE e36 kp
      replace e35 := (kp 35 rfl).trans e35
      refine sq_skipg 37 hE k rfl (by rfl) (by rfl) rfl rfl (.inl e35) ?_
      intro a233 hE e37 kp
      replace e35 := (kp 35 rfl).trans e35
      apply sq_det 38 hE k rfl (by rfl) (by rfl) rfl
      case h =>
        exact x_pick_f rfl e35 rfl
      intro a234 hE e38 kp
      refine wpList_nil ?_
      replace e0 := hE.eval 0 (by rfl) e0
      replace e1 := hE.eval 1 (by rfl) e1
      replace e5 := hE.eval 5 (by rfl) e5
      replace e6 := hE.eval 6 (by rfl) e6
      replace e7 := hE.eval 7 (by rfl) e7
      replace e8 := hE.eval 8 (by rfl) e8
      replace e9 := hE.eval 9 (by rfl) e9
      replace k := k.env hE
      clear hE
      refine then_n ?_
      refine cond_f e38 rfl ?_
      refine wp_exit ?_
      refine then_x ?_
      refine then_x ?_
      refine block_x ?_
      refine then_n ?_
      refine wp_seq ?_
      refine wp_seq ?_
      refine wp_region_lit ?_
      have hE := Env.refl a234 [15]
      apply sq_det 15 hE k rfl (by rfl) (by rfl) rfl
      case h =>
        exact x_assign rfl rfl
      intro a235 hE e15 kp
      refine wpList_nil ?_
      replace e5 := hE.eval 5 (by rfl) e5
      replace e6 := hE.eval 6 (by rfl) e6
      replace e7 := hE.eval 7 (by rfl) e7
      replace k := k.env hE
      clear hE e0 e1 e8 e9 e38
      refine then_n ?_
      refine wp_block ?_
      refine wp_loop (fun a w => Fr 131 a ∧ a.eval (.tmp 5) = .pointer (some ⟨sb, 0, none⟩) ∧ a.eval (.tmp 6) = .slice Br n cr ∧ a.eval (.tmp 7) = .slice Bu n cu ∧ ∃ (j : Nat), a.eval (.tmp 15) = .int .i64 ↑j ∧ j ≤ n ∧ OwnT W0.heap.size W0 ((tBlk sb 28 #[.slice B N.length cap, .int .i64 511]) :: (tRow 125 2 (.slice B N.length cap) N.length (leafV vs N)) :: (tPool vs N) :: (tRow 3 1 (.slice Br n cr) n (ints rts)) :: (tRow 29 1 (.slice Bu n cu) n us) :: (tPool us Qs) :: []) w) (fun a w => n - (intOf (a.eval (.tmp 15))).toNat) ?_ ?_
      · exact ⟨k, e5, e6, e7, 0, e15, Nat.zero_le _, O⟩
      intro a236 w237 hI
      clear k e5 e6 e7
      obtain ⟨k, e5, e6, e7, h_⟩ := hI
      clear O e15
      obtain ⟨j, e15, hj, O⟩ := h_
      have mj := e15
      by_cases hltj : j < n
      · have hltjI : (j : Int) < (n : Int) := by omega
        obtain ⟨r, hr⟩ : ∃ r, rts[j]? = some r := ⟨_, List.getElem?_eq_getElem (by omega)⟩
        obtain ⟨q, hq⟩ : ∃ q, Qs[j]? = some q := ⟨_, List.getElem?_eq_getElem (by rw [← hPast.1]; omega)⟩
        have hTj := hPast.2 j r q hr hq
        obtain ⟨q0, Q⟩ := q
        have hTj : Tre N r 100 Q := hTj
        have hQl := hTj.len
        have hul : us.length = Qs.length := (OwnT.get O 5 rfl : (tPool us Qs).holds _).1
        obtain ⟨u, hu⟩ : ∃ u, us[j]? = some u := ⟨_, List.getElem?_eq_getElem (by rw [hul, ← hPast.1]; omega)⟩
        obtain ⟨Bq, cq, rfl, -⟩ := ps_row ((OwnT.get O 5 rfl : (tPool us Qs).holds _).2 j u (q0, Q) hu hq)
        obtain ⟨gr, rfl, d0⟩ := row1_at (OwnT.get O 3 rfl) (show (ints rts)[j]? = some (.int .i64 (r : Int)) by rw [ints, List.getElem?_map, hr]; rfl) hltj
        obtain ⟨gu, rfl, -⟩ := row1_at (OwnT.get O 4 rfl) hu hltj
        
        refine wp_seq ?_
        refine wp_seq ?_
        refine wp_region_lit ?_
        have hE := Env.refl a236 [94, 95, 96, 97]
        apply sq_det 94 hE k rfl (by rfl) (by rfl) rfl
        case h =>
          exact x_move rfl (hE.eval 15 (by rfl) e15)
        intro a238 hE e94 kp
        apply sq_det 95 hE k rfl (by rfl) (by rfl) rfl
        case h =>
          exact x_move rfl (hE.eval 6 (by rfl) e6)
        intro a239 hE e95 kp
        replace e94 := (kp 94 rfl).trans e94
        apply sq_det 96 hE k rfl (by rfl) (by rfl) rfl
        case h =>
          exact x_len Try.underlying51 rfl e95
        intro a240 hE e96 kp
        replace e94 := (kp 94 rfl).trans e94
        apply sq_det 97 hE k rfl (by rfl) (by rfl) rfl
        case h =>
          exact x_dec (x_lss rfl e94 e96) (decide_eq_true (by omega))
        intro a241 hE e97 kp
        refine wpList_nil ?_
        replace e5 := hE.eval 5 (by rfl) e5
        replace e6 := hE.eval 6 (by rfl) e6
        replace e7 := hE.eval 7 (by rfl) e7
        replace e15 := hE.eval 15 (by rfl) e15
        replace k := k.env hE
        clear hE
        refine then_n ?_
        refine cond_t e97 rfl ?_
        refine wp_skip ?_
        refine then_n ?_
        refine wp_seq ?_
        refine wp_block ?_
        refine wp_seq ?_
        refine wp_region_lit ?_
        have hE := Env.refl a241 [101, 102, 103, 104, 105, 106, 107, 100, 108, 109, 16, 17]
        apply sq_det 101 hE k rfl (by rfl) (by rfl) rfl
        case h =>
          exact x_move rfl (hE.eval 5 (by rfl) e5)
        intro a242 hE e101 kp
        apply sq_det 102 hE k rfl (by rfl) (by rfl) rfl
        case h =>
          simp [go_sem, ↓IntWalk.iteOmega, ev e101]
          with_reducible rfl
        intro a243 hE e102 kp
        apply sq_det 103 hE k rfl (by rfl) (by rfl) rfl
        case h =>
          exact x_move rfl (hE.eval 6 (by rfl) e6)
        intro a244 hE e103 kp
        replace e102 := (kp 102 rfl).trans e102
        apply sq_det 104 hE k rfl (by rfl) (by rfl) rfl
        case h =>
          exact x_move rfl (hE.eval 15 (by rfl) e15)
        intro a245 hE e104 kp
        replace e102 := (kp 102 rfl).trans e102
        replace e103 := (kp 103 rfl).trans e103
        apply sq_det 105 hE k rfl (by rfl) (by rfl) rfl
        case h =>
          simp [go_sem, ↓IntWalk.iteOmega, ev e103, ev e104]
          with_reducible rfl
        intro a246 hE e105 kp
        replace e102 := (kp 102 rfl).trans e102
        apply sq_det 106 hE k rfl (by rfl) (by rfl) rfl
        case h =>
          simp [go_sem, ↓IntWalk.iteOmega, ev e105, d0]
          with_reducible rfl
        intro a247 hE e106 kp
        replace e102 := (kp 102 rfl).trans e102
        apply sq_call 107 hE k rfl (by rfl) (by rfl) rfl
        case h =>
          simp [go_sem, ↓IntWalk.iteOmega, ev e102, ev e106]
          with_reducible exact ⟨rfl, rfl⟩
        case hc => exact lAll (R := _ :: _ :: _ :: []) _ O hTj (by omega) (by omega)
        clear O
        rintro e w249 ⟨Bl, cl, rfl, O⟩
        refine ⟨_, rfl, ?_⟩
        intro a248 hE e107 kp
        apply sq_det 100 hE k rfl (by rfl) (by rfl) rfl
        case h =>
          exact x_move rfl e107
        intro a250 hE e100 kp
        apply sq_det 108 hE k rfl (by rfl) (by rfl) rfl
        case h =>
          simp [go_sem, ↓IntWalk.iteOmega, ev e100]
          with_reducible rfl
        intro a251 hE e108 kp
        replace e100 := (kp 100 rfl).trans e100
        apply sq_det 109 hE k rfl (by rfl) (by rfl) rfl
        case h =>
          simp [go_sem, ↓IntWalk.iteOmega, ev e100]
          with_reducible rfl
        intro a252 hE e109 kp
        replace e108 := (kp 108 rfl).trans e108
        apply sq_det 16 hE k rfl (by rfl) (by rfl) rfl
        case h =>
          exact x_assign rfl e108
        intro a253 hE e16 kp
        replace e109 := (kp 109 rfl).trans e109
        apply sq_det 17 hE k rfl (by rfl) (by rfl) rfl
        case h =>
          exact x_assign rfl e109
        intro a254 hE e17 kp
        replace e16 := (kp 16 rfl).trans e16
        refine wpList_nil ?_
        replace e5 := hE.eval 5 (by rfl) e5
        replace e6 := hE.eval 6 (by rfl) e6
        replace e7 := hE.eval 7 (by rfl) e7
        replace e15 := hE.eval 15 (by rfl) e15
        replace k := k.env hE
        clear hE e97
        refine then_n ?_
        clear d0
        obtain ⟨_, e, d1⟩ := row1_at (OwnT.get O 5 rfl) hu hltj
        injection e with e; injection e with e; subst e
        obtain ⟨_, e, d0⟩ := row1_at (OwnT.get O 4 rfl) (show (ints rts)[j]? = some (.int .i64 (r : Int)) by rw [ints, List.getElem?_map, hr]; rfl) hltj
        injection e with e; injection e with e; subst e
        have hqq := (OwnT.get O 6 rfl : (tPool us Qs).holds _).2 j _ (q0, Q) hu hq
        
        refine wp_seq ?_
        refine wp_region_lit ?_
        have hE := Env.refl a254 [110, 111, 112, 113, 114, 115, 116, 117, 118, 119, 120, 121, 122, 123, 124, 125, 126, 127, 128, 129, 130]
        apply sq_det 110 hE k rfl (by rfl) (by rfl) rfl
        case h =>
          exact x_move rfl (hE.eval 17 (by rfl) e17)
        intro a255 hE e110 kp
        apply sq_det 111 hE k rfl (by rfl) (by rfl) rfl
        case h =>
          exact x_neq rfl e110 rfl
        intro a256 hE e111 kp
        apply sq_det 112 hE k rfl (by rfl) (by rfl) rfl
        case h =>
          exact x_move rfl e111
        intro a257 hE e112 kp
        apply sq_detg 113 hE k rfl (by rfl) (by rfl) rfl rfl e112
        case h =>
          exact x_move rfl (hE.eval 16 (by rfl) e16)
        intro a258 hE e113 kp
        replace e112 := (kp 112 rfl).trans e112
        apply sq_detg 114 hE k rfl (by rfl) (by rfl) rfl rfl e112
        case h =>
          exact x_move rfl (hE.eval 7 (by rfl) e7)
        intro a259 hE e114 kp
        replace e112 := (kp 112 rfl).trans e112
        replace e113 := (kp 113 rfl).trans e113
        apply sq_detg 115 hE k rfl (by rfl) (by rfl) rfl rfl e112
        case h =>
          exact x_move rfl (hE.eval 15 (by rfl) e15)
        intro a260 hE e115 kp
        replace e112 := (kp 112 rfl).trans e112
        replace e113 := (kp 113 rfl).trans e113
        replace e114 := (kp 114 rfl).trans e114
        apply sq_detg 116 hE k rfl (by rfl) (by rfl) rfl rfl e112
        case h =>
          simp [go_sem, ↓IntWalk.iteOmega, ev e114, ev e115]
          with_reducible rfl
        intro a261 hE e116 kp
        replace e112 := (kp 112 rfl).trans e112
        replace e113 := (kp 113 rfl).trans e113
        apply sq_detg 117 hE k rfl (by rfl) (by rfl) rfl rfl e112
        case h =>
          simp [go_sem, ↓IntWalk.iteOmega, ev e116, d1]
          with_reducible rfl
        intro a262 hE e117 kp
        replace e112 := (kp 112 rfl).trans e112
        replace e113 := (kp 113 rfl).trans e113
        apply sq_callg 118 hE k rfl (by rfl) (by rfl) rfl rfl e112
        case h =>
          simp [go_sem, ↓IntWalk.iteOmega, ev e113, ev e117]
          with_reducible exact ⟨rfl, rfl⟩
        case hc => exact pairs_same (OwnT.get O 3 rfl) hqq rfl rfl (by omega)
        rintro e w264 ⟨rfl, RE⟩
        replace O := OwnT.ext O RE
        refine ⟨_, rfl, ?_⟩
        intro a263 hE e118 kp
        replace e112 := (kp 112 rfl).trans e112
        apply sq_detg 119 hE k rfl (by rfl) (by rfl) rfl rfl e112
        case h =>
          exact x_not rfl e118
        intro a265 hE e119 kp
        replace e112 := (kp 112 rfl).trans e112
        apply sq_det 120 hE k rfl (by rfl) (by rfl) rfl
        case h =>
          exact x_pick_f rfl e112 e119
        intro a266 hE e120 kp
        apply sq_det 121 hE k rfl (by rfl) (by rfl) rfl
        case h =>
          exact x_move rfl e120
        intro a267 hE e121 kp
        apply sq_detg 122 hE k rfl (by rfl) (by rfl) rfl rfl e121
        case h =>
          exact x_move rfl (hE.eval 5 (by rfl) e5)
        intro a268 hE e122 kp
        replace e121 := (kp 121 rfl).trans e121
        apply sq_detg 123 hE k rfl (by rfl) (by rfl) rfl rfl e121
        case h =>
          simp [go_sem, ↓IntWalk.iteOmega, ev e122]
          with_reducible rfl
        intro a269 hE e123 kp
        replace e121 := (kp 121 rfl).trans e121
        apply sq_detg 124 hE k rfl (by rfl) (by rfl) rfl rfl e121
        case h =>
          exact x_move rfl (hE.eval 6 (by rfl) e6)
        intro a270 hE e124 kp
        replace e121 := (kp 121 rfl).trans e121
        replace e123 := (kp 123 rfl).trans e123
        apply sq_detg 125 hE k rfl (by rfl) (by rfl) rfl rfl e121
        case h =>
          exact x_move rfl (hE.eval 15 (by rfl) e15)
        intro a271 hE e125 kp
        replace e121 := (kp 121 rfl).trans e121
        replace e123 := (kp 123 rfl).trans e123
        replace e124 := (kp 124 rfl).trans e124
        apply sq_detg 126 hE k rfl (by rfl) (by rfl) rfl rfl e121
        case h =>
          simp [go_sem, ↓IntWalk.iteOmega, ev e124, ev e125]
          with_reducible rfl
        intro a272 hE e126 kp
        replace e121 := (kp 121 rfl).trans e121
        replace e123 := (kp 123 rfl).trans e123
        apply sq_detg 127 hE k rfl (by rfl) (by rfl) rfl rfl e121
        case h =>
          obtain ⟨_, e, d0⟩ := row1_at (OwnT.get O 4 rfl) (show (ints rts)[j]? = some (.int .i64 (r : Int)) by rw [ints, List.getElem?_map, hr]; rfl) hltj
          injection e with e; injection e with e; subst e
          simp [go_sem, ↓IntWalk.iteOmega, ev e126, d0]
          with_reducible rfl
        intro a273 hE e127 kp
        replace e121 := (kp 121 rfl).trans e121
        replace e123 := (kp 123 rfl).trans e123
        apply sq_callg 128 hE k rfl (by rfl) (by rfl) rfl rfl e121
        case h =>
          simp [go_sem, ↓IntWalk.iteOmega, ev e123, ev e127]
          with_reducible exact ⟨rfl, rfl⟩
        case hc => exact lCheck (R := _ :: _ :: _ :: _ :: []) _ O hTj (by omega) (by omega)
        clear O
        rintro e w275 ⟨rfl, O⟩
        refine ⟨_, rfl, ?_⟩
        intro a274 hE e128 kp
        replace e121 := (kp 121 rfl).trans e121
        apply sq_detg 129 hE k rfl (by rfl) (by rfl) rfl rfl e121
        case h =>
          exact x_neq rfl e128 rfl
        intro a276 hE e129 kp
        replace e121 := (kp 121 rfl).trans e121
        apply sq_det 130 hE k rfl (by rfl) (by rfl) rfl
        case h =>
          exact x_pick_f rfl e121 e129
        intro a277 hE e130 kp
        refine wpList_nil ?_
        replace e5 := hE.eval 5 (by rfl) e5
        replace e6 := hE.eval 6 (by rfl) e6
        replace e7 := hE.eval 7 (by rfl) e7
        replace e15 := hE.eval 15 (by rfl) e15
        replace k := k.env hE
        clear hE e16 e17
        refine then_n ?_
        refine cond_f e130 rfl ?_
        refine wp_skip ?_
        refine block_n ?_
        refine then_n ?_
        refine wp_region_lit ?_
        have hE := Env.refl a277 [98, 99, 15]
        apply sq_det 98 hE k rfl (by rfl) (by rfl) rfl
        case h =>
          exact x_move rfl e15
        intro a278 hE e98 kp
        replace e15 := (kp 15 rfl).trans e15
        apply sq_det 99 hE k rfl (by rfl) (by rfl) rfl
        case h =>
          exact x_add rfl e98 rfl (by omega)
        intro a279 hE e99 kp
        replace e15 := (kp 15 rfl).trans e15
        apply sq_det 15 hE k rfl (by rfl) (by rfl) rfl
        case h =>
          exact x_assign rfl e99
        intro a280 hE e15 kp
        refine wpList_nil ?_
        replace e5 := hE.eval 5 (by rfl) e5
        replace e6 := hE.eval 6 (by rfl) e6
        replace e7 := hE.eval 7 (by rfl) e7
        replace k := k.env hE
        clear hE e130
        refine then_n ?_
        replace O : OwnT _ _ ((tBlk sb 28 #[.slice B N.length cap, .int .i64 511]) :: (tRow 125 2 (.slice B N.length cap) N.length (leafV vs N)) :: (tPool vs N) :: (tRow 3 1 (.slice (some ⟨gr, 0, none⟩) n cr) n (ints rts)) :: (tRow 29 1 (.slice (some ⟨gu, 0, none⟩) n cu) n us) :: (tPool us Qs) :: []) w275 := OwnT.pickR (L := [_, _, _, _, _, _, _]) (R := []) O [0, 1, 2, 4, 5, 6] (by decide)
        refine ⟨⟨k, e5, e6, e7, j + 1, e15, by omega, O⟩, ?_⟩
        rw [e15, mj]; simp only [intOf]; omega
      · skip
        refine wp_seq ?_
        refine wp_seq ?_
        refine wp_region_lit ?_
        have hE := Env.refl a236 [94, 95, 96, 97]
        apply sq_det 94 hE k rfl (by rfl) (by rfl) rfl
        case h =>
          exact x_move rfl (hE.eval 15 (by rfl) e15)
        intro a281 hE e94 kp
        apply sq_det 95 hE k rfl (by rfl) (by rfl) rfl
        case h =>
          exact x_move rfl (hE.eval 6 (by rfl) e6)
        intro a282 hE e95 kp
        replace e94 := (kp 94 rfl).trans e94
        apply sq_det 96 hE k rfl (by rfl) (by rfl) rfl
        case h =>
          exact x_len Try.underlying51 rfl e95
        intro a283 hE e96 kp
        replace e94 := (kp 94 rfl).trans e94
        apply sq_det 97 hE k rfl (by rfl) (by rfl) rfl
        case h =>
          exact x_dec (x_lss rfl e94 e96) (decide_eq_false (by omega))
        intro a284 hE e97 kp
        refine wpList_nil ?_
        replace e5 := hE.eval 5 (by rfl) e5
        replace e6 := hE.eval 6 (by rfl) e6
        replace e7 := hE.eval 7 (by rfl) e7
        replace e15 := hE.eval 15 (by rfl) e15
        replace k := k.env hE
        clear hE
        refine then_n ?_
        refine cond_f e97 rfl ?_
        refine wp_exit ?_
        refine then_x ?_
        refine then_x ?_
        refine block_x ?_
        refine then_n ?_
        refine wp_seq ?_
        refine wp_region_lit ?_
        have hE := Env.refl a284 [4]
        apply sq_det 4 hE k rfl (by rfl) (by rfl) rfl
        case h =>
          exact x_assign rfl rfl
        intro a285 hE e4 kp
        refine wpList_nil ?_
        replace k := k.env hE
        clear hE e5 e6 e7 e15 e97
        refine then_n ?_
        refine wp_ret ?_
        refine ret_F1 rfl k e4 ?_
        exact ⟨rfl, O.below⟩
    refine wp_seq ?_
    refine wp_seq ?_
    refine wp_region_lit ?_
    have hE := Env.refl a20 [25, 26, 27, 28, 29, 30, 31, 32, 33, 34, 35, 36, 37, 38]
    apply sq_det 25 hE k rfl (by rfl) (by rfl) rfl
    case h =>
      exact x_move rfl (hE.eval 9 (by rfl) e9)
    intro a286 hE e25 kp
    apply sq_det 26 hE k rfl (by rfl) (by rfl) rfl
    case h =>
      exact x_move rfl (hE.eval 0 (by rfl) e0)
    intro a287 hE e26 kp
    replace e25 := (kp 25 rfl).trans e25
    apply sq_det 27 hE k rfl (by rfl) (by rfl) rfl
    case h =>
      exact x_len Try.underlying51 rfl e26
    intro a288 hE e27 kp
    replace e25 := (kp 25 rfl).trans e25
    apply sq_det 28 hE k rfl (by rfl) (by rfl) rfl
    case h =>
      exact x_dec (x_lss rfl e25 e27) (decide_eq_true (by omega))
    intro a289 hE e28 kp
    apply sq_det 29 hE k rfl (by rfl) (by rfl) rfl
    case h =>
      exact x_move rfl e28
    intro a290 hE e29 kp
    apply sq_detg 30 hE k rfl (by rfl) (by rfl) rfl rfl e29
    case h =>
      exact x_move rfl (hE.eval 9 (by rfl) e9)
    intro a291 hE e30 kp
    replace e29 := (kp 29 rfl).trans e29
    apply sq_detg 31 hE k rfl (by rfl) (by rfl) rfl rfl e29
    case h =>
      exact x_move rfl (hE.eval 1 (by rfl) e1)
    intro a292 hE e31 kp
    replace e29 := (kp 29 rfl).trans e29
    replace e30 := (kp 30 rfl).trans e30
    apply sq_detg 32 hE k rfl (by rfl) (by rfl) rfl rfl e29
    case h =>
      exact x_len Try.underlying59 rfl e31
    intro a293 hE e32 kp
    replace e29 := (kp 29 rfl).trans e29
    replace e30 := (kp 30 rfl).trans e30
    apply sq_detg 33 hE k rfl (by rfl) (by rfl) rfl rfl e29
    case h =>
      exact x_dec (x_lss rfl e30 e32) (decide_eq_true (by omega))
    intro a294 hE e33 kp
    replace e29 := (kp 29 rfl).trans e29
    apply sq_det 34 hE k rfl (by rfl) (by rfl) rfl
    case h =>
      exact x_pick_t rfl e29 e33
    intro a295 hE e34 kp
    apply sq_det 35 hE k rfl (by rfl) (by rfl) rfl
    case h =>
      exact x_move rfl e34
    intro a296 hE e35 kp
    apply sq_detg 36 hE k rfl (by rfl) (by rfl) rfl rfl e35
    case h =>
      exact x_move rfl (hE.eval 9 (by rfl) e9)
    intro a297 hE e36 kp
    replace e35 := (kp 35 rfl).trans e35
    apply sq_detg 37 hE k rfl (by rfl) (by rfl) rfl rfl e35
    case h =>
      exact x_dec (x_lss rfl e36 rfl) (decide_eq_false (by omega))
    intro a298 hE e37 kp
    replace e35 := (kp 35 rfl).trans e35
    apply sq_det 38 hE k rfl (by rfl) (by rfl) rfl
    case h =>
      exact x_pick_t rfl e35 e37
    intro a299 hE e38 kp
    refine wpList_nil ?_
    replace e0 := hE.eval 0 (by rfl) e0
    replace e1 := hE.eval 1 (by rfl) e1
    replace e5 := hE.eval 5 (by rfl) e5
    replace e6 := hE.eval 6 (by rfl) e6
    replace e7 := hE.eval 7 (by rfl) e7
    replace e8 := hE.eval 8 (by rfl) e8
    replace e9 := hE.eval 9 (by rfl) e9
    replace k := k.env hE
    clear hE
    refine then_n ?_
    refine cond_f e38 rfl ?_
    refine wp_exit ?_
    refine then_x ?_
    refine then_x ?_
    refine block_x ?_
    refine then_n ?_
    refine wp_seq ?_
    refine wp_seq ?_
    refine wp_region_lit ?_
    have hE := Env.refl a299 [15]
    apply sq_det 15 hE k rfl (by rfl) (by rfl) rfl
    case h =>
      exact x_assign rfl rfl
    intro a300 hE e15 kp
    refine wpList_nil ?_
    replace e5 := hE.eval 5 (by rfl) e5
    replace e6 := hE.eval 6 (by rfl) e6
    replace e7 := hE.eval 7 (by rfl) e7
    replace k := k.env hE
    clear hE e0 e1 e8 e9 e38
    refine then_n ?_
    refine wp_block ?_
    refine wp_loop (fun a w => Fr 131 a ∧ a.eval (.tmp 5) = .pointer (some ⟨sb, 0, none⟩) ∧ a.eval (.tmp 6) = .slice Br n cr ∧ a.eval (.tmp 7) = .slice Bu n cu ∧ ∃ (j : Nat), a.eval (.tmp 15) = .int .i64 ↑j ∧ j ≤ n ∧ OwnT W0.heap.size W0 ((tBlk sb 28 #[.slice B N.length cap, .int .i64 511]) :: (tRow 125 2 (.slice B N.length cap) N.length (leafV vs N)) :: (tPool vs N) :: (tRow 3 1 (.slice Br n cr) n (ints rts)) :: (tRow 29 1 (.slice Bu n cu) n us) :: (tPool us Qs) :: []) w) (fun a w => n - (intOf (a.eval (.tmp 15))).toNat) ?_ ?_
    · exact ⟨k, e5, e6, e7, 0, e15, Nat.zero_le _, O⟩
    intro a301 w302 hI
    clear k e5 e6 e7
    obtain ⟨k, e5, e6, e7, h_⟩ := hI
    clear O e15
    obtain ⟨j, e15, hj, O⟩ := h_
    have mj := e15
    by_cases hltj : j < n
    · have hltjI : (j : Int) < (n : Int) := by omega
      obtain ⟨r, hr⟩ : ∃ r, rts[j]? = some r := ⟨_, List.getElem?_eq_getElem (by omega)⟩
      obtain ⟨q, hq⟩ : ∃ q, Qs[j]? = some q := ⟨_, List.getElem?_eq_getElem (by rw [← hPast.1]; omega)⟩
      have hTj := hPast.2 j r q hr hq
      obtain ⟨q0, Q⟩ := q
      have hTj : Tre N r 100 Q := hTj
      have hQl := hTj.len
      have hul : us.length = Qs.length := (OwnT.get O 5 rfl : (tPool us Qs).holds _).1
      obtain ⟨u, hu⟩ : ∃ u, us[j]? = some u := ⟨_, List.getElem?_eq_getElem (by rw [hul, ← hPast.1]; omega)⟩
      obtain ⟨Bq, cq, rfl, -⟩ := ps_row ((OwnT.get O 5 rfl : (tPool us Qs).holds _).2 j u (q0, Q) hu hq)
      obtain ⟨gr, rfl, d0⟩ := row1_at (OwnT.get O 3 rfl) (show (ints rts)[j]? = some (.int .i64 (r : Int)) by rw [ints, List.getElem?_map, hr]; rfl) hltj
      obtain ⟨gu, rfl, -⟩ := row1_at (OwnT.get O 4 rfl) hu hltj
      
      refine wp_seq ?_
      refine wp_seq ?_
      refine wp_region_lit ?_
      have hE := Env.refl a301 [94, 95, 96, 97]
      apply sq_det 94 hE k rfl (by rfl) (by rfl) rfl
      case h =>
        exact x_move rfl (hE.eval 15 (by rfl) e15)
      intro a303 hE e94 kp
      apply sq_det 95 hE k rfl (by rfl) (by rfl) rfl
      case h =>
        exact x_move rfl (hE.eval 6 (by rfl) e6)
      intro a304 hE e95 kp
      replace e94 := (kp 94 rfl).trans e94
      apply sq_det 96 hE k rfl (by rfl) (by rfl) rfl
      case h =>
        exact x_len Try.underlying51 rfl e95
      intro a305 hE e96 kp
      replace e94 := (kp 94 rfl).trans e94
      apply sq_det 97 hE k rfl (by rfl) (by rfl) rfl
      case h =>
        exact x_dec (x_lss rfl e94 e96) (decide_eq_true (by omega))
      intro a306 hE e97 kp
      refine wpList_nil ?_
      replace e5 := hE.eval 5 (by rfl) e5
      replace e6 := hE.eval 6 (by rfl) e6
      replace e7 := hE.eval 7 (by rfl) e7
      replace e15 := hE.eval 15 (by rfl) e15
      replace k := k.env hE
      clear hE
      refine then_n ?_
      refine cond_t e97 rfl ?_
      refine wp_skip ?_
      refine then_n ?_
      refine wp_seq ?_
      refine wp_block ?_
      refine wp_seq ?_
      refine wp_region_lit ?_
      have hE := Env.refl a306 [101, 102, 103, 104, 105, 106, 107, 100, 108, 109, 16, 17]
      apply sq_det 101 hE k rfl (by rfl) (by rfl) rfl
      case h =>
        exact x_move rfl (hE.eval 5 (by rfl) e5)
      intro a307 hE e101 kp
      apply sq_det 102 hE k rfl (by rfl) (by rfl) rfl
      case h =>
        simp [go_sem, ↓IntWalk.iteOmega, ev e101]
        with_reducible rfl
      intro a308 hE e102 kp
      apply sq_det 103 hE k rfl (by rfl) (by rfl) rfl
      case h =>
        exact x_move rfl (hE.eval 6 (by rfl) e6)
      intro a309 hE e103 kp
      replace e102 := (kp 102 rfl).trans e102
      apply sq_det 104 hE k rfl (by rfl) (by rfl) rfl
      case h =>
        exact x_move rfl (hE.eval 15 (by rfl) e15)
      intro a310 hE e104 kp
      replace e102 := (kp 102 rfl).trans e102
      replace e103 := (kp 103 rfl).trans e103
      apply sq_det 105 hE k rfl (by rfl) (by rfl) rfl
      case h =>
        simp [go_sem, ↓IntWalk.iteOmega, ev e103, ev e104]
        with_reducible rfl
      intro a311 hE e105 kp
      replace e102 := (kp 102 rfl).trans e102
      apply sq_det 106 hE k rfl (by rfl) (by rfl) rfl
      case h =>
        simp [go_sem, ↓IntWalk.iteOmega, ev e105, d0]
        with_reducible rfl
      intro a312 hE e106 kp
      replace e102 := (kp 102 rfl).trans e102
      apply sq_call 107 hE k rfl (by rfl) (by rfl) rfl
      case h =>
        simp [go_sem, ↓IntWalk.iteOmega, ev e102, ev e106]
        with_reducible exact ⟨rfl, rfl⟩
      case hc => exact lAll (R := _ :: _ :: _ :: []) _ O hTj (by omega) (by omega)
      clear O
      rintro e w314 ⟨Bl, cl, rfl, O⟩
      refine ⟨_, rfl, ?_⟩
      intro a313 hE e107 kp
      apply sq_det 100 hE k rfl (by rfl) (by rfl) rfl
      case h =>
        exact x_move rfl e107
      intro a315 hE e100 kp
      apply sq_det 108 hE k rfl (by rfl) (by rfl) rfl
      case h =>
        simp [go_sem, ↓IntWalk.iteOmega, ev e100]
        with_reducible rfl
      intro a316 hE e108 kp
      replace e100 := (kp 100 rfl).trans e100
      apply sq_det 109 hE k rfl (by rfl) (by rfl) rfl
      case h =>
        simp [go_sem, ↓IntWalk.iteOmega, ev e100]
        with_reducible rfl
      intro a317 hE e109 kp
      replace e108 := (kp 108 rfl).trans e108
      apply sq_det 16 hE k rfl (by rfl) (by rfl) rfl
      case h =>
        exact x_assign rfl e108
      intro a318 hE e16 kp
      replace e109 := (kp 109 rfl).trans e109
      apply sq_det 17 hE k rfl (by rfl) (by rfl) rfl
      case h =>
        exact x_assign rfl e109
      intro a319 hE e17 kp
      replace e16 := (kp 16 rfl).trans e16
      refine wpList_nil ?_
      replace e5 := hE.eval 5 (by rfl) e5
      replace e6 := hE.eval 6 (by rfl) e6
      replace e7 := hE.eval 7 (by rfl) e7
      replace e15 := hE.eval 15 (by rfl) e15
      replace k := k.env hE
      clear hE e97
      refine then_n ?_
      clear d0
      obtain ⟨_, e, d1⟩ := row1_at (OwnT.get O 5 rfl) hu hltj
      injection e with e; injection e with e; subst e
      obtain ⟨_, e, d0⟩ := row1_at (OwnT.get O 4 rfl) (show (ints rts)[j]? = some (.int .i64 (r : Int)) by rw [ints, List.getElem?_map, hr]; rfl) hltj
      injection e with e; injection e with e; subst e
      have hqq := (OwnT.get O 6 rfl : (tPool us Qs).holds _).2 j _ (q0, Q) hu hq
      
      refine wp_seq ?_
      refine wp_region_lit ?_
      have hE := Env.refl a319 [110, 111, 112, 113, 114, 115, 116, 117, 118, 119, 120, 121, 122, 123, 124, 125, 126, 127, 128, 129, 130]
      apply sq_det 110 hE k rfl (by rfl) (by rfl) rfl
      case h =>
        exact x_move rfl (hE.eval 17 (by rfl) e17)
      intro a320 hE e110 kp
      apply sq_det 111 hE k rfl (by rfl) (by rfl) rfl
      case h =>
        exact x_neq rfl e110 rfl
      intro a321 hE e111 kp
      apply sq_det 112 hE k rfl (by rfl) (by rfl) rfl
      case h =>
        exact x_move rfl e111
      intro a322 hE e112 kp
      apply sq_detg 113 hE k rfl (by rfl) (by rfl) rfl rfl e112
      case h =>
        exact x_move rfl (hE.eval 16 (by rfl) e16)
      intro a323 hE e113 kp
      replace e112 := (kp 112 rfl).trans e112
      apply sq_detg 114 hE k rfl (by rfl) (by rfl) rfl rfl e112
      case h =>
        exact x_move rfl (hE.eval 7 (by rfl) e7)
      intro a324 hE e114 kp
      replace e112 := (kp 112 rfl).trans e112
      replace e113 := (kp 113 rfl).trans e113
      apply sq_detg 115 hE k rfl (by rfl) (by rfl) rfl rfl e112
      case h =>
        exact x_move rfl (hE.eval 15 (by rfl) e15)
      intro a325 hE e115 kp
      replace e112 := (kp 112 rfl).trans e112
      replace e113 := (kp 113 rfl).trans e113
      replace e114 := (kp 114 rfl).trans e114
      apply sq_detg 116 hE k rfl (by rfl) (by rfl) rfl rfl e112
      case h =>
        simp [go_sem, ↓IntWalk.iteOmega, ev e114, ev e115]
        with_reducible rfl
      intro a326 hE e116 kp
      replace e112 := (kp 112 rfl).trans e112
      replace e113 := (kp 113 rfl).trans e113
      apply sq_detg 117 hE k rfl (by rfl) (by rfl) rfl rfl e112
      case h =>
        simp [go_sem, ↓IntWalk.iteOmega, ev e116, d1]
        with_reducible rfl
      intro a327 hE e117 kp
      replace e112 := (kp 112 rfl).trans e112
      replace e113 := (kp 113 rfl).trans e113
      apply sq_callg 118 hE k rfl (by rfl) (by rfl) rfl rfl e112
      case h =>
        simp [go_sem, ↓IntWalk.iteOmega, ev e113, ev e117]
        with_reducible exact ⟨rfl, rfl⟩
      case hc => exact pairs_same (OwnT.get O 3 rfl) hqq rfl rfl (by omega)
      rintro e w329 ⟨rfl, RE⟩
      replace O := OwnT.ext O RE
      refine ⟨_, rfl, ?_⟩
      intro a328 hE e118 kp
      replace e112 := (kp 112 rfl).trans e112
      apply sq_detg 119 hE k rfl (by rfl) (by rfl) rfl rfl e112
      case h =>
        exact x_not rfl e118
      intro a330 hE e119 kp
      replace e112 := (kp 112 rfl).trans e112
      apply sq_det 120 hE k rfl (by rfl) (by rfl) rfl
      case h =>
        exact x_pick_f rfl e112 e119
      intro a331 hE e120 kp
      apply sq_det 121 hE k rfl (by rfl) (by rfl) rfl
      case h =>
        exact x_move rfl e120
      intro a332 hE e121 kp
      apply sq_detg 122 hE k rfl (by rfl) (by rfl) rfl rfl e121
      case h =>
        exact x_move rfl (hE.eval 5 (by rfl) e5)
      intro a333 hE e122 kp
      replace e121 := (kp 121 rfl).trans e121
      apply sq_detg 123 hE k rfl (by rfl) (by rfl) rfl rfl e121
      case h =>
        simp [go_sem, ↓IntWalk.iteOmega, ev e122]
        with_reducible rfl
      intro a334 hE e123 kp
      replace e121 := (kp 121 rfl).trans e121
      apply sq_detg 124 hE k rfl (by rfl) (by rfl) rfl rfl e121
      case h =>
        exact x_move rfl (hE.eval 6 (by rfl) e6)
      intro a335 hE e124 kp
      replace e121 := (kp 121 rfl).trans e121
      replace e123 := (kp 123 rfl).trans e123
      apply sq_detg 125 hE k rfl (by rfl) (by rfl) rfl rfl e121
      case h =>
        exact x_move rfl (hE.eval 15 (by rfl) e15)
      intro a336 hE e125 kp
      replace e121 := (kp 121 rfl).trans e121
      replace e123 := (kp 123 rfl).trans e123
      replace e124 := (kp 124 rfl).trans e124
      apply sq_detg 126 hE k rfl (by rfl) (by rfl) rfl rfl e121
      case h =>
        simp [go_sem, ↓IntWalk.iteOmega, ev e124, ev e125]
        with_reducible rfl
      intro a337 hE e126 kp
      replace e121 := (kp 121 rfl).trans e121
      replace e123 := (kp 123 rfl).trans e123
      apply sq_detg 127 hE k rfl (by rfl) (by rfl) rfl rfl e121
      case h =>
        obtain ⟨_, e, d0⟩ := row1_at (OwnT.get O 4 rfl) (show (ints rts)[j]? = some (.int .i64 (r : Int)) by rw [ints, List.getElem?_map, hr]; rfl) hltj
        injection e with e; injection e with e; subst e
        simp [go_sem, ↓IntWalk.iteOmega, ev e126, d0]
        with_reducible rfl
      intro a338 hE e127 kp
      replace e121 := (kp 121 rfl).trans e121
      replace e123 := (kp 123 rfl).trans e123
      apply sq_callg 128 hE k rfl (by rfl) (by rfl) rfl rfl e121
      case h =>
        simp [go_sem, ↓IntWalk.iteOmega, ev e123, ev e127]
        with_reducible exact ⟨rfl, rfl⟩
      case hc => exact lCheck (R := _ :: _ :: _ :: _ :: []) _ O hTj (by omega) (by omega)
      clear O
      rintro e w340 ⟨rfl, O⟩
      refine ⟨_, rfl, ?_⟩
      intro a339 hE e128 kp
      replace e121 := (kp 121 rfl).trans e121
      apply sq_detg 129 hE k rfl (by rfl) (by rfl) rfl rfl e121
      case h =>
        exact x_neq rfl e128 rfl
      intro a341 hE e129 kp
      replace e121 := (kp 121 rfl).trans e121
      apply sq_det 130 hE k rfl (by rfl) (by rfl) rfl
      case h =>
        exact x_pick_f rfl e121 e129
      intro a342 hE e130 kp
      refine wpList_nil ?_
      replace e5 := hE.eval 5 (by rfl) e5
      replace e6 := hE.eval 6 (by rfl) e6
      replace e7 := hE.eval 7 (by rfl) e7
      replace e15 := hE.eval 15 (by rfl) e15
      replace k := k.env hE
      clear hE e16 e17
      refine then_n ?_
      refine cond_f e130 rfl ?_
      refine wp_skip ?_
      refine block_n ?_
      refine then_n ?_
      refine wp_region_lit ?_
      have hE := Env.refl a342 [98, 99, 15]
      apply sq_det 98 hE k rfl (by rfl) (by rfl) rfl
      case h =>
        exact x_move rfl e15
      intro a343 hE e98 kp
      replace e15 := (kp 15 rfl).trans e15
      apply sq_det 99 hE k rfl (by rfl) (by rfl) rfl
      case h =>
        exact x_add rfl e98 rfl (by omega)
      intro a344 hE e99 kp
      replace e15 := (kp 15 rfl).trans e15
      apply sq_det 15 hE k rfl (by rfl) (by rfl) rfl
      case h =>
        exact x_assign rfl e99
      intro a345 hE e15 kp
      refine wpList_nil ?_
      replace e5 := hE.eval 5 (by rfl) e5
      replace e6 := hE.eval 6 (by rfl) e6
      replace e7 := hE.eval 7 (by rfl) e7
      replace k := k.env hE
      clear hE e130
      refine then_n ?_
      replace O : OwnT _ _ ((tBlk sb 28 #[.slice B N.length cap, .int .i64 511]) :: (tRow 125 2 (.slice B N.length cap) N.length (leafV vs N)) :: (tPool vs N) :: (tRow 3 1 (.slice (some ⟨gr, 0, none⟩) n cr) n (ints rts)) :: (tRow 29 1 (.slice (some ⟨gu, 0, none⟩) n cu) n us) :: (tPool us Qs) :: []) w340 := OwnT.pickR (L := [_, _, _, _, _, _, _]) (R := []) O [0, 1, 2, 4, 5, 6] (by decide)
      refine ⟨⟨k, e5, e6, e7, j + 1, e15, by omega, O⟩, ?_⟩
      rw [e15, mj]; simp only [intOf]; omega
    · skip
      refine wp_seq ?_
      refine wp_seq ?_
      refine wp_region_lit ?_
      have hE := Env.refl a301 [94, 95, 96, 97]
      apply sq_det 94 hE k rfl (by rfl) (by rfl) rfl
      case h =>
        exact x_move rfl (hE.eval 15 (by rfl) e15)
      intro a346 hE e94 kp
      apply sq_det 95 hE k rfl (by rfl) (by rfl) rfl
      case h =>
        exact x_move rfl (hE.eval 6 (by rfl) e6)
      intro a347 hE e95 kp
      replace e94 := (kp 94 rfl).trans e94
      apply sq_det 96 hE k rfl (by rfl) (by rfl) rfl
      case h =>
        exact x_len Try.underlying51 rfl e95
      intro a348 hE e96 kp
      replace e94 := (kp 94 rfl).trans e94
      apply sq_det 97 hE k rfl (by rfl) (by rfl) rfl
      case h =>
        exact x_dec (x_lss rfl e94 e96) (decide_eq_false (by omega))
      intro a349 hE e97 kp
      refine wpList_nil ?_
      replace e5 := hE.eval 5 (by rfl) e5
      replace e6 := hE.eval 6 (by rfl) e6
      replace e7 := hE.eval 7 (by rfl) e7
      replace e15 := hE.eval 15 (by rfl) e15
      replace k := k.env hE
      clear hE
      refine then_n ?_
      refine cond_f e97 rfl ?_
      refine wp_exit ?_
      refine then_x ?_
      refine then_x ?_
      refine block_x ?_
      refine then_n ?_
      refine wp_seq ?_
      refine wp_region_lit ?_
      have hE := Env.refl a349 [4]
      apply sq_det 4 hE k rfl (by rfl) (by rfl) rfl
      case h =>
        exact x_assign rfl rfl
      intro a350 hE e4 kp
      refine wpList_nil ?_
      replace k := k.env hE
      clear hE e5 e6 e7 e15 e97
      refine then_n ?_
      refine wp_ret ?_
      refine ret_F1 rfl k e4 ?_
      exact ⟨rfl, O.below⟩
theorem treeShares_walk (w : World) (v0 v1 : Value) (h0 : Arg Try.prog w 51 v0) (h1 : Arg Try.prog w 59 v1) :
    Calls Try.prog 4 #[v0, v1] w fun e w' => e = .returned (.bool true) ∧ Below w.heap.size w w' := by
  have hc : Try.prog.cellsOf 3 = 1 := by kernel_rfl
  have hb : Try.prog.cellsOf 4 = 1 := by kernel_rfl
  obtain ⟨A1, n1, c1, xs1, rfl, a1, a2, a3, -, a4⟩ := arg_ints Try.underlying51 Try.underlying3 hc h0
  obtain ⟨A2, n2, c2, xs2, rfl, b1, b2, b3, b4⟩ := arg_bools Try.underlying59 Try.underlying4 hb h1
  exact treeShares_core xs1 xs2 w a3 b3 a4 b4
end Go.Proofs.Ytngehbhhpkkijaa
