/- trees' law: TreeOrder (printed by XTrOr.gen.py). -/
import Derived.Test.YtngehbhhpkkijaaKTreeOrder30
namespace Go.Proofs.Ytngehbhhpkkijaa
attribute [local simp] BigFrame.eval_const BigFrame.eval_global BigFrame.eval_func
set_option linter.unusedVariables false
set_option linter.unusedSimpArgs false
open Go.RowKit Go.Maps


theorem prod41 : ∀ a, a < 41 → 0 < a → ∀ d, d < 41 → 0 < d → a * d % 41 ≠ 0 := by decide +kernel
theorem inv41 : ∀ b, b < 41 → 0 < b → ∃ c, c < 41 ∧ b * c % 41 = 1 := by decide +kernel
theorem onto41 (b : Nat) (h1 : b < 41) (h2 : 0 < b) (y : Nat) (hy : y < 41) : ∃ i, i < 41 ∧ b * i % 41 = y := by
  obtain ⟨c, _, hc⟩ := inv41 b h1 h2
  refine ⟨c * y % 41, Nat.mod_lt _ (by decide), ?_⟩
  rw [Nat.mul_mod, Nat.mod_mod, ← Nat.mul_mod, ← Nat.mul_assoc, Nat.mul_mod, hc, Nat.one_mul, Nat.mod_mod, Nat.mod_eq_of_lt hy]
theorem apart41 {a s i j : Nat} (ha : 0 < a ∧ a < 41) (hij : i < j) (hj : j < 41) : (s + a * i) % 41 ≠ (s + a * j) % 41 := by
  intro h
  have h1 := prod41 a ha.2 ha.1 (j - i) (by omega) (by omega)
  apply h1
  rw [Nat.mul_sub]
  have h2 : a * i ≤ a * j := Nat.mul_le_mul_left a (by omega)
  omega
/-- What is put: key by key. -/
structure Or1 (s a i : Nat) (P : List Pr) : Prop where
  len : P.length = i
  mem : ∀ y ∈ P, y.2 = 2 * y.1 ∧ ∃ j, j < i ∧ y.1 = (s + a * j) % 41
theorem Or1.start (s a : Nat) : Or1 s a 0 [] := ⟨rfl, fun _ h => by cases h⟩
theorem Or1.step {s a i k : Nat} {P : List Pr} (h : Or1 s a i P) (ha : 0 < a ∧ a < 41) (hi : i < 41) (hk : (s + a * i) % 41 = k) : Or1 s a (i + 1) (insP (k, 2 * k) P) := by
  refine ⟨?_, fun y hy => ?_⟩
  · rw [len_ins (fun y hy e => ?_), h.len]
    obtain ⟨_, j, hj, e2⟩ := h.mem y hy
    exact apart41 (s := s) ha hj hi (by rw [← e2, e, ← hk])
  · rcases mem_ins.1 hy with rfl | ⟨hy, _⟩
    · exact ⟨rfl, i, by omega, hk.symm⟩
    · obtain ⟨e1, j, hj, e2⟩ := h.mem y hy
      exact ⟨e1, j, by omega, e2⟩
theorem Or1.le {s a i : Nat} {P : List Pr} (h : Or1 s a i P) : ∀ y ∈ P, y.1 ≤ 40 := fun y hy => by
  obtain ⟨_, j, _, e⟩ := h.mem y hy
  omega
/-- What is left, behind i drops. -/
def lft (b i : Nat) (P : List Pr) : List Pr := P.filter fun y => !((List.range i).any fun j => decide (b * j % 41 = y.1))
theorem lft_zero (b : Nat) (P : List Pr) : lft b 0 P = P := filter_all fun y _ => rfl
theorem lft_succ {b i : Nat} {P : List Pr} : lft b (i + 1) P = delP (b * i % 41) (lft b i P) := by
  unfold lft delP
  rw [List.filter_filter]
  refine List.filter_congr fun y _ => ?_
  rw [List.range_succ, List.any_append]
  simp only [List.any_cons, List.any_nil, Bool.or_false, Bool.not_or]
  rw [Bool.and_comm]
  congr 1
  rw [← decide_not, decide_eq_decide]
  omega
theorem lft_all {b : Nat} {P : List Pr} (hb : 0 < b ∧ b < 41) (hP : ∀ y ∈ P, y.1 ≤ 40) : lft b 41 P = [] := filter_none fun y hy => by
  have := hP y hy
  obtain ⟨i, h1, h2⟩ := onto41 b hb.2 hb.1 y.1 (by omega)
  rw [Bool.not_eq_false', List.any_eq_true]
  exact ⟨i, List.mem_range.2 h1, decide_eq_true h2⟩
theorem lft_look {b i x : Nat} {P : List Pr} (hb : 0 < b ∧ b < 41) (hi : i < 41) (hx : b * i % 41 = x) : (lookP x (lft b i P)).isSome = P.any fun y => decide (y.1 = x) := by
  rw [Bool.eq_iff_iff, look_some, List.any_eq_true]
  constructor
  · rintro ⟨y, h1, h2⟩
    exact ⟨y, (List.mem_filter.1 h1).1, decide_eq_true h2⟩
  · rintro ⟨y, h1, h2⟩
    have h2 := of_decide_eq_true h2
    refine ⟨y, List.mem_filter.2 ⟨h1, ?_⟩, h2⟩
    rw [Bool.not_eq_true', List.any_eq_false]
    intro j hj
    have hj := List.mem_range.1 hj
    have h3 := apart41 (s := 0) (i := j) (j := i) hb hj hi
    simp only [Nat.zero_add] at h3
    simp only [decide_eq_true_eq]
    omega
theorem cut_le {P : List Pr} {hi : Nat} (h : ∀ y ∈ P, y.1 ≤ hi) : cutP 0 hi P = P := filter_all fun y hy => by
  rw [decide_eq_true (Nat.zero_le _), decide_eq_true (h y hy)]; rfl
theorem any_take {P : List Pr} {j : Nat} {y : Pr} {p : Pr → Bool} (h : P[j]? = some y) : (P.take (j + 1)).any p = ((P.take j).any p || p y) := by
  rw [List.take_add_one, h, List.any_append]
  simp

theorem x_neB {w : World} {o : Oper} {ρ : Operand → Value} {u : TypeId} {x y : Operand} {a b c : Bool} (ho : o.op = .binOp .neq 4 x y u) (hx : ρ x = .bool a) (hy : ρ y = .bool b) (h : decide (a ≠ b) = c) : (execOp ρ o).run Try.prog w = .ok (.value (.bool c)) w := by
  subst h
  unfold execOp
  simp only [ho, hx, hy]
  cases a <;> cases b <;> kernel_rfl
set_option maxRecDepth 100000 in
set_option maxHeartbeats 4000000 in
theorem treeOrder_core (x0 x1 x2 x3 : Int) (W0 : World) : Calls Try.prog 5 #[.int .i64 x0, .int .i64 x1, .int .i64 x2, .int .i64 x3] W0 fun e w' => e = .returned (.bool true) ∧ Below W0.heap.size W0 w' := by
  have O := OwnT.start W0
  obtain ⟨kk0, hkk0⟩ : ∃ z, uN x2 % 40 = z := ⟨_, rfl⟩
  obtain ⟨kk, hkk⟩ : ∃ z, 1 + kk0 = z := ⟨_, rfl⟩
  have bkk : 0 < kk ∧ kk < 41 := by omega
  obtain ⟨az0, haz0⟩ : ∃ z, uN x1 % 40 = z := ⟨_, rfl⟩
  obtain ⟨az, haz⟩ : ∃ z, 1 + az0 = z := ⟨_, rfl⟩
  have baz : 0 < az ∧ az < 41 := by omega
  obtain ⟨bz0, hbz0⟩ : ∃ z, uN x3 % 40 = z := ⟨_, rfl⟩
  obtain ⟨bz, hbz⟩ : ∃ z, 1 + bz0 = z := ⟨_, rfl⟩
  have bbz : 0 < bz ∧ bz < 41 := by omega
  obtain ⟨s0, hs0⟩ : ∃ z, uN x0 % 41 = z := ⟨_, rfl⟩
  have bs0 : s0 < 41 := by omega
  refine calls_F Try.func5 rfl 205 rfl (by rfl) ?_
  intro a1 k hargs
  have e0 : a1.eval (.tmp 0) = .int .i64 x0 := hargs 0 _ rfl
  have e1 : a1.eval (.tmp 1) = .int .i64 x1 := hargs 1 _ rfl
  have e2 : a1.eval (.tmp 2) = .int .i64 x2 := hargs 2 _ rfl
  have e3 : a1.eval (.tmp 3) = .int .i64 x3 := hargs 3 _ rfl
  clear hargs
  refine wp_seq ?_
  refine wp_region_lit ?_
  have hE := Env.refl a1 [8]
  apply sq_det 8 hE k rfl (by rfl) (by rfl) rfl
  case h =>
    exact x_assign rfl rfl
  intro a2 hE e8 kp
  refine wpList_nil ?_
  replace e0 := hE.eval 0 (by rfl) e0
  replace e1 := hE.eval 1 (by rfl) e1
  replace e2 := hE.eval 2 (by rfl) e2
  replace e3 := hE.eval 3 (by rfl) e3
  replace k := k.env hE
  clear hE e8
  refine then_n ?_
  refine wp_seq ?_
  refine wp_seq ?_
  refine wp_region_lit ?_
  have hE := Env.refl a2 [30, 31]
  apply sq_call 30 hE k rfl (by rfl) (by rfl) rfl
  case h =>
    simp [go_sem, ↓IntWalk.iteOmega]
    with_reducible exact ⟨rfl, rfl⟩
  case hc => exact awake08 _
  rintro e w4 ⟨rfl, R⟩
  replace O := OwnT.ext O R
  refine ⟨_, rfl, ?_⟩
  intro a3 hE e30 kp
  apply sq_det 31 hE k rfl (by rfl) (by rfl) rfl
  case h =>
    exact x_not rfl e30
  intro a5 hE e31 kp
  refine wpList_nil ?_
  replace e0 := hE.eval 0 (by rfl) e0
  replace e1 := hE.eval 1 (by rfl) e1
  replace e2 := hE.eval 2 (by rfl) e2
  replace e3 := hE.eval 3 (by rfl) e3
  replace k := k.env hE
  clear hE
  refine then_n ?_
  refine cond_f e31 rfl ?_
  refine wp_skip ?_
  refine then_n ?_
  refine wp_seq ?_
  refine wp_region_lit ?_
  have hE := Env.refl a5 [32, 33, 9]
  apply sq_det 32 hE k rfl (by rfl) (by rfl) rfl
  case h =>
    simp [go_sem, ↓IntWalk.iteOmega]
    with_reducible rfl
  intro a6 hE e32 kp
  refine sq_new O (cs := #[.slice none 0 0, .int .i64 511]) (t := 28) 33 hE k rfl (by rfl) (by rfl) rfl (by simp [go_sem, ↓IntWalk.iteOmega, ev e32]) ?_
  clear O
  intro sb a7 w8 O hE e33 kp
  apply sq_det 9 hE k rfl (by rfl) (by rfl) rfl
  case h =>
    exact x_assign rfl e33
  intro a9 hE e9 kp
  refine wpList_nil ?_
  replace e0 := hE.eval 0 (by rfl) e0
  replace e1 := hE.eval 1 (by rfl) e1
  replace e2 := hE.eval 2 (by rfl) e2
  replace e3 := hE.eval 3 (by rfl) e3
  replace k := k.env hE
  clear hE e31
  refine then_n ?_
  refine wp_seq ?_
  refine wp_region_lit ?_
  have hE := Env.refl a9 [34, 35, 36, 37, 38, 10]
  apply sq_det 34 hE k rfl (by rfl) (by rfl) rfl
  case h =>
    exact x_move rfl (hE.eval 2 (by rfl) e2)
  intro a10 hE e34 kp
  apply sq_det 35 hE k rfl (by rfl) (by rfl) rfl
  case h =>
    exact x_conv rfl e34 (conv_uint x2 _)
  intro a11 hE e35 kp
  apply sq_det 36 hE k rfl (by rfl) (by rfl) rfl
  case h =>
    exact x_remU (m := uN x2) (j := 40) rfl e35 rfl rfl (by decide)
  intro a12 hE e36 kp
  apply sq_det 37 hE k rfl (by rfl) (by rfl) rfl
  case h =>
    exact x_conv rfl e36 (conv_int _ _ (by omega))
  intro a13 hE e37 kp
  replace e37 := e37.trans (int_eq (show ((uN x2 % 40 : Nat) : Int) = (kk0 : Int) by rw [hkk0]))
  apply sq_det 38 hE k rfl (by rfl) (by rfl) rfl
  case h =>
    exact x_add rfl rfl e37 (by omega)
  intro a14 hE e38 kp
  replace e38 := e38.trans (int_eq (show 1 + (kk0 : Int) = (kk : Int) by omega))
  apply sq_det 10 hE k rfl (by rfl) (by rfl) rfl
  case h =>
    exact x_assign rfl e38
  intro a15 hE e10 kp
  refine wpList_nil ?_
  replace e0 := hE.eval 0 (by rfl) e0
  replace e1 := hE.eval 1 (by rfl) e1
  replace e3 := hE.eval 3 (by rfl) e3
  replace e9 := hE.eval 9 (by rfl) e9
  replace k := k.env hE
  clear hE e2
  refine then_n ?_
  refine wp_seq ?_
  refine wp_region_lit ?_
  have hE := Env.refl a15 [11]
  apply sq_det 11 hE k rfl (by rfl) (by rfl) rfl
  case h =>
    exact x_assign rfl rfl
  intro a16 hE e11 kp
  refine wpList_nil ?_
  replace e0 := hE.eval 0 (by rfl) e0
  replace e1 := hE.eval 1 (by rfl) e1
  replace e3 := hE.eval 3 (by rfl) e3
  replace e9 := hE.eval 9 (by rfl) e9
  replace e10 := hE.eval 10 (by rfl) e10
  replace k := k.env hE
  clear hE
  refine then_n ?_
  refine wp_seq ?_
  refine wp_region_lit ?_
  have hE := Env.refl a16 [39, 40, 41, 42, 43, 12]
  apply sq_det 39 hE k rfl (by rfl) (by rfl) rfl
  case h =>
    exact x_move rfl (hE.eval 1 (by rfl) e1)
  intro a17 hE e39 kp
  apply sq_det 40 hE k rfl (by rfl) (by rfl) rfl
  case h =>
    exact x_conv rfl e39 (conv_uint x1 _)
  intro a18 hE e40 kp
  apply sq_det 41 hE k rfl (by rfl) (by rfl) rfl
  case h =>
    exact x_remU (m := uN x1) (j := 40) rfl e40 rfl rfl (by decide)
  intro a19 hE e41 kp
  apply sq_det 42 hE k rfl (by rfl) (by rfl) rfl
  case h =>
    exact x_conv rfl e41 (conv_int _ _ (by omega))
  intro a20 hE e42 kp
  replace e42 := e42.trans (int_eq (show ((uN x1 % 40 : Nat) : Int) = (az0 : Int) by rw [haz0]))
  apply sq_det 43 hE k rfl (by rfl) (by rfl) rfl
  case h =>
    exact x_add rfl rfl e42 (by omega)
  intro a21 hE e43 kp
  replace e43 := e43.trans (int_eq (show 1 + (az0 : Int) = (az : Int) by omega))
  apply sq_det 12 hE k rfl (by rfl) (by rfl) rfl
  case h =>
    exact x_assign rfl e43
  intro a22 hE e12 kp
  refine wpList_nil ?_
  replace e0 := hE.eval 0 (by rfl) e0
  replace e3 := hE.eval 3 (by rfl) e3
  replace e9 := hE.eval 9 (by rfl) e9
  replace e10 := hE.eval 10 (by rfl) e10
  replace e11 := hE.eval 11 (by rfl) e11
  replace k := k.env hE
  clear hE e1
  refine then_n ?_
  refine wp_seq ?_
  refine wp_region_lit ?_
  have hE := Env.refl a22 [44, 45, 46, 47, 48, 13]
  apply sq_det 44 hE k rfl (by rfl) (by rfl) rfl
  case h =>
    exact x_move rfl (hE.eval 3 (by rfl) e3)
  intro a23 hE e44 kp
  apply sq_det 45 hE k rfl (by rfl) (by rfl) rfl
  case h =>
    exact x_conv rfl e44 (conv_uint x3 _)
  intro a24 hE e45 kp
  apply sq_det 46 hE k rfl (by rfl) (by rfl) rfl
  case h =>
    exact x_remU (m := uN x3) (j := 40) rfl e45 rfl rfl (by decide)
  intro a25 hE e46 kp
  apply sq_det 47 hE k rfl (by rfl) (by rfl) rfl
  case h =>
    exact x_conv rfl e46 (conv_int _ _ (by omega))
  intro a26 hE e47 kp
  replace e47 := e47.trans (int_eq (show ((uN x3 % 40 : Nat) : Int) = (bz0 : Int) by rw [hbz0]))
  apply sq_det 48 hE k rfl (by rfl) (by rfl) rfl
  case h =>
    exact x_add rfl rfl e47 (by omega)
  intro a27 hE e48 kp
  replace e48 := e48.trans (int_eq (show 1 + (bz0 : Int) = (bz : Int) by omega))
  apply sq_det 13 hE k rfl (by rfl) (by rfl) rfl
  case h =>
    exact x_assign rfl e48
  intro a28 hE e13 kp
  refine wpList_nil ?_
  replace e0 := hE.eval 0 (by rfl) e0
  replace e9 := hE.eval 9 (by rfl) e9
  replace e10 := hE.eval 10 (by rfl) e10
  replace e11 := hE.eval 11 (by rfl) e11
  replace e12 := hE.eval 12 (by rfl) e12
  replace k := k.env hE
  clear hE e3
  refine then_n ?_
  replace O := sh_nil O
  refine wp_seq ?_
  refine wp_seq ?_
  refine wp_region_lit ?_
  have hE := Env.refl a28 [14]
  apply sq_det 14 hE k rfl (by rfl) (by rfl) rfl
  case h =>
    exact x_assign rfl rfl
  intro a29 hE e14 kp
  refine wpList_nil ?_
  replace e0 := hE.eval 0 (by rfl) e0
  replace e9 := hE.eval 9 (by rfl) e9
  replace e10 := hE.eval 10 (by rfl) e10
  replace e11 := hE.eval 11 (by rfl) e11
  replace e12 := hE.eval 12 (by rfl) e12
  replace e13 := hE.eval 13 (by rfl) e13
  replace k := k.env hE
  clear hE
  refine then_n ?_
  refine wp_block ?_
  refine wp_loop (fun a w => Fr 205 a ∧ a.eval (.tmp 0) = .int .i64 x0 ∧ a.eval (.tmp 9) = .pointer (some ⟨sb, 0, none⟩) ∧ a.eval (.tmp 10) = .int .i64 ↑kk ∧ a.eval (.tmp 12) = .int .i64 ↑az ∧ a.eval (.tmp 13) = .int .i64 ↑bz ∧ ∃ (i rt : Nat) (P : List Pr) (N : List Nd) (B : Option Addr) (cap : Nat) (vs : List Value), a.eval (.tmp 11) = .int .i64 ↑rt ∧ a.eval (.tmp 14) = .int .i64 ↑i ∧ i ≤ kk ∧ N.length ≤ 5 * i ∧ Tre N rt (8 + i) P ∧ Or1 s0 az i P ∧ OwnT W0.heap.size W0 ((tBlk sb 28 #[.slice B N.length cap, .int .i64 511]) :: (tRow 125 2 (.slice B N.length cap) N.length (leafV vs N)) :: (tPool vs N) :: []) w) (fun a w => kk - (intOf (a.eval (.tmp 14))).toNat) ?_ ?_
  · exact ⟨k, e0, e9, e10, e12, e13, 0, 0, [], [], none, 0, [], e11, e14, Nat.zero_le _, Nat.zero_le _, (Tre.zero []).le (by omega), Or1.start _ _, O⟩
  intro a30 w31 hI
  clear k e0 e9 e10 e12 e13
  obtain ⟨k, e0, e9, e10, e12, e13, h_⟩ := hI
  clear O e11 e14
  obtain ⟨i, rt, P, N, B, cap, vs, e11, e14, hi, hN, hT, hOr, O⟩ := h_
  have mi := e14
  by_cases hlt : i < kk
  · have hltI : (i : Int) < (kk : Int) := by omega
    obtain ⟨key, hkey⟩ : ∃ z, (s0 + az * i) % 41 = z := ⟨_, rfl⟩
    have hk41 : key < 41 := by omega
    have hai : az * i ≤ 40 * 40 := Nat.mul_le_mul (by omega) (by omega)
    
    refine wp_seq ?_
    refine wp_seq ?_
    refine wp_region_lit ?_
    have hE := Env.refl a30 [49, 50, 51]
    apply sq_det 49 hE k rfl (by rfl) (by rfl) rfl
    case h =>
      exact x_move rfl (hE.eval 14 (by rfl) e14)
    intro a32 hE e49 kp
    apply sq_det 50 hE k rfl (by rfl) (by rfl) rfl
    case h =>
      exact x_move rfl (hE.eval 10 (by rfl) e10)
    intro a33 hE e50 kp
    replace e49 := (kp 49 rfl).trans e49
    apply sq_det 51 hE k rfl (by rfl) (by rfl) rfl
    case h =>
      exact x_dec (x_lss rfl e49 e50) (decide_eq_true (by omega))
    intro a34 hE e51 kp
    refine wpList_nil ?_
    replace e0 := hE.eval 0 (by rfl) e0
    replace e9 := hE.eval 9 (by rfl) e9
    replace e10 := hE.eval 10 (by rfl) e10
    replace e11 := hE.eval 11 (by rfl) e11
    replace e12 := hE.eval 12 (by rfl) e12
    replace e13 := hE.eval 13 (by rfl) e13
    replace e14 := hE.eval 14 (by rfl) e14
    replace k := k.env hE
    clear hE
    refine then_n ?_
    refine cond_t e51 rfl ?_
    refine wp_skip ?_
    refine then_n ?_
    refine wp_seq ?_
    refine wp_block ?_
    refine wp_seq ?_
    refine wp_region_lit ?_
    have hE := Env.refl a34 [54, 55, 56, 57, 58, 59, 60, 61, 62, 63, 15]
    apply sq_det 54 hE k rfl (by rfl) (by rfl) rfl
    case h =>
      exact x_move rfl (hE.eval 0 (by rfl) e0)
    intro a35 hE e54 kp
    apply sq_det 55 hE k rfl (by rfl) (by rfl) rfl
    case h =>
      exact x_conv rfl e54 (conv_uint x0 _)
    intro a36 hE e55 kp
    apply sq_det 56 hE k rfl (by rfl) (by rfl) rfl
    case h =>
      exact x_remU (m := uN x0) (j := 41) rfl e55 rfl rfl (by decide)
    intro a37 hE e56 kp
    apply sq_det 57 hE k rfl (by rfl) (by rfl) rfl
    case h =>
      exact x_conv rfl e56 (conv_int _ _ (by omega))
    intro a38 hE e57 kp
    replace e57 := e57.trans (int_eq (show ((uN x0 % 41 : Nat) : Int) = (s0 : Int) by rw [hs0]))
    apply sq_det 58 hE k rfl (by rfl) (by rfl) rfl
    case h =>
      exact x_move rfl (hE.eval 12 (by rfl) e12)
    intro a39 hE e58 kp
    replace e57 := (kp 57 rfl).trans e57
    apply sq_det 59 hE k rfl (by rfl) (by rfl) rfl
    case h =>
      exact x_move rfl (hE.eval 14 (by rfl) e14)
    intro a40 hE e59 kp
    replace e57 := (kp 57 rfl).trans e57
    replace e58 := (kp 58 rfl).trans e58
    apply sq_det 60 hE k rfl (by rfl) (by rfl) rfl
    case h =>
      exact x_val (v := .int .i64 ((az * i : Nat) : Int)) (x_mul rfl e58 e59 (by rw [← Int.natCast_mul]; omega)) (int_eq (by rw [Int.natCast_mul]))
    intro a41 hE e60 kp
    replace e57 := (kp 57 rfl).trans e57
    apply sq_det 61 hE k rfl (by rfl) (by rfl) rfl
    case h =>
      exact x_val (v := .int .i64 ((s0 + az * i : Nat) : Int)) (x_add rfl e57 e60 (by omega)) (int_eq (by omega))
    intro a42 hE e61 kp
    apply sq_det 62 hE k rfl (by rfl) (by rfl) rfl
    case h =>
      exact x_remN (m := (s0 + az * i)) (j := 41) rfl e61 rfl rfl (by decide)
    intro a43 hE e62 kp
    replace e62 := e62.trans (int_eq (show (((s0 + az * i) % 41 : Nat) : Int) = (key : Int) by rw [hkey]))
    apply sq_det 63 hE k rfl (by rfl) (by rfl) rfl
    case h =>
      exact x_conv rfl e62 (conv_u64 key _ (by omega))
    intro a44 hE e63 kp
    apply sq_det 15 hE k rfl (by rfl) (by rfl) rfl
    case h =>
      exact x_assign rfl e63
    intro a45 hE e15 kp
    refine wpList_nil ?_
    replace e0 := hE.eval 0 (by rfl) e0
    replace e9 := hE.eval 9 (by rfl) e9
    replace e10 := hE.eval 10 (by rfl) e10
    replace e11 := hE.eval 11 (by rfl) e11
    replace e12 := hE.eval 12 (by rfl) e12
    replace e13 := hE.eval 13 (by rfl) e13
    replace e14 := hE.eval 14 (by rfl) e14
    replace k := k.env hE
    clear hE e51
    refine then_n ?_
    refine wp_seq ?_
    refine wp_region_lit ?_
    have hE := Env.refl a45 [65, 66, 67, 68, 69, 70, 71, 64, 72, 73, 16, 17]
    apply sq_det 65 hE k rfl (by rfl) (by rfl) rfl
    case h =>
      exact x_move rfl (hE.eval 9 (by rfl) e9)
    intro a46 hE e65 kp
    apply sq_det 66 hE k rfl (by rfl) (by rfl) rfl
    case h =>
      simp [go_sem, ↓IntWalk.iteOmega, ev e65]
      with_reducible rfl
    intro a47 hE e66 kp
    apply sq_det 67 hE k rfl (by rfl) (by rfl) rfl
    case h =>
      exact x_move rfl (hE.eval 11 (by rfl) e11)
    intro a48 hE e67 kp
    replace e66 := (kp 66 rfl).trans e66
    apply sq_det 68 hE k rfl (by rfl) (by rfl) rfl
    case h =>
      exact x_move rfl (hE.eval 15 (by rfl) e15)
    intro a49 hE e68 kp
    replace e66 := (kp 66 rfl).trans e66
    replace e67 := (kp 67 rfl).trans e67
    apply sq_det 69 hE k rfl (by rfl) (by rfl) rfl
    case h =>
      exact x_move rfl (hE.eval 15 (by rfl) e15)
    intro a50 hE e69 kp
    replace e66 := (kp 66 rfl).trans e66
    replace e67 := (kp 67 rfl).trans e67
    replace e68 := (kp 68 rfl).trans e68
    apply sq_det 70 hE k rfl (by rfl) (by rfl) rfl
    case h =>
      exact x_mulU (m := 2) (n := key) rfl rfl e69 (by omega)
    intro a51 hE e70 kp
    replace e66 := (kp 66 rfl).trans e66
    replace e67 := (kp 67 rfl).trans e67
    replace e68 := (kp 68 rfl).trans e68
    apply sq_call 71 hE k rfl (by rfl) (by rfl) rfl
    case h =>
      simp [go_sem, ↓IntWalk.iteOmega, ev e66, ev e67, ev e68, ev e70]
      with_reducible exact ⟨rfl, rfl⟩
    case hc => exact lPut (ky := key) (vl := 2 * key) _ O hT.norm (by split <;> omega) (by omega) (by omega) (by omega)
    clear O
    rintro e w53 ⟨N2, r2, er, B2, cap2, vs2, rfl, O, hPL⟩
    refine ⟨_, rfl, ?_⟩
    intro a52 hE e71 kp
    apply sq_det 64 hE k rfl (by rfl) (by rfl) rfl
    case h =>
      exact x_move rfl e71
    intro a54 hE e64 kp
    apply sq_det 72 hE k rfl (by rfl) (by rfl) rfl
    case h =>
      simp [go_sem, ↓IntWalk.iteOmega, ev e64]
      with_reducible rfl
    intro a55 hE e72 kp
    replace e64 := (kp 64 rfl).trans e64
    apply sq_det 73 hE k rfl (by rfl) (by rfl) rfl
    case h =>
      simp [go_sem, ↓IntWalk.iteOmega, ev e64]
      with_reducible rfl
    intro a56 hE e73 kp
    replace e72 := (kp 72 rfl).trans e72
    apply sq_det 16 hE k rfl (by rfl) (by rfl) rfl
    case h =>
      exact x_assign rfl e72
    intro a57 hE e16 kp
    replace e73 := (kp 73 rfl).trans e73
    apply sq_det 17 hE k rfl (by rfl) (by rfl) rfl
    case h =>
      exact x_assign rfl e73
    intro a58 hE e17 kp
    replace e16 := (kp 16 rfl).trans e16
    refine wpList_nil ?_
    replace e0 := hE.eval 0 (by rfl) e0
    replace e9 := hE.eval 9 (by rfl) e9
    replace e10 := hE.eval 10 (by rfl) e10
    replace e12 := hE.eval 12 (by rfl) e12
    replace e13 := hE.eval 13 (by rfl) e13
    replace e14 := hE.eval 14 (by rfl) e14
    replace k := k.env hE
    clear hE e11 e15
    refine then_n ?_
    obtain ⟨⟨M, rfl, hM⟩, hPL⟩ := hPL
    obtain ⟨rfl, r, rfl, hr1, hr2, hT2⟩ := hPL.resolve_left (fun h => h.2.2 (by omega))
    
    refine wp_seq ?_
    refine wp_seq ?_
    refine wp_region_lit ?_
    have hE := Env.refl a58 [74, 75]
    apply sq_det 74 hE k rfl (by rfl) (by rfl) rfl
    case h =>
      exact x_move rfl (hE.eval 17 (by rfl) e17)
    intro a59 hE e74 kp
    apply sq_det 75 hE k rfl (by rfl) (by rfl) rfl
    case h =>
      exact x_neq rfl e74 rfl
    intro a60 hE e75 kp
    refine wpList_nil ?_
    replace e0 := hE.eval 0 (by rfl) e0
    replace e9 := hE.eval 9 (by rfl) e9
    replace e10 := hE.eval 10 (by rfl) e10
    replace e12 := hE.eval 12 (by rfl) e12
    replace e13 := hE.eval 13 (by rfl) e13
    replace e14 := hE.eval 14 (by rfl) e14
    replace e16 := hE.eval 16 (by rfl) e16
    replace k := k.env hE
    clear hE e17
    refine then_n ?_
    refine cond_f e75 rfl ?_
    refine wp_skip ?_
    refine then_n ?_
    refine wp_region_lit ?_
    have hE := Env.refl a60 [76, 11]
    apply sq_det 76 hE k rfl (by rfl) (by rfl) rfl
    case h =>
      exact x_move rfl (hE.eval 16 (by rfl) e16)
    intro a61 hE e76 kp
    apply sq_det 11 hE k rfl (by rfl) (by rfl) rfl
    case h =>
      exact x_assign rfl e76
    intro a62 hE e11 kp
    refine wpList_nil ?_
    replace e0 := hE.eval 0 (by rfl) e0
    replace e9 := hE.eval 9 (by rfl) e9
    replace e10 := hE.eval 10 (by rfl) e10
    replace e12 := hE.eval 12 (by rfl) e12
    replace e13 := hE.eval 13 (by rfl) e13
    replace e14 := hE.eval 14 (by rfl) e14
    replace k := k.env hE
    clear hE e16 e75
    refine block_n ?_
    refine then_n ?_
    refine wp_region_lit ?_
    have hE := Env.refl a62 [52, 53, 14]
    apply sq_det 52 hE k rfl (by rfl) (by rfl) rfl
    case h =>
      exact x_move rfl e14
    intro a63 hE e52 kp
    replace e14 := (kp 14 rfl).trans e14
    apply sq_det 53 hE k rfl (by rfl) (by rfl) rfl
    case h =>
      exact x_add rfl e52 rfl (by omega)
    intro a64 hE e53 kp
    replace e14 := (kp 14 rfl).trans e14
    apply sq_det 14 hE k rfl (by rfl) (by rfl) rfl
    case h =>
      exact x_assign rfl e53
    intro a65 hE e14 kp
    refine wpList_nil ?_
    replace e0 := hE.eval 0 (by rfl) e0
    replace e9 := hE.eval 9 (by rfl) e9
    replace e10 := hE.eval 10 (by rfl) e10
    replace e11 := hE.eval 11 (by rfl) e11
    replace e12 := hE.eval 12 (by rfl) e12
    replace e13 := hE.eval 13 (by rfl) e13
    replace k := k.env hE
    clear hE
    refine then_n ?_
    refine ⟨⟨k, e0, e9, e10, e12, e13, i + 1, r, insP (key, 2 * key) P, N ++ M, B2, cap2, vs2, e11, e14, by omega, by rw [List.length_append]; omega, (hT2.next (by omega)).le (by omega), hOr.step baz (by omega) hkey, O⟩, ?_⟩
    rw [e14, mi]; simp only [intOf]; omega
  · skip
    obtain rfl : kk = i := by omega
    clear mi
    have hPl := hOr.len
    have hP40 := hOr.le
    have hu := hT.up
    refine wp_seq ?_
    refine wp_seq ?_
    refine wp_region_lit ?_
    have hE := Env.refl a30 [49, 50, 51]
    apply sq_det 49 hE k rfl (by rfl) (by rfl) rfl
    case h =>
      exact x_move rfl (hE.eval 14 (by rfl) e14)
    intro a66 hE e49 kp
    apply sq_det 50 hE k rfl (by rfl) (by rfl) rfl
    case h =>
      exact x_move rfl (hE.eval 10 (by rfl) e10)
    intro a67 hE e50 kp
    replace e49 := (kp 49 rfl).trans e49
    apply sq_det 51 hE k rfl (by rfl) (by rfl) rfl
    case h =>
      exact x_dec (x_lss rfl e49 e50) (decide_eq_false (by omega))
    intro a68 hE e51 kp
    refine wpList_nil ?_
    replace e0 := hE.eval 0 (by rfl) e0
    replace e9 := hE.eval 9 (by rfl) e9
    replace e10 := hE.eval 10 (by rfl) e10
    replace e11 := hE.eval 11 (by rfl) e11
    replace e12 := hE.eval 12 (by rfl) e12
    replace e13 := hE.eval 13 (by rfl) e13
    replace e14 := hE.eval 14 (by rfl) e14
    replace k := k.env hE
    clear hE
    refine then_n ?_
    refine cond_f e51 rfl ?_
    refine wp_exit ?_
    refine then_x ?_
    refine then_x ?_
    refine block_x ?_
    refine then_n ?_
    refine wp_seq ?_
    refine wp_region_lit ?_
    have hE := Env.refl a68 [78, 79, 80, 81, 77, 82, 83, 18, 19]
    apply sq_det 78 hE k rfl (by rfl) (by rfl) rfl
    case h =>
      exact x_move rfl (hE.eval 9 (by rfl) e9)
    intro a69 hE e78 kp
    apply sq_det 79 hE k rfl (by rfl) (by rfl) rfl
    case h =>
      simp [go_sem, ↓IntWalk.iteOmega, ev e78]
      with_reducible rfl
    intro a70 hE e79 kp
    apply sq_det 80 hE k rfl (by rfl) (by rfl) rfl
    case h =>
      exact x_move rfl (hE.eval 11 (by rfl) e11)
    intro a71 hE e80 kp
    replace e79 := (kp 79 rfl).trans e79
    apply sq_call 81 hE k rfl (by rfl) (by rfl) rfl
    case h =>
      simp [go_sem, ↓IntWalk.iteOmega, ev e79, ev e80]
      with_reducible exact ⟨rfl, rfl⟩
    case hc => exact lRange_is 0 100 (cut_le fun y hy => Nat.le_trans (hP40 y hy) (by decide)) _ O hT (by omega) (by omega)
    clear O
    rintro e w73 ⟨Bl, cl, rfl, O⟩
    refine ⟨_, rfl, ?_⟩
    intro a72 hE e81 kp
    apply sq_det 77 hE k rfl (by rfl) (by rfl) rfl
    case h =>
      exact x_move rfl e81
    intro a74 hE e77 kp
    apply sq_det 82 hE k rfl (by rfl) (by rfl) rfl
    case h =>
      simp [go_sem, ↓IntWalk.iteOmega, ev e77]
      with_reducible rfl
    intro a75 hE e82 kp
    replace e77 := (kp 77 rfl).trans e77
    apply sq_det 83 hE k rfl (by rfl) (by rfl) rfl
    case h =>
      simp [go_sem, ↓IntWalk.iteOmega, ev e77]
      with_reducible rfl
    intro a76 hE e83 kp
    replace e82 := (kp 82 rfl).trans e82
    apply sq_det 18 hE k rfl (by rfl) (by rfl) rfl
    case h =>
      exact x_assign rfl e82
    intro a77 hE e18 kp
    replace e83 := (kp 83 rfl).trans e83
    apply sq_det 19 hE k rfl (by rfl) (by rfl) rfl
    case h =>
      exact x_assign rfl e83
    intro a78 hE e19 kp
    replace e18 := (kp 18 rfl).trans e18
    refine wpList_nil ?_
    replace e9 := hE.eval 9 (by rfl) e9
    replace e10 := hE.eval 10 (by rfl) e10
    replace e11 := hE.eval 11 (by rfl) e11
    replace e13 := hE.eval 13 (by rfl) e13
    replace k := k.env hE
    clear hE e0 e12 e14 e51
    refine then_n ?_
    refine wp_seq ?_
    refine wp_seq ?_
    refine wp_region_lit ?_
    have hE := Env.refl a78 [84, 85, 86, 87, 88, 89, 90, 91]
    apply sq_det 84 hE k rfl (by rfl) (by rfl) rfl
    case h =>
      exact x_move rfl (hE.eval 19 (by rfl) e19)
    intro a79 hE e84 kp
    apply sq_det 85 hE k rfl (by rfl) (by rfl) rfl
    case h =>
      exact x_neq rfl e84 rfl
    intro a80 hE e85 kp
    apply sq_det 86 hE k rfl (by rfl) (by rfl) rfl
    case h =>
      exact x_move rfl e85
    intro a81 hE e86 kp
    apply sq_detg 87 hE k rfl (by rfl) (by rfl) rfl rfl e86
    case h =>
      exact x_move rfl (hE.eval 18 (by rfl) e18)
    intro a82 hE e87 kp
    replace e86 := (kp 86 rfl).trans e86
    apply sq_detg 88 hE k rfl (by rfl) (by rfl) rfl rfl e86
    case h =>
      exact x_len Try.underlying29 rfl e87
    intro a83 hE e88 kp
    replace e86 := (kp 86 rfl).trans e86
    apply sq_detg 89 hE k rfl (by rfl) (by rfl) rfl rfl e86
    case h =>
      exact x_move rfl (hE.eval 10 (by rfl) e10)
    intro a84 hE e89 kp
    replace e86 := (kp 86 rfl).trans e86
    replace e88 := (kp 88 rfl).trans e88
    apply sq_detg 90 hE k rfl (by rfl) (by rfl) rfl rfl e86
    case h =>
      exact x_dec (x_neq rfl e88 e89) (decide_eq_false (by omega))
    intro a85 hE e90 kp
    replace e86 := (kp 86 rfl).trans e86
    apply sq_det 91 hE k rfl (by rfl) (by rfl) rfl
    case h =>
      exact x_pick_f rfl e86 e90
    intro a86 hE e91 kp
    refine wpList_nil ?_
    replace e9 := hE.eval 9 (by rfl) e9
    replace e10 := hE.eval 10 (by rfl) e10
    replace e11 := hE.eval 11 (by rfl) e11
    replace e13 := hE.eval 13 (by rfl) e13
    replace e18 := hE.eval 18 (by rfl) e18
    replace k := k.env hE
    clear hE e19
    refine then_n ?_
    refine cond_f e91 rfl ?_
    refine wp_skip ?_
    refine then_n ?_
    refine wp_seq ?_
    refine wp_seq ?_
    refine wp_region_lit ?_
    have hE := Env.refl a86 [20]
    apply sq_det 20 hE k rfl (by rfl) (by rfl) rfl
    case h =>
      exact x_assign rfl rfl
    intro a87 hE e20 kp
    refine wpList_nil ?_
    replace e9 := hE.eval 9 (by rfl) e9
    replace e10 := hE.eval 10 (by rfl) e10
    replace e11 := hE.eval 11 (by rfl) e11
    replace e13 := hE.eval 13 (by rfl) e13
    replace e18 := hE.eval 18 (by rfl) e18
    replace k := k.env hE
    clear hE e91
    refine then_n ?_
    refine wp_block ?_
    obtain ⟨gl, rfl⟩ : ∃ gl, Bl = some ⟨gl, 0, none⟩ := by
      obtain ⟨g2, c2, _, e2, _⟩ := row_some (OwnT.get O 3 rfl : World.ownsRow _ 0 38 2 _ P.length _) (by omega)
      injection e2 with e2; exact ⟨g2, e2⟩
    refine wp_loop (fun a w => Fr 205 a ∧ a.eval (.tmp 9) = .pointer (some ⟨sb, 0, none⟩) ∧ a.eval (.tmp 10) = .int .i64 ↑kk ∧ a.eval (.tmp 11) = .int .i64 ↑rt ∧ a.eval (.tmp 13) = .int .i64 ↑bz ∧ a.eval (.tmp 18) = .slice (some ⟨gl, 0, none⟩) P.length cl ∧ ∃ (i : Nat), a.eval (.tmp 20) = .int .i64 ↑i ∧ i ≤ kk ∧ OwnT W0.heap.size W0 ((tBlk sb 28 #[.slice B N.length cap, .int .i64 511]) :: (tRow 125 2 (.slice B N.length cap) N.length (leafV vs N)) :: (tPool vs N) :: (tPs (.slice (some ⟨gl, 0, none⟩) P.length cl) P) :: []) w) (fun a w => kk - (intOf (a.eval (.tmp 20))).toNat) ?_ ?_
    · exact ⟨k, e9, e10, e11, e13, e18, 0, e20, Nat.zero_le _, O⟩
    intro a88 w89 hI
    clear k e9 e10 e11 e13 e18
    obtain ⟨k, e9, e10, e11, e13, e18, h_⟩ := hI
    clear O e20
    obtain ⟨i, e20, hi, O⟩ := h_
    have mi := e20
    by_cases hlt : i < kk
    · have hltI : (i : Int) < (P.length : Int) := by omega
      obtain ⟨y, hy⟩ : ∃ y, P[i]? = some y := ⟨_, List.getElem?_eq_getElem (by omega)⟩
      have hym := List.mem_of_getElem? hy
      obtain ⟨hy2, -⟩ := hOr.mem y hym
      have hlk := look_mem hu hym
      have hy40 := hP40 y hym
      obtain ⟨y1, y2⟩ := y
      simp only at hy2 hlk hy40
      subst hy2
      
      obtain ⟨-, _, e, c0, c1⟩ := ps_cells (OwnT.get O 3 rfl : (tPs (.slice (some ⟨gl, 0, none⟩) P.length cl) P).holds _) hy; injection e with e; injection e with e; subst e
      refine wp_seq ?_
      refine wp_seq ?_
      refine wp_region_lit ?_
      have hE := Env.refl a88 [92, 93, 94]
      apply sq_det 92 hE k rfl (by rfl) (by rfl) rfl
      case h =>
        exact x_move rfl (hE.eval 20 (by rfl) e20)
      intro a90 hE e92 kp
      apply sq_det 93 hE k rfl (by rfl) (by rfl) rfl
      case h =>
        exact x_move rfl (hE.eval 10 (by rfl) e10)
      intro a91 hE e93 kp
      replace e92 := (kp 92 rfl).trans e92
      apply sq_det 94 hE k rfl (by rfl) (by rfl) rfl
      case h =>
        exact x_dec (x_lss rfl e92 e93) (decide_eq_true (by omega))
      intro a92 hE e94 kp
      refine wpList_nil ?_
      replace e9 := hE.eval 9 (by rfl) e9
      replace e10 := hE.eval 10 (by rfl) e10
      replace e11 := hE.eval 11 (by rfl) e11
      replace e13 := hE.eval 13 (by rfl) e13
      replace e18 := hE.eval 18 (by rfl) e18
      replace e20 := hE.eval 20 (by rfl) e20
      replace k := k.env hE
      clear hE
      refine then_n ?_
      refine cond_t e94 rfl ?_
      refine wp_skip ?_
      refine then_n ?_
      refine wp_seq ?_
      refine wp_block ?_
      refine wp_seq ?_
      refine wp_region_lit ?_
      have hE := Env.refl a92 [98, 99, 100, 101, 102, 103, 104, 105, 106, 97, 107, 108, 109, 21, 22, 23]
      apply sq_det 98 hE k rfl (by rfl) (by rfl) rfl
      case h =>
        exact x_move rfl (hE.eval 9 (by rfl) e9)
      intro a93 hE e98 kp
      apply sq_det 99 hE k rfl (by rfl) (by rfl) rfl
      case h =>
        simp [go_sem, ↓IntWalk.iteOmega, ev e98]
        with_reducible rfl
      intro a94 hE e99 kp
      apply sq_det 100 hE k rfl (by rfl) (by rfl) rfl
      case h =>
        exact x_move rfl (hE.eval 11 (by rfl) e11)
      intro a95 hE e100 kp
      replace e99 := (kp 99 rfl).trans e99
      apply sq_det 101 hE k rfl (by rfl) (by rfl) rfl
      case h =>
        exact x_move rfl (hE.eval 18 (by rfl) e18)
      intro a96 hE e101 kp
      replace e99 := (kp 99 rfl).trans e99
      replace e100 := (kp 100 rfl).trans e100
      apply sq_det 102 hE k rfl (by rfl) (by rfl) rfl
      case h =>
        exact x_move rfl (hE.eval 20 (by rfl) e20)
      intro a97 hE e102 kp
      replace e99 := (kp 99 rfl).trans e99
      replace e100 := (kp 100 rfl).trans e100
      replace e101 := (kp 101 rfl).trans e101
      apply sq_det 103 hE k rfl (by rfl) (by rfl) rfl
      case h =>
        simp [go_sem, ↓IntWalk.iteOmega, ev e101, ev e102]
        with_reducible rfl
      intro a98 hE e103 kp
      replace e99 := (kp 99 rfl).trans e99
      replace e100 := (kp 100 rfl).trans e100
      apply sq_det 104 hE k rfl (by rfl) (by rfl) rfl
      case h =>
        simp [go_sem, ↓IntWalk.iteOmega, ev e103]
        with_reducible rfl
      intro a99 hE e104 kp
      replace e99 := (kp 99 rfl).trans e99
      replace e100 := (kp 100 rfl).trans e100
      apply sq_det 105 hE k rfl (by rfl) (by rfl) rfl
      case h =>
        simp [go_sem, ↓IntWalk.iteOmega, ev e104, c0]
        with_reducible rfl
      intro a100 hE e105 kp
      replace e99 := (kp 99 rfl).trans e99
      replace e100 := (kp 100 rfl).trans e100
      apply sq_call 106 hE k rfl (by rfl) (by rfl) rfl
      case h =>
        simp [go_sem, ↓IntWalk.iteOmega, ev e99, ev e100, ev e105]
        with_reducible exact ⟨rfl, rfl⟩
      case hc => exact lGet_is (R := _ :: []) (ky := y1) (z := 2 * y1) (b := true) (by rw [hlk]; rfl) (by rw [hlk]; rfl) _ O hT (by omega)
      clear O
      rintro e w102 ⟨rfl, O⟩
      refine ⟨_, rfl, ?_⟩
      intro a101 hE e106 kp
      apply sq_det 97 hE k rfl (by rfl) (by rfl) rfl
      case h =>
        exact x_move rfl e106
      intro a103 hE e97 kp
      apply sq_det 107 hE k rfl (by rfl) (by rfl) rfl
      case h =>
        simp [go_sem, ↓IntWalk.iteOmega, ev e97]
        with_reducible rfl
      intro a104 hE e107 kp
      replace e97 := (kp 97 rfl).trans e97
      apply sq_det 108 hE k rfl (by rfl) (by rfl) rfl
      case h =>
        simp [go_sem, ↓IntWalk.iteOmega, ev e97]
        with_reducible rfl
      intro a105 hE e108 kp
      replace e97 := (kp 97 rfl).trans e97
      replace e107 := (kp 107 rfl).trans e107
      apply sq_det 109 hE k rfl (by rfl) (by rfl) rfl
      case h =>
        simp [go_sem, ↓IntWalk.iteOmega, ev e97]
        with_reducible rfl
      intro a106 hE e109 kp
      replace e107 := (kp 107 rfl).trans e107
      replace e108 := (kp 108 rfl).trans e108
      apply sq_det 21 hE k rfl (by rfl) (by rfl) rfl
      case h =>
        exact x_assign rfl e107
      intro a107 hE e21 kp
      replace e108 := (kp 108 rfl).trans e108
      replace e109 := (kp 109 rfl).trans e109
      apply sq_det 22 hE k rfl (by rfl) (by rfl) rfl
      case h =>
        exact x_assign rfl e108
      intro a108 hE e22 kp
      replace e109 := (kp 109 rfl).trans e109
      replace e21 := (kp 21 rfl).trans e21
      apply sq_det 23 hE k rfl (by rfl) (by rfl) rfl
      case h =>
        exact x_assign rfl e109
      intro a109 hE e23 kp
      replace e21 := (kp 21 rfl).trans e21
      replace e22 := (kp 22 rfl).trans e22
      refine wpList_nil ?_
      replace e9 := hE.eval 9 (by rfl) e9
      replace e10 := hE.eval 10 (by rfl) e10
      replace e11 := hE.eval 11 (by rfl) e11
      replace e13 := hE.eval 13 (by rfl) e13
      replace e18 := hE.eval 18 (by rfl) e18
      replace e20 := hE.eval 20 (by rfl) e20
      replace k := k.env hE
      clear hE e94
      refine then_n ?_
      clear c0 c1
      rcases Nat.eq_zero_or_pos i with hi0 | hi0
      · skip
        refine wp_seq ?_
        refine wp_typed (R := Ext) (w0 := w102) [[], [0], [0, 1], [0, 1, 2], [0, 1, 2], [0, 1, 2, 4], [0, 1, 2, 3, 4, 5], [0, 1, 2, 3, 4, 5, 6], [0, 1, 2, 3, 4, 5, 6, 7], [0, 1, 2], [0, 1, 2], [0, 1, 2, 9, 10], [0, 1, 2, 9, 10, 11], [0, 1, 2, 9, 10, 11, 12], [0, 1, 2, 3, 4, 5, 6, 7, 8, 9, 10, 11, 12, 13], [0, 1, 2, 3, 4, 5, 6, 7, 8, 9, 10, 11, 12, 13, 14], [0, 1, 2, 3, 4, 5, 6, 7, 8, 9, 10, 11, 12, 13, 14, 15], [0, 1, 2, 3, 4, 5, 6, 7, 8, 9, 10, 11, 12, 13, 14, 15, 16], [0, 1, 2, 3, 4, 5, 6, 7, 8, 9, 10, 11, 12, 13, 14, 15, 16], [0, 1, 2, 3, 4, 5, 6, 7, 8, 9, 10, 11, 12, 13, 14, 15, 16, 17, 18], [0, 1, 2, 3, 4, 5, 6, 7, 8, 9, 10, 11, 12, 13, 14, 15, 16, 17, 18, 19], [0, 1, 2, 3, 4, 5, 6, 7, 8, 9, 10, 11, 12, 13, 14, 15, 16, 17, 18, 19, 20], [0, 1, 2, 3, 4, 5, 6, 7, 8, 9, 10, 11, 12, 13, 14, 15, 16], [0, 1, 2, 3, 4, 5, 6, 7, 8, 9, 10, 11, 12, 13, 14, 15, 16], [0, 1, 2, 3, 4, 5, 6, 7, 8, 9, 10, 11, 12, 13, 14, 15, 16, 22, 23], [0, 1, 2, 3, 4, 5, 6, 7, 8, 9, 10, 11, 12, 13, 14, 15, 16, 22, 23, 24], [0, 1, 2, 3, 4, 5, 6, 7, 8, 9, 10, 11, 12, 13, 14, 15, 16, 22, 23, 24, 25], [0, 1, 2, 3, 4, 5, 6, 7, 8, 9, 10, 11, 12, 13, 14, 15, 16, 22, 23, 24, 25, 26], [0, 1, 2, 3, 4, 5, 6, 7, 8, 9, 10, 11, 12, 13, 14, 15, 16, 17, 18, 19, 20, 21, 22, 23, 24, 25, 26, 27], [0, 1, 2, 3, 4, 5, 6, 7, 8, 9, 10, 11, 12, 13, 14, 15, 16, 17, 18, 19, 20, 21, 22, 23, 24, 25, 26, 27, 28], [0, 1, 2, 3, 4, 5, 6, 7, 8, 9, 10, 11, 12, 13, 14, 15, 16, 17, 18, 19, 20, 21, 22, 23, 24, 25, 26, 27, 28, 29], [0, 1, 2, 3, 4, 5, 6, 7, 8, 9, 10, 11, 12, 13, 14, 15, 16, 17, 18, 19, 20, 21, 22, 23, 24, 25, 26, 27, 28, 29, 30], [0, 1, 2, 3, 4, 5, 6, 7, 8, 9, 10, 11, 12, 13, 14, 15, 16, 17, 18, 19, 20, 21, 22, 23, 24, 25, 26, 27, 28, 29, 30, 31], [0, 1, 2, 3, 4, 5, 6, 7, 8, 9, 10, 11, 12, 13, 14, 15, 16, 17, 18, 19, 20, 21, 22, 23, 24, 25, 26, 27, 28, 29, 30, 31, 32], [0, 1, 2, 3, 4, 5, 6, 7, 8, 9, 10, 11, 12, 13, 14, 15, 16, 17, 18, 19, 20, 21, 22, 23, 24, 25, 26, 27, 28, 29, 30, 31, 32, 33], [0, 1, 2, 3, 4, 5, 6, 7, 8, 9, 10, 11, 12, 13, 14, 15, 16, 17, 18, 19, 20, 21, 22, 23, 24, 25, 26, 27, 28, 29, 30, 31, 32, 33, 34], [0, 1, 2, 3, 4, 5, 6, 7, 8, 9, 10, 11, 12, 13, 14, 15, 16, 17, 18, 19, 20, 21, 22, 23, 24, 25, 26, 27, 28, 29, 30, 31, 32, 33, 34], [0, 1, 2, 3, 4, 5, 6, 7, 8, 9, 10, 11, 12, 13, 14, 15, 16, 17, 18, 19, 20, 21, 22, 23, 24, 25, 26, 27, 28, 29, 30, 31, 32, 33, 34], [0, 1, 2, 3, 4, 5, 6, 7, 8, 9, 10, 11, 12, 13, 14, 15, 16, 17, 18, 19, 20, 21, 22, 23, 24, 25, 26, 27, 28, 29, 30, 31, 32, 33, 34, 36, 37], [0, 1, 2, 3, 4, 5, 6, 7, 8, 9, 10, 11, 12, 13, 14, 15, 16, 17, 18, 19, 20, 21, 22, 23, 24, 25, 26, 27, 28, 29, 30, 31, 32, 33, 34, 36, 37, 38], [0, 1, 2, 3, 4, 5, 6, 7, 8, 9, 10, 11, 12, 13, 14, 15, 16, 17, 18, 19, 20, 21, 22, 23, 24, 25, 26, 27, 28, 29, 30, 31, 32, 33, 34, 36, 37, 38, 39], [0, 1, 2, 3, 4, 5, 6, 7, 8, 9, 10, 11, 12, 13, 14, 15, 16, 17, 18, 19, 20, 21, 22, 23, 24, 25, 26, 27, 28, 29, 30, 31, 32, 33, 34, 35, 36, 37, 38, 39, 40], [0, 1, 2, 3, 4, 5, 6, 7, 8, 9, 10, 11, 12, 13, 14, 15, 16, 17, 18, 19, 20, 21, 22, 23, 24, 25, 26, 27, 28, 29, 30, 31, 32, 33, 34, 35, 36, 37, 38, 39, 40, 41], [0, 1, 2, 3, 4, 5, 6, 7, 8, 9, 10, 11, 12, 13, 14, 15, 16, 17, 18, 19, 20, 21, 22, 23, 24, 25, 26, 27, 28, 29, 30, 31, 32, 33, 34, 35, 36, 37, 38, 39, 40, 41, 42], [0, 1, 2, 3, 4, 5, 6, 7, 8, 9, 10, 11, 12, 13, 14, 15, 16, 17, 18, 19, 20, 21, 22, 23, 24, 25, 26, 27, 28, 29, 30, 31, 32, 33, 34, 35, 36, 37, 38, 39, 40, 41, 42, 43], [0, 1, 2, 3, 4, 5, 6, 7, 8, 9, 10, 11, 12, 13, 14, 15, 16, 17, 18, 19, 20, 21, 22, 23, 24, 25, 26, 27, 28, 29, 30, 31, 32, 33, 34, 35, 36, 37, 38, 39, 40, 41, 42, 43, 44], [0, 1, 2, 3, 4, 5, 6, 7, 8, 9, 10, 11, 12, 13, 14, 15, 16, 17, 18, 19, 20, 21, 22, 23, 24, 25, 26, 27, 28, 29, 30, 31, 32, 33, 34, 35, 36, 37, 38, 39, 40, 41, 42, 43, 44, 45]] [110, 111, 112, 113, 114, 115, 116, 117, 118, 119, 120, 121, 122, 123, 124, 125, 126, 127, 128, 129, 130, 131, 132, 133, 134, 135, 136, 137, 138, 139, 140, 141, 142, 143, 144, 145, 146, 147, 148, 149, 150, 151, 152, 153, 154, 155, 156] Ext.refl (fun _ _ _ => Ext.trans) (Ext.drew _) (by kernel_rfl) ?_
        apply Build.det 110 Ext.refl (by rfl) (by rw [k.size]; rfl) rfl
        case h =>
          intro ax wx hE hR hF
          exact x_move rfl (hE.eval 20 (by rfl) e20)
        apply Build.det 111 Ext.refl (by rfl) (by rw [k.size]; rfl) rfl
        case h =>
          intro ax wx hE hR hF
          have e110 : ax.eval (.tmp 110) = _ := hF 0 (det 110 _) (by decide) (.head _)
          exact x_dec (x_gtr rfl e110 rfl) (decide_eq_false (by omega))
        apply Build.det 112 Ext.refl (by rfl) (by rw [k.size]; rfl) rfl
        case h =>
          intro ax wx hE hR hF
          have e111 : ax.eval (.tmp 111) = _ := hF 1 (det 111 _) (by decide) (.head _)
          exact x_move rfl e111
        refine Build.skip 113 (by rfl) (by rw [k.size]; rfl) rfl rfl ?_ ?_
        · intro ax wx hE hR hF
          have e112 : ax.eval (.tmp 112) = _ := hF 2 (det 112 _) (by decide) (.head _)
          exact e112
        refine Build.skip 114 (by rfl) (by rw [k.size]; rfl) rfl rfl ?_ ?_
        · intro ax wx hE hR hF
          have e112 : ax.eval (.tmp 112) = _ := hF 2 (det 112 _) (by decide) (.tail _ (.head _))
          exact e112
        refine Build.skip 115 (by rfl) (by rw [k.size]; rfl) rfl rfl ?_ ?_
        · intro ax wx hE hR hF
          have e112 : ax.eval (.tmp 112) = _ := hF 2 (det 112 _) (by decide) (.tail _ (.tail _ (.head _)))
          exact e112
        refine Build.skip 116 (by rfl) (by rw [k.size]; rfl) rfl rfl ?_ ?_
        · intro ax wx hE hR hF
          have e112 : ax.eval (.tmp 112) = _ := hF 2 (det 112 _) (by decide) (.tail _ (.tail _ (.tail _ (.head _))))
          exact e112
        refine Build.skip 117 (by rfl) (by rw [k.size]; rfl) rfl rfl ?_ ?_
        · intro ax wx hE hR hF
          have e112 : ax.eval (.tmp 112) = _ := hF 2 (det 112 _) (by decide) (.tail _ (.tail _ (.tail _ (.tail _ (.head _)))))
          exact e112
        refine Build.skip 118 (by rfl) (by rw [k.size]; rfl) rfl rfl ?_ ?_
        · intro ax wx hE hR hF
          have e112 : ax.eval (.tmp 112) = _ := hF 2 (det 112 _) (by decide) (.tail _ (.tail _ (.tail _ (.tail _ (.tail _ (.head _))))))
          exact e112
        refine Build.skip 119 (by rfl) (by rw [k.size]; rfl) rfl rfl ?_ ?_
        · intro ax wx hE hR hF
          have e112 : ax.eval (.tmp 112) = _ := hF 2 (det 112 _) (by decide) (.tail _ (.tail _ (.tail _ (.tail _ (.tail _ (.tail _ (.head _)))))))
          exact e112
        refine Build.skip 120 (by rfl) (by rw [k.size]; rfl) rfl rfl ?_ ?_
        · intro ax wx hE hR hF
          have e112 : ax.eval (.tmp 112) = _ := hF 2 (det 112 _) (by decide) (.tail _ (.tail _ (.tail _ (.tail _ (.tail _ (.tail _ (.tail _ (.head _))))))))
          exact e112
        refine Build.skip 121 (by rfl) (by rw [k.size]; rfl) rfl rfl ?_ ?_
        · intro ax wx hE hR hF
          have e112 : ax.eval (.tmp 112) = _ := hF 2 (det 112 _) (by decide) (.tail _ (.tail _ (.tail _ (.tail _ (.tail _ (.tail _ (.tail _ (.tail _ (.head _)))))))))
          exact e112
        refine Build.skip 122 (by rfl) (by rw [k.size]; rfl) rfl rfl ?_ ?_
        · intro ax wx hE hR hF
          have e112 : ax.eval (.tmp 112) = _ := hF 2 (det 112 _) (by decide) (.tail _ (.tail _ (.tail _ (.tail _ (.tail _ (.tail _ (.tail _ (.tail _ (.tail _ (.head _))))))))))
          exact e112
        refine Build.skip 123 (by rfl) (by rw [k.size]; rfl) rfl rfl ?_ ?_
        · intro ax wx hE hR hF
          have e112 : ax.eval (.tmp 112) = _ := hF 2 (det 112 _) (by decide) (.tail _ (.tail _ (.tail _ (.tail _ (.tail _ (.tail _ (.tail _ (.tail _ (.tail _ (.tail _ (.head _)))))))))))
          exact e112
        refine Build.skip 124 (by rfl) (by rw [k.size]; rfl) rfl rfl ?_ ?_
        · intro ax wx hE hR hF
          have e112 : ax.eval (.tmp 112) = _ := hF 2 (det 112 _) (by decide) (.tail _ (.tail _ (.tail _ (.tail _ (.tail _ (.tail _ (.tail _ (.tail _ (.tail _ (.tail _ (.tail _ (.head _))))))))))))
          exact e112
        apply Build.det 125 Ext.refl (by rfl) (by rw [k.size]; rfl) rfl
        case h =>
          intro ax wx hE hR hF
          have e112 : ax.eval (.tmp 112) = _ := hF 2 (det 112 _) (by decide) (.tail _ (.tail _ (.tail _ (.tail _ (.tail _ (.tail _ (.tail _ (.tail _ (.tail _ (.tail _ (.tail _ (.tail _ (.head _)))))))))))))
          have e124 : ax.eval (.tmp 124) = _ := hF 14 (det 124 _) (by decide) (.head _)
          exact x_pick_f rfl e112 rfl
        apply Build.det 126 Ext.refl (by rfl) (by rw [k.size]; rfl) rfl
        case h =>
          intro ax wx hE hR hF
          have e125 : ax.eval (.tmp 125) = _ := hF 15 (det 125 _) (by decide) (.head _)
          exact x_move rfl e125
        apply Build.detg 127 Ext.refl (by rfl) (by rw [k.size]; rfl) rfl rfl
        case h =>
          intro ax wx hE hR hF
          have e126 : ax.eval (.tmp 126) = _ := hF 16 (det 126 _) (by decide) (.head _)
          refine ⟨e126, ?_⟩
          exact x_move rfl (hE.eval 18 (by rfl) e18)
        apply Build.detg 128 Ext.refl (by rfl) (by rw [k.size]; rfl) rfl rfl
        case h =>
          intro ax wx hE hR hF
          have e126 : ax.eval (.tmp 126) = _ := hF 16 (det 126 _) (by decide) (.tail _ (.head _))
          refine ⟨e126, ?_⟩
          exact x_move rfl (hE.eval 20 (by rfl) e20)
        apply Build.detg 129 Ext.refl (by rfl) (by rw [k.size]; rfl) rfl rfl
        case h =>
          intro ax wx hE hR hF
          have e127 : ax.eval (.tmp 127) = _ := hF 17 (det 127 _) (by decide) (.tail _ (.head _))
          have e128 : ax.eval (.tmp 128) = _ := hF 18 (det 128 _) (by decide) (.head _)
          have e126 : ax.eval (.tmp 126) = _ := hF 16 (det 126 _) (by decide) (.tail _ (.tail _ (.head _)))
          refine ⟨e126, ?_⟩
          simp [go_sem, ↓IntWalk.iteOmega, ev e127, ev e128]
          with_reducible rfl
        apply Build.detg 130 Ext.refl (by rfl) (by rw [k.size]; rfl) rfl rfl
        case h =>
          intro ax wx hE hR hF
          have e129 : ax.eval (.tmp 129) = _ := hF 19 (det 129 _) (by decide) (.head _)
          have e126 : ax.eval (.tmp 126) = _ := hF 16 (det 126 _) (by decide) (.tail _ (.tail _ (.tail _ (.head _))))
          refine ⟨e126, ?_⟩
          simp [go_sem, ↓IntWalk.iteOmega, ev e129]
          with_reducible rfl
        apply Build.detg 131 Ext.refl (by rfl) (by rw [k.size]; rfl) rfl rfl
        case h =>
          intro ax wx hE hR hF
          have e130 : ax.eval (.tmp 130) = _ := hF 20 (det 130 _) (by decide) (.head _)
          have e126 : ax.eval (.tmp 126) = _ := hF 16 (det 126 _) (by decide) (.tail _ (.tail _ (.tail _ (.tail _ (.head _)))))
          refine ⟨e126, ?_⟩
          obtain ⟨-, _, e, -, c1⟩ := ps_cells (OwnT.get (OwnT.ext O hR) 3 rfl : (tPs (.slice (some ⟨gl, 0, none⟩) P.length cl) P).holds _) hy; injection e with e; injection e with e; subst e
          simp [go_sem, ↓IntWalk.iteOmega, ev e130, c1]
          with_reducible rfl
        apply Build.detg 132 Ext.refl (by rfl) (by rw [k.size]; rfl) rfl rfl
        case h =>
          intro ax wx hE hR hF
          have e126 : ax.eval (.tmp 126) = _ := hF 16 (det 126 _) (by decide) (.tail _ (.tail _ (.tail _ (.tail _ (.tail _ (.head _))))))
          refine ⟨e126, ?_⟩
          exact x_move rfl (hE.eval 18 (by rfl) e18)
        apply Build.detg 133 Ext.refl (by rfl) (by rw [k.size]; rfl) rfl rfl
        case h =>
          intro ax wx hE hR hF
          have e126 : ax.eval (.tmp 126) = _ := hF 16 (det 126 _) (by decide) (.tail _ (.tail _ (.tail _ (.tail _ (.tail _ (.tail _ (.head _)))))))
          refine ⟨e126, ?_⟩
          exact x_move rfl (hE.eval 20 (by rfl) e20)
        apply Build.detg 134 Ext.refl (by rfl) (by rw [k.size]; rfl) rfl rfl
        case h =>
          intro ax wx hE hR hF
          have e132 : ax.eval (.tmp 132) = _ := hF 22 (det 132 _) (by decide) (.tail _ (.head _))
          have e133 : ax.eval (.tmp 133) = _ := hF 23 (det 133 _) (by decide) (.head _)
          have e126 : ax.eval (.tmp 126) = _ := hF 16 (det 126 _) (by decide) (.tail _ (.tail _ (.tail _ (.tail _ (.tail _ (.tail _ (.tail _ (.head _))))))))
          refine ⟨e126, ?_⟩
          simp [go_sem, ↓IntWalk.iteOmega, ev e132, ev e133]
          with_reducible rfl
        apply Build.detg 135 Ext.refl (by rfl) (by rw [k.size]; rfl) rfl rfl
        case h =>
          intro ax wx hE hR hF
          have e134 : ax.eval (.tmp 134) = _ := hF 24 (det 134 _) (by decide) (.head _)
          have e126 : ax.eval (.tmp 126) = _ := hF 16 (det 126 _) (by decide) (.tail _ (.tail _ (.tail _ (.tail _ (.tail _ (.tail _ (.tail _ (.tail _ (.head _)))))))))
          refine ⟨e126, ?_⟩
          simp [go_sem, ↓IntWalk.iteOmega, ev e134]
          with_reducible rfl
        apply Build.detg 136 Ext.refl (by rfl) (by rw [k.size]; rfl) rfl rfl
        case h =>
          intro ax wx hE hR hF
          have e135 : ax.eval (.tmp 135) = _ := hF 25 (det 135 _) (by decide) (.head _)
          have e126 : ax.eval (.tmp 126) = _ := hF 16 (det 126 _) (by decide) (.tail _ (.tail _ (.tail _ (.tail _ (.tail _ (.tail _ (.tail _ (.tail _ (.tail _ (.head _))))))))))
          refine ⟨e126, ?_⟩
          obtain ⟨-, _, e, c0, -⟩ := ps_cells (OwnT.get (OwnT.ext O hR) 3 rfl : (tPs (.slice (some ⟨gl, 0, none⟩) P.length cl) P).holds _) hy; injection e with e; injection e with e; subst e
          simp [go_sem, ↓IntWalk.iteOmega, ev e135, c0]
          with_reducible rfl
        apply Build.detg 137 Ext.refl (by rfl) (by rw [k.size]; rfl) rfl rfl
        case h =>
          intro ax wx hE hR hF
          have e136 : ax.eval (.tmp 136) = _ := hF 26 (det 136 _) (by decide) (.head _)
          have e126 : ax.eval (.tmp 126) = _ := hF 16 (det 126 _) (by decide) (.tail _ (.tail _ (.tail _ (.tail _ (.tail _ (.tail _ (.tail _ (.tail _ (.tail _ (.tail _ (.head _)))))))))))
          refine ⟨e126, ?_⟩
          exact x_mulU (m := 2) (n := y1) rfl rfl e136 (by omega)
        apply Build.detg 138 Ext.refl (by rfl) (by rw [k.size]; rfl) rfl rfl
        case h =>
          intro ax wx hE hR hF
          have e131 : ax.eval (.tmp 131) = _ := hF 21 (det 131 _) (by decide) (.tail _ (.tail _ (.tail _ (.tail _ (.tail _ (.tail _ (.head _)))))))
          have e137 : ax.eval (.tmp 137) = _ := hF 27 (det 137 _) (by decide) (.head _)
          have e126 : ax.eval (.tmp 126) = _ := hF 16 (det 126 _) (by decide) (.tail _ (.tail _ (.tail _ (.tail _ (.tail _ (.tail _ (.tail _ (.tail _ (.tail _ (.tail _ (.tail _ (.head _))))))))))))
          refine ⟨e126, ?_⟩
          exact x_dec (x_neq rfl e131 e137) (decide_eq_false (fun h => h rfl))
        apply Build.det 139 Ext.refl (by rfl) (by rw [k.size]; rfl) rfl
        case h =>
          intro ax wx hE hR hF
          have e126 : ax.eval (.tmp 126) = _ := hF 16 (det 126 _) (by decide) (.tail _ (.tail _ (.tail _ (.tail _ (.tail _ (.tail _ (.tail _ (.tail _ (.tail _ (.tail _ (.tail _ (.tail _ (.head _)))))))))))))
          have e138 : ax.eval (.tmp 138) = _ := hF 28 (det 138 _) (by decide) (.head _)
          exact x_pick_f rfl e126 e138
        apply Build.det 140 Ext.refl (by rfl) (by rw [k.size]; rfl) rfl
        case h =>
          intro ax wx hE hR hF
          have e139 : ax.eval (.tmp 139) = _ := hF 29 (det 139 _) (by decide) (.head _)
          exact x_move rfl e139
        apply Build.detg 141 Ext.refl (by rfl) (by rw [k.size]; rfl) rfl rfl
        case h =>
          intro ax wx hE hR hF
          have e140 : ax.eval (.tmp 140) = _ := hF 30 (det 140 _) (by decide) (.head _)
          refine ⟨e140, ?_⟩
          exact x_move rfl (hE.eval 22 (by rfl) e22)
        apply Build.detg 142 Ext.refl (by rfl) (by rw [k.size]; rfl) rfl rfl
        case h =>
          intro ax wx hE hR hF
          have e141 : ax.eval (.tmp 141) = _ := hF 31 (det 141 _) (by decide) (.head _)
          have e140 : ax.eval (.tmp 140) = _ := hF 30 (det 140 _) (by decide) (.tail _ (.head _))
          refine ⟨e140, ?_⟩
          exact x_not rfl e141
        apply Build.det 143 Ext.refl (by rfl) (by rw [k.size]; rfl) rfl
        case h =>
          intro ax wx hE hR hF
          have e140 : ax.eval (.tmp 140) = _ := hF 30 (det 140 _) (by decide) (.tail _ (.tail _ (.head _)))
          have e142 : ax.eval (.tmp 142) = _ := hF 32 (det 142 _) (by decide) (.head _)
          exact x_pick_f rfl e140 e142
        apply Build.det 144 Ext.refl (by rfl) (by rw [k.size]; rfl) rfl
        case h =>
          intro ax wx hE hR hF
          have e143 : ax.eval (.tmp 143) = _ := hF 33 (det 143 _) (by decide) (.head _)
          exact x_move rfl e143
        apply Build.detg 145 Ext.refl (by rfl) (by rw [k.size]; rfl) rfl rfl
        case h =>
          intro ax wx hE hR hF
          have e144 : ax.eval (.tmp 144) = _ := hF 34 (det 144 _) (by decide) (.head _)
          refine ⟨e144, ?_⟩
          exact x_move rfl (hE.eval 21 (by rfl) e21)
        apply Build.detg 146 Ext.refl (by rfl) (by rw [k.size]; rfl) rfl rfl
        case h =>
          intro ax wx hE hR hF
          have e144 : ax.eval (.tmp 144) = _ := hF 34 (det 144 _) (by decide) (.tail _ (.head _))
          refine ⟨e144, ?_⟩
          exact x_move rfl (hE.eval 18 (by rfl) e18)
        apply Build.detg 147 Ext.refl (by rfl) (by rw [k.size]; rfl) rfl rfl
        case h =>
          intro ax wx hE hR hF
          have e144 : ax.eval (.tmp 144) = _ := hF 34 (det 144 _) (by decide) (.tail _ (.tail _ (.head _)))
          refine ⟨e144, ?_⟩
          exact x_move rfl (hE.eval 20 (by rfl) e20)
        apply Build.detg 148 Ext.refl (by rfl) (by rw [k.size]; rfl) rfl rfl
        case h =>
          intro ax wx hE hR hF
          have e146 : ax.eval (.tmp 146) = _ := hF 36 (det 146 _) (by decide) (.tail _ (.head _))
          have e147 : ax.eval (.tmp 147) = _ := hF 37 (det 147 _) (by decide) (.head _)
          have e144 : ax.eval (.tmp 144) = _ := hF 34 (det 144 _) (by decide) (.tail _ (.tail _ (.tail _ (.head _))))
          refine ⟨e144, ?_⟩
          simp [go_sem, ↓IntWalk.iteOmega, ev e146, ev e147]
          with_reducible rfl
        apply Build.detg 149 Ext.refl (by rfl) (by rw [k.size]; rfl) rfl rfl
        case h =>
          intro ax wx hE hR hF
          have e148 : ax.eval (.tmp 148) = _ := hF 38 (det 148 _) (by decide) (.head _)
          have e144 : ax.eval (.tmp 144) = _ := hF 34 (det 144 _) (by decide) (.tail _ (.tail _ (.tail _ (.tail _ (.head _)))))
          refine ⟨e144, ?_⟩
          simp [go_sem, ↓IntWalk.iteOmega, ev e148]
          with_reducible rfl
        apply Build.detg 150 Ext.refl (by rfl) (by rw [k.size]; rfl) rfl rfl
        case h =>
          intro ax wx hE hR hF
          have e149 : ax.eval (.tmp 149) = _ := hF 39 (det 149 _) (by decide) (.head _)
          have e144 : ax.eval (.tmp 144) = _ := hF 34 (det 144 _) (by decide) (.tail _ (.tail _ (.tail _ (.tail _ (.tail _ (.head _))))))
          refine ⟨e144, ?_⟩
          obtain ⟨-, _, e, -, c1⟩ := ps_cells (OwnT.get (OwnT.ext O hR) 3 rfl : (tPs (.slice (some ⟨gl, 0, none⟩) P.length cl) P).holds _) hy; injection e with e; injection e with e; subst e
          simp [go_sem, ↓IntWalk.iteOmega, ev e149, c1]
          with_reducible rfl
        apply Build.detg 151 Ext.refl (by rfl) (by rw [k.size]; rfl) rfl rfl
        case h =>
          intro ax wx hE hR hF
          have e145 : ax.eval (.tmp 145) = _ := hF 35 (det 145 _) (by decide) (.tail _ (.tail _ (.tail _ (.tail _ (.tail _ (.head _))))))
          have e150 : ax.eval (.tmp 150) = _ := hF 40 (det 150 _) (by decide) (.head _)
          have e144 : ax.eval (.tmp 144) = _ := hF 34 (det 144 _) (by decide) (.tail _ (.tail _ (.tail _ (.tail _ (.tail _ (.tail _ (.head _)))))))
          refine ⟨e144, ?_⟩
          exact x_dec (x_neq rfl e145 e150) (decide_eq_false (fun h => h rfl))
        apply Build.det 152 Ext.refl (by rfl) (by rw [k.size]; rfl) rfl
        case h =>
          intro ax wx hE hR hF
          have e144 : ax.eval (.tmp 144) = _ := hF 34 (det 144 _) (by decide) (.tail _ (.tail _ (.tail _ (.tail _ (.tail _ (.tail _ (.tail _ (.head _))))))))
          have e151 : ax.eval (.tmp 151) = _ := hF 41 (det 151 _) (by decide) (.head _)
          exact x_pick_f rfl e144 e151
        apply Build.det 153 Ext.refl (by rfl) (by rw [k.size]; rfl) rfl
        case h =>
          intro ax wx hE hR hF
          have e152 : ax.eval (.tmp 152) = _ := hF 42 (det 152 _) (by decide) (.head _)
          exact x_move rfl e152
        apply Build.detg 154 Ext.refl (by rfl) (by rw [k.size]; rfl) rfl rfl
        case h =>
          intro ax wx hE hR hF
          have e153 : ax.eval (.tmp 153) = _ := hF 43 (det 153 _) (by decide) (.head _)
          refine ⟨e153, ?_⟩
          exact x_move rfl (hE.eval 23 (by rfl) e23)
        apply Build.detg 155 Ext.refl (by rfl) (by rw [k.size]; rfl) rfl rfl
        case h =>
          intro ax wx hE hR hF
          have e154 : ax.eval (.tmp 154) = _ := hF 44 (det 154 _) (by decide) (.head _)
          have e153 : ax.eval (.tmp 153) = _ := hF 43 (det 153 _) (by decide) (.tail _ (.head _))
          refine ⟨e153, ?_⟩
          exact x_neq rfl e154 rfl
        apply Build.det 156 Ext.refl (by rfl) (by rw [k.size]; rfl) rfl
        case h =>
          intro ax wx hE hR hF
          have e153 : ax.eval (.tmp 153) = _ := hF 43 (det 153 _) (by decide) (.tail _ (.tail _ (.head _)))
          have e155 : ax.eval (.tmp 155) = _ := hF 45 (det 155 _) (by decide) (.head _)
          exact x_pick_f rfl e153 e155
        apply Build.stop
        refine ⟨by kernel_rfl, .inl ⟨rfl, ?_⟩⟩
        intro a110 w111 hE R hF
        have e156 : a110.eval (.tmp 156) = _ := hF 46 (det 156 _) (.head _)
        clear hF
        replace O := OwnT.ext O R
        clear R
        replace e9 := hE.eval 9 (by rfl) e9
        replace e10 := hE.eval 10 (by rfl) e10
        replace e11 := hE.eval 11 (by rfl) e11
        replace e13 := hE.eval 13 (by rfl) e13
        replace e18 := hE.eval 18 (by rfl) e18
        replace e20 := hE.eval 20 (by rfl) e20
        replace k := k.env hE
        clear hE e21 e22 e23
        refine then_n ?_
        refine cond_f e156 rfl ?_
        refine wp_skip ?_
        refine block_n ?_
        refine then_n ?_
        refine wp_region_lit ?_
        have hE := Env.refl a110 [95, 96, 20]
        apply sq_det 95 hE k rfl (by rfl) (by rfl) rfl
        case h =>
          exact x_move rfl e20
        intro a112 hE e95 kp
        replace e20 := (kp 20 rfl).trans e20
        apply sq_det 96 hE k rfl (by rfl) (by rfl) rfl
        case h =>
          exact x_add rfl e95 rfl (by omega)
        intro a113 hE e96 kp
        replace e20 := (kp 20 rfl).trans e20
        apply sq_det 20 hE k rfl (by rfl) (by rfl) rfl
        case h =>
          exact x_assign rfl e96
        intro a114 hE e20 kp
        refine wpList_nil ?_
        replace e9 := hE.eval 9 (by rfl) e9
        replace e10 := hE.eval 10 (by rfl) e10
        replace e11 := hE.eval 11 (by rfl) e11
        replace e13 := hE.eval 13 (by rfl) e13
        replace e18 := hE.eval 18 (by rfl) e18
        replace k := k.env hE
        clear hE e156
        refine then_n ?_
        refine ⟨⟨k, e9, e10, e11, e13, e18, i + 1, e20, by omega, O⟩, ?_⟩
        rw [e20, mi]; simp only [intOf]; omega
      · skip
        obtain ⟨p, hp⟩ : ∃ p, i - 1 = p := ⟨_, rfl⟩
        obtain ⟨z, hz⟩ : ∃ z, P[p]? = some z := ⟨_, List.getElem?_eq_getElem (by omega)⟩
        have hzy : z.1 < y1 := by
          have h1 := (List.getElem?_eq_some_iff.1 hz)
          have h2 := (List.getElem?_eq_some_iff.1 hy)
          obtain ⟨b1, rfl⟩ := h1
          obtain ⟨b2, e2⟩ := h2
          have := List.pairwise_iff_getElem.1 hu p i b1 b2 (by omega)
          rw [e2] at this
          exact this
        have hpI : (p : Int) < (P.length : Int) := by omega
        obtain ⟨z1, z2⟩ := z
        simp only at hzy
        
        refine wp_seq ?_
        refine wp_typed (R := Ext) (w0 := w102) [[], [0], [0, 1], [0, 1, 2], [0, 1, 2], [0, 1, 2, 4], [0, 1, 2, 3, 4, 5], [0, 1, 2, 3, 4, 5, 6], [0, 1, 2, 3, 4, 5, 6, 7], [0, 1, 2], [0, 1, 2], [0, 1, 2, 9, 10], [0, 1, 2, 9, 10, 11], [0, 1, 2, 9, 10, 11, 12], [0, 1, 2, 3, 4, 5, 6, 7, 8, 9, 10, 11, 12, 13], [0, 1, 2, 3, 4, 5, 6, 7, 8, 9, 10, 11, 12, 13, 14], [0, 1, 2, 3, 4, 5, 6, 7, 8, 9, 10, 11, 12, 13, 14, 15], [0, 1, 2, 3, 4, 5, 6, 7, 8, 9, 10, 11, 12, 13, 14, 15, 16], [0, 1, 2, 3, 4, 5, 6, 7, 8, 9, 10, 11, 12, 13, 14, 15, 16], [0, 1, 2, 3, 4, 5, 6, 7, 8, 9, 10, 11, 12, 13, 14, 15, 16, 17, 18], [0, 1, 2, 3, 4, 5, 6, 7, 8, 9, 10, 11, 12, 13, 14, 15, 16, 17, 18, 19], [0, 1, 2, 3, 4, 5, 6, 7, 8, 9, 10, 11, 12, 13, 14, 15, 16, 17, 18, 19, 20], [0, 1, 2, 3, 4, 5, 6, 7, 8, 9, 10, 11, 12, 13, 14, 15, 16], [0, 1, 2, 3, 4, 5, 6, 7, 8, 9, 10, 11, 12, 13, 14, 15, 16], [0, 1, 2, 3, 4, 5, 6, 7, 8, 9, 10, 11, 12, 13, 14, 15, 16, 22, 23], [0, 1, 2, 3, 4, 5, 6, 7, 8, 9, 10, 11, 12, 13, 14, 15, 16, 22, 23, 24], [0, 1, 2, 3, 4, 5, 6, 7, 8, 9, 10, 11, 12, 13, 14, 15, 16, 22, 23, 24, 25], [0, 1, 2, 3, 4, 5, 6, 7, 8, 9, 10, 11, 12, 13, 14, 15, 16, 22, 23, 24, 25, 26], [0, 1, 2, 3, 4, 5, 6, 7, 8, 9, 10, 11, 12, 13, 14, 15, 16, 17, 18, 19, 20, 21, 22, 23, 24, 25, 26, 27], [0, 1, 2, 3, 4, 5, 6, 7, 8, 9, 10, 11, 12, 13, 14, 15, 16, 17, 18, 19, 20, 21, 22, 23, 24, 25, 26, 27, 28], [0, 1, 2, 3, 4, 5, 6, 7, 8, 9, 10, 11, 12, 13, 14, 15, 16, 17, 18, 19, 20, 21, 22, 23, 24, 25, 26, 27, 28, 29], [0, 1, 2, 3, 4, 5, 6, 7, 8, 9, 10, 11, 12, 13, 14, 15, 16, 17, 18, 19, 20, 21, 22, 23, 24, 25, 26, 27, 28, 29, 30], [0, 1, 2, 3, 4, 5, 6, 7, 8, 9, 10, 11, 12, 13, 14, 15, 16, 17, 18, 19, 20, 21, 22, 23, 24, 25, 26, 27, 28, 29, 30, 31], [0, 1, 2, 3, 4, 5, 6, 7, 8, 9, 10, 11, 12, 13, 14, 15, 16, 17, 18, 19, 20, 21, 22, 23, 24, 25, 26, 27, 28, 29, 30, 31, 32], [0, 1, 2, 3, 4, 5, 6, 7, 8, 9, 10, 11, 12, 13, 14, 15, 16, 17, 18, 19, 20, 21, 22, 23, 24, 25, 26, 27, 28, 29, 30, 31, 32, 33], [0, 1, 2, 3, 4, 5, 6, 7, 8, 9, 10, 11, 12, 13, 14, 15, 16, 17, 18, 19, 20, 21, 22, 23, 24, 25, 26, 27, 28, 29, 30, 31, 32, 33, 34], [0, 1, 2, 3, 4, 5, 6, 7, 8, 9, 10, 11, 12, 13, 14, 15, 16, 17, 18, 19, 20, 21, 22, 23, 24, 25, 26, 27, 28, 29, 30, 31, 32, 33, 34], [0, 1, 2, 3, 4, 5, 6, 7, 8, 9, 10, 11, 12, 13, 14, 15, 16, 17, 18, 19, 20, 21, 22, 23, 24, 25, 26, 27, 28, 29, 30, 31, 32, 33, 34], [0, 1, 2, 3, 4, 5, 6, 7, 8, 9, 10, 11, 12, 13, 14, 15, 16, 17, 18, 19, 20, 21, 22, 23, 24, 25, 26, 27, 28, 29, 30, 31, 32, 33, 34, 36, 37], [0, 1, 2, 3, 4, 5, 6, 7, 8, 9, 10, 11, 12, 13, 14, 15, 16, 17, 18, 19, 20, 21, 22, 23, 24, 25, 26, 27, 28, 29, 30, 31, 32, 33, 34, 36, 37, 38], [0, 1, 2, 3, 4, 5, 6, 7, 8, 9, 10, 11, 12, 13, 14, 15, 16, 17, 18, 19, 20, 21, 22, 23, 24, 25, 26, 27, 28, 29, 30, 31, 32, 33, 34, 36, 37, 38, 39], [0, 1, 2, 3, 4, 5, 6, 7, 8, 9, 10, 11, 12, 13, 14, 15, 16, 17, 18, 19, 20, 21, 22, 23, 24, 25, 26, 27, 28, 29, 30, 31, 32, 33, 34, 35, 36, 37, 38, 39, 40], [0, 1, 2, 3, 4, 5, 6, 7, 8, 9, 10, 11, 12, 13, 14, 15, 16, 17, 18, 19, 20, 21, 22, 23, 24, 25, 26, 27, 28, 29, 30, 31, 32, 33, 34, 35, 36, 37, 38, 39, 40, 41], [0, 1, 2, 3, 4, 5, 6, 7, 8, 9, 10, 11, 12, 13, 14, 15, 16, 17, 18, 19, 20, 21, 22, 23, 24, 25, 26, 27, 28, 29, 30, 31, 32, 33, 34, 35, 36, 37, 38, 39, 40, 41, 42], [0, 1, 2, 3, 4, 5, 6, 7, 8, 9, 10, 11, 12, 13, 14, 15, 16, 17, 18, 19, 20, 21, 22, 23, 24, 25, 26, 27, 28, 29, 30, 31, 32, 33, 34, 35, 36, 37, 38, 39, 40, 41, 42, 43], [0, 1, 2, 3, 4, 5, 6, 7, 8, 9, 10, 11, 12, 13, 14, 15, 16, 17, 18, 19, 20, 21, 22, 23, 24, 25, 26, 27, 28, 29, 30, 31, 32, 33, 34, 35, 36, 37, 38, 39, 40, 41, 42, 43, 44], [0, 1, 2, 3, 4, 5, 6, 7, 8, 9, 10, 11, 12, 13, 14, 15, 16, 17, 18, 19, 20, 21, 22, 23, 24, 25, 26, 27, 28, 29, 30, 31, 32, 33, 34, 35, 36, 37, 38, 39, 40, 41, 42, 43, 44, 45]] [110, 111, 112, 113, 114, 115, 116, 117, 118, 119, 120, 121, 122, 123, 124, 125, 126, 127, 128, 129, 130, 131, 132, 133, 134, 135, 136, 137, 138, 139, 140, 141, 142, 143, 144, 145, 146, 147, 148, 149, 150, 151, 152, 153, 154, 155, 156] Ext.refl (fun _ _ _ => Ext.trans) (Ext.drew _) (by kernel_rfl) ?_
        apply Build.det 110 Ext.refl (by rfl) (by rw [k.size]; rfl) rfl
        case h =>
          intro ax wx hE hR hF
          exact x_move rfl (hE.eval 20 (by rfl) e20)
        apply Build.det 111 Ext.refl (by rfl) (by rw [k.size]; rfl) rfl
        case h =>
          intro ax wx hE hR hF
          have e110 : ax.eval (.tmp 110) = _ := hF 0 (det 110 _) (by decide) (.head _)
          exact x_dec (x_gtr rfl e110 rfl) (decide_eq_true (by omega))
        apply Build.det 112 Ext.refl (by rfl) (by rw [k.size]; rfl) rfl
        case h =>
          intro ax wx hE hR hF
          have e111 : ax.eval (.tmp 111) = _ := hF 1 (det 111 _) (by decide) (.head _)
          exact x_move rfl e111
        apply Build.detg 113 Ext.refl (by rfl) (by rw [k.size]; rfl) rfl rfl
        case h =>
          intro ax wx hE hR hF
          have e112 : ax.eval (.tmp 112) = _ := hF 2 (det 112 _) (by decide) (.head _)
          refine ⟨e112, ?_⟩
          exact x_move rfl (hE.eval 18 (by rfl) e18)
        apply Build.detg 114 Ext.refl (by rfl) (by rw [k.size]; rfl) rfl rfl
        case h =>
          intro ax wx hE hR hF
          have e112 : ax.eval (.tmp 112) = _ := hF 2 (det 112 _) (by decide) (.tail _ (.head _))
          refine ⟨e112, ?_⟩
          exact x_move rfl (hE.eval 20 (by rfl) e20)
        apply Build.detg 115 Ext.refl (by rfl) (by rw [k.size]; rfl) rfl rfl
        case h =>
          intro ax wx hE hR hF
          have e114 : ax.eval (.tmp 114) = _ := hF 4 (det 114 _) (by decide) (.head _)
          have e112 : ax.eval (.tmp 112) = _ := hF 2 (det 112 _) (by decide) (.tail _ (.tail _ (.head _)))
          refine ⟨e112, ?_⟩
          exact x_val (v := .int .i64 (p : Int)) (x_sub rfl e114 rfl (by omega)) (int_eq (by omega))
        apply Build.detg 116 Ext.refl (by rfl) (by rw [k.size]; rfl) rfl rfl
        case h =>
          intro ax wx hE hR hF
          have e113 : ax.eval (.tmp 113) = _ := hF 3 (det 113 _) (by decide) (.tail _ (.tail _ (.head _)))
          have e115 : ax.eval (.tmp 115) = _ := hF 5 (det 115 _) (by decide) (.head _)
          have e112 : ax.eval (.tmp 112) = _ := hF 2 (det 112 _) (by decide) (.tail _ (.tail _ (.tail _ (.head _))))
          refine ⟨e112, ?_⟩
          simp [go_sem, ↓IntWalk.iteOmega, ev e113, ev e115]
          with_reducible rfl
        apply Build.detg 117 Ext.refl (by rfl) (by rw [k.size]; rfl) rfl rfl
        case h =>
          intro ax wx hE hR hF
          have e116 : ax.eval (.tmp 116) = _ := hF 6 (det 116 _) (by decide) (.head _)
          have e112 : ax.eval (.tmp 112) = _ := hF 2 (det 112 _) (by decide) (.tail _ (.tail _ (.tail _ (.tail _ (.head _)))))
          refine ⟨e112, ?_⟩
          simp [go_sem, ↓IntWalk.iteOmega, ev e116]
          with_reducible rfl
        apply Build.detg 118 Ext.refl (by rfl) (by rw [k.size]; rfl) rfl rfl
        case h =>
          intro ax wx hE hR hF
          have e117 : ax.eval (.tmp 117) = _ := hF 7 (det 117 _) (by decide) (.head _)
          have e112 : ax.eval (.tmp 112) = _ := hF 2 (det 112 _) (by decide) (.tail _ (.tail _ (.tail _ (.tail _ (.tail _ (.head _))))))
          refine ⟨e112, ?_⟩
          obtain ⟨-, _, e, c0, -⟩ := ps_cells (OwnT.get (OwnT.ext O hR) 3 rfl : (tPs (.slice (some ⟨gl, 0, none⟩) P.length cl) P).holds _) hz; injection e with e; injection e with e; subst e
          simp [go_sem, ↓IntWalk.iteOmega, ev e117, c0]
          with_reducible rfl
        apply Build.detg 119 Ext.refl (by rfl) (by rw [k.size]; rfl) rfl rfl
        case h =>
          intro ax wx hE hR hF
          have e112 : ax.eval (.tmp 112) = _ := hF 2 (det 112 _) (by decide) (.tail _ (.tail _ (.tail _ (.tail _ (.tail _ (.tail _ (.head _)))))))
          refine ⟨e112, ?_⟩
          exact x_move rfl (hE.eval 18 (by rfl) e18)
        apply Build.detg 120 Ext.refl (by rfl) (by rw [k.size]; rfl) rfl rfl
        case h =>
          intro ax wx hE hR hF
          have e112 : ax.eval (.tmp 112) = _ := hF 2 (det 112 _) (by decide) (.tail _ (.tail _ (.tail _ (.tail _ (.tail _ (.tail _ (.tail _ (.head _))))))))
          refine ⟨e112, ?_⟩
          exact x_move rfl (hE.eval 20 (by rfl) e20)
        apply Build.detg 121 Ext.refl (by rfl) (by rw [k.size]; rfl) rfl rfl
        case h =>
          intro ax wx hE hR hF
          have e119 : ax.eval (.tmp 119) = _ := hF 9 (det 119 _) (by decide) (.tail _ (.head _))
          have e120 : ax.eval (.tmp 120) = _ := hF 10 (det 120 _) (by decide) (.head _)
          have e112 : ax.eval (.tmp 112) = _ := hF 2 (det 112 _) (by decide) (.tail _ (.tail _ (.tail _ (.tail _ (.tail _ (.tail _ (.tail _ (.tail _ (.head _)))))))))
          refine ⟨e112, ?_⟩
          simp [go_sem, ↓IntWalk.iteOmega, ev e119, ev e120]
          with_reducible rfl
        apply Build.detg 122 Ext.refl (by rfl) (by rw [k.size]; rfl) rfl rfl
        case h =>
          intro ax wx hE hR hF
          have e121 : ax.eval (.tmp 121) = _ := hF 11 (det 121 _) (by decide) (.head _)
          have e112 : ax.eval (.tmp 112) = _ := hF 2 (det 112 _) (by decide) (.tail _ (.tail _ (.tail _ (.tail _ (.tail _ (.tail _ (.tail _ (.tail _ (.tail _ (.head _))))))))))
          refine ⟨e112, ?_⟩
          simp [go_sem, ↓IntWalk.iteOmega, ev e121]
          with_reducible rfl
        apply Build.detg 123 Ext.refl (by rfl) (by rw [k.size]; rfl) rfl rfl
        case h =>
          intro ax wx hE hR hF
          have e122 : ax.eval (.tmp 122) = _ := hF 12 (det 122 _) (by decide) (.head _)
          have e112 : ax.eval (.tmp 112) = _ := hF 2 (det 112 _) (by decide) (.tail _ (.tail _ (.tail _ (.tail _ (.tail _ (.tail _ (.tail _ (.tail _ (.tail _ (.tail _ (.head _)))))))))))
          refine ⟨e112, ?_⟩
          obtain ⟨-, _, e, c0, -⟩ := ps_cells (OwnT.get (OwnT.ext O hR) 3 rfl : (tPs (.slice (some ⟨gl, 0, none⟩) P.length cl) P).holds _) hy; injection e with e; injection e with e; subst e
          simp [go_sem, ↓IntWalk.iteOmega, ev e122, c0]
          with_reducible rfl
        apply Build.detg 124 Ext.refl (by rfl) (by rw [k.size]; rfl) rfl rfl
        case h =>
          intro ax wx hE hR hF
          have e118 : ax.eval (.tmp 118) = _ := hF 8 (det 118 _) (by decide) (.tail _ (.tail _ (.tail _ (.tail _ (.tail _ (.head _))))))
          have e123 : ax.eval (.tmp 123) = _ := hF 13 (det 123 _) (by decide) (.head _)
          have e112 : ax.eval (.tmp 112) = _ := hF 2 (det 112 _) (by decide) (.tail _ (.tail _ (.tail _ (.tail _ (.tail _ (.tail _ (.tail _ (.tail _ (.tail _ (.tail _ (.tail _ (.head _))))))))))))
          refine ⟨e112, ?_⟩
          exact x_dec (x_geq rfl e118 e123) (decide_eq_false (by omega))
        apply Build.det 125 Ext.refl (by rfl) (by rw [k.size]; rfl) rfl
        case h =>
          intro ax wx hE hR hF
          have e112 : ax.eval (.tmp 112) = _ := hF 2 (det 112 _) (by decide) (.tail _ (.tail _ (.tail _ (.tail _ (.tail _ (.tail _ (.tail _ (.tail _ (.tail _ (.tail _ (.tail _ (.tail _ (.head _)))))))))))))
          have e124 : ax.eval (.tmp 124) = _ := hF 14 (det 124 _) (by decide) (.head _)
          exact x_pick_t rfl e112 e124
        apply Build.det 126 Ext.refl (by rfl) (by rw [k.size]; rfl) rfl
        case h =>
          intro ax wx hE hR hF
          have e125 : ax.eval (.tmp 125) = _ := hF 15 (det 125 _) (by decide) (.head _)
          exact x_move rfl e125
        apply Build.detg 127 Ext.refl (by rfl) (by rw [k.size]; rfl) rfl rfl
        case h =>
          intro ax wx hE hR hF
          have e126 : ax.eval (.tmp 126) = _ := hF 16 (det 126 _) (by decide) (.head _)
          refine ⟨e126, ?_⟩
          exact x_move rfl (hE.eval 18 (by rfl) e18)
        apply Build.detg 128 Ext.refl (by rfl) (by rw [k.size]; rfl) rfl rfl
        case h =>
          intro ax wx hE hR hF
          have e126 : ax.eval (.tmp 126) = _ := hF 16 (det 126 _) (by decide) (.tail _ (.head _))
          refine ⟨e126, ?_⟩
          exact x_move rfl (hE.eval 20 (by rfl) e20)
        apply Build.detg 129 Ext.refl (by rfl) (by rw [k.size]; rfl) rfl rfl
        case h =>
          intro ax wx hE hR hF
          have e127 : ax.eval (.tmp 127) = _ := hF 17 (det 127 _) (by decide) (.tail _ (.head _))
          have e128 : ax.eval (.tmp 128) = _ := hF 18 (det 128 _) (by decide) (.head _)
          have e126 : ax.eval (.tmp 126) = _ := hF 16 (det 126 _) (by decide) (.tail _ (.tail _ (.head _)))
          refine ⟨e126, ?_⟩
          simp [go_sem, ↓IntWalk.iteOmega, ev e127, ev e128]
          with_reducible rfl
        apply Build.detg 130 Ext.refl (by rfl) (by rw [k.size]; rfl) rfl rfl
        case h =>
          intro ax wx hE hR hF
          have e129 : ax.eval (.tmp 129) = _ := hF 19 (det 129 _) (by decide) (.head _)
          have e126 : ax.eval (.tmp 126) = _ := hF 16 (det 126 _) (by decide) (.tail _ (.tail _ (.tail _ (.head _))))
          refine ⟨e126, ?_⟩
          simp [go_sem, ↓IntWalk.iteOmega, ev e129]
          with_reducible rfl
        apply Build.detg 131 Ext.refl (by rfl) (by rw [k.size]; rfl) rfl rfl
        case h =>
          intro ax wx hE hR hF
          have e130 : ax.eval (.tmp 130) = _ := hF 20 (det 130 _) (by decide) (.head _)
          have e126 : ax.eval (.tmp 126) = _ := hF 16 (det 126 _) (by decide) (.tail _ (.tail _ (.tail _ (.tail _ (.head _)))))
          refine ⟨e126, ?_⟩
          obtain ⟨-, _, e, -, c1⟩ := ps_cells (OwnT.get (OwnT.ext O hR) 3 rfl : (tPs (.slice (some ⟨gl, 0, none⟩) P.length cl) P).holds _) hy; injection e with e; injection e with e; subst e
          simp [go_sem, ↓IntWalk.iteOmega, ev e130, c1]
          with_reducible rfl
        apply Build.detg 132 Ext.refl (by rfl) (by rw [k.size]; rfl) rfl rfl
        case h =>
          intro ax wx hE hR hF
          have e126 : ax.eval (.tmp 126) = _ := hF 16 (det 126 _) (by decide) (.tail _ (.tail _ (.tail _ (.tail _ (.tail _ (.head _))))))
          refine ⟨e126, ?_⟩
          exact x_move rfl (hE.eval 18 (by rfl) e18)
        apply Build.detg 133 Ext.refl (by rfl) (by rw [k.size]; rfl) rfl rfl
        case h =>
          intro ax wx hE hR hF
          have e126 : ax.eval (.tmp 126) = _ := hF 16 (det 126 _) (by decide) (.tail _ (.tail _ (.tail _ (.tail _ (.tail _ (.tail _ (.head _)))))))
          refine ⟨e126, ?_⟩
          exact x_move rfl (hE.eval 20 (by rfl) e20)
        apply Build.detg 134 Ext.refl (by rfl) (by rw [k.size]; rfl) rfl rfl
        case h =>
          intro ax wx hE hR hF
          have e132 : ax.eval (.tmp 132) = _ := hF 22 (det 132 _) (by decide) (.tail _ (.head _))
          have e133 : ax.eval (.tmp 133) = _ := hF 23 (det 133 _) (by decide) (.head _)
          have e126 : ax.eval (.tmp 126) = _ := hF 16 (det 126 _) (by decide) (.tail _ (.tail _ (.tail _ (.tail _ (.tail _ (.tail _ (.tail _ (.head _))))))))
          refine ⟨e126, ?_⟩
          simp [go_sem, ↓IntWalk.iteOmega, ev e132, ev e133]
          with_reducible rfl
        apply Build.detg 135 Ext.refl (by rfl) (by rw [k.size]; rfl) rfl rfl
        case h =>
          intro ax wx hE hR hF
          have e134 : ax.eval (.tmp 134) = _ := hF 24 (det 134 _) (by decide) (.head _)
          have e126 : ax.eval (.tmp 126) = _ := hF 16 (det 126 _) (by decide) (.tail _ (.tail _ (.tail _ (.tail _ (.tail _ (.tail _ (.tail _ (.tail _ (.head _)))))))))
          refine ⟨e126, ?_⟩
          simp [go_sem, ↓IntWalk.iteOmega, ev e134]
          with_reducible rfl
        apply Build.detg 136 Ext.refl (by rfl) (by rw [k.size]; rfl) rfl rfl
        case h =>
          intro ax wx hE hR hF
          have e135 : ax.eval (.tmp 135) = _ := hF 25 (det 135 _) (by decide) (.head _)
          have e126 : ax.eval (.tmp 126) = _ := hF 16 (det 126 _) (by decide) (.tail _ (.tail _ (.tail _ (.tail _ (.tail _ (.tail _ (.tail _ (.tail _ (.tail _ (.head _))))))))))
          refine ⟨e126, ?_⟩
          obtain ⟨-, _, e, c0, -⟩ := ps_cells (OwnT.get (OwnT.ext O hR) 3 rfl : (tPs (.slice (some ⟨gl, 0, none⟩) P.length cl) P).holds _) hy; injection e with e; injection e with e; subst e
          simp [go_sem, ↓IntWalk.iteOmega, ev e135, c0]
          with_reducible rfl
        apply Build.detg 137 Ext.refl (by rfl) (by rw [k.size]; rfl) rfl rfl
        case h =>
          intro ax wx hE hR hF
          have e136 : ax.eval (.tmp 136) = _ := hF 26 (det 136 _) (by decide) (.head _)
          have e126 : ax.eval (.tmp 126) = _ := hF 16 (det 126 _) (by decide) (.tail _ (.tail _ (.tail _ (.tail _ (.tail _ (.tail _ (.tail _ (.tail _ (.tail _ (.tail _ (.head _)))))))))))
          refine ⟨e126, ?_⟩
          exact x_mulU (m := 2) (n := y1) rfl rfl e136 (by omega)
        apply Build.detg 138 Ext.refl (by rfl) (by rw [k.size]; rfl) rfl rfl
        case h =>
          intro ax wx hE hR hF
          have e131 : ax.eval (.tmp 131) = _ := hF 21 (det 131 _) (by decide) (.tail _ (.tail _ (.tail _ (.tail _ (.tail _ (.tail _ (.head _)))))))
          have e137 : ax.eval (.tmp 137) = _ := hF 27 (det 137 _) (by decide) (.head _)
          have e126 : ax.eval (.tmp 126) = _ := hF 16 (det 126 _) (by decide) (.tail _ (.tail _ (.tail _ (.tail _ (.tail _ (.tail _ (.tail _ (.tail _ (.tail _ (.tail _ (.tail _ (.head _))))))))))))
          refine ⟨e126, ?_⟩
          exact x_dec (x_neq rfl e131 e137) (decide_eq_false (fun h => h rfl))
        apply Build.det 139 Ext.refl (by rfl) (by rw [k.size]; rfl) rfl
        case h =>
          intro ax wx hE hR hF
          have e126 : ax.eval (.tmp 126) = _ := hF 16 (det 126 _) (by decide) (.tail _ (.tail _ (.tail _ (.tail _ (.tail _ (.tail _ (.tail _ (.tail _ (.tail _ (.tail _ (.tail _ (.tail _ (.head _)))))))))))))
          have e138 : ax.eval (.tmp 138) = _ := hF 28 (det 138 _) (by decide) (.head _)
          exact x_pick_f rfl e126 e138
        apply Build.det 140 Ext.refl (by rfl) (by rw [k.size]; rfl) rfl
        case h =>
          intro ax wx hE hR hF
          have e139 : ax.eval (.tmp 139) = _ := hF 29 (det 139 _) (by decide) (.head _)
          exact x_move rfl e139
        apply Build.detg 141 Ext.refl (by rfl) (by rw [k.size]; rfl) rfl rfl
        case h =>
          intro ax wx hE hR hF
          have e140 : ax.eval (.tmp 140) = _ := hF 30 (det 140 _) (by decide) (.head _)
          refine ⟨e140, ?_⟩
          exact x_move rfl (hE.eval 22 (by rfl) e22)
        apply Build.detg 142 Ext.refl (by rfl) (by rw [k.size]; rfl) rfl rfl
        case h =>
          intro ax wx hE hR hF
          have e141 : ax.eval (.tmp 141) = _ := hF 31 (det 141 _) (by decide) (.head _)
          have e140 : ax.eval (.tmp 140) = _ := hF 30 (det 140 _) (by decide) (.tail _ (.head _))
          refine ⟨e140, ?_⟩
          exact x_not rfl e141
        apply Build.det 143 Ext.refl (by rfl) (by rw [k.size]; rfl) rfl
        case h =>
          intro ax wx hE hR hF
          have e140 : ax.eval (.tmp 140) = _ := hF 30 (det 140 _) (by decide) (.tail _ (.tail _ (.head _)))
          have e142 : ax.eval (.tmp 142) = _ := hF 32 (det 142 _) (by decide) (.head _)
          exact x_pick_f rfl e140 e142
        apply Build.det 144 Ext.refl (by rfl) (by rw [k.size]; rfl) rfl
        case h =>
          intro ax wx hE hR hF
          have e143 : ax.eval (.tmp 143) = _ := hF 33 (det 143 _) (by decide) (.head _)
          exact x_move rfl e143
        apply Build.detg 145 Ext.refl (by rfl) (by rw [k.size]; rfl) rfl rfl
        case h =>
          intro ax wx hE hR hF
          have e144 : ax.eval (.tmp 144) = _ := hF 34 (det 144 _) (by decide) (.head _)
          refine ⟨e144, ?_⟩
          exact x_move rfl (hE.eval 21 (by rfl) e21)
        apply Build.detg 146 Ext.refl (by rfl) (by rw [k.size]; rfl) rfl rfl
        case h =>
          intro ax wx hE hR hF
          have e144 : ax.eval (.tmp 144) = _ := hF 34 (det 144 _) (by decide) (.tail _ (.head _))
          refine ⟨e144, ?_⟩
          exact x_move rfl (hE.eval 18 (by rfl) e18)
        apply Build.detg 147 Ext.refl (by rfl) (by rw [k.size]; rfl) rfl rfl
        case h =>
          intro ax wx hE hR hF
          have e144 : ax.eval (.tmp 144) = _ := hF 34 (det 144 _) (by decide) (.tail _ (.tail _ (.head _)))
          refine ⟨e144, ?_⟩
          exact x_move rfl (hE.eval 20 (by rfl) e20)
        apply Build.detg 148 Ext.refl (by rfl) (by rw [k.size]; rfl) rfl rfl
        case h =>
          intro ax wx hE hR hF
          have e146 : ax.eval (.tmp 146) = _ := hF 36 (det 146 _) (by decide) (.tail _ (.head _))
          have e147 : ax.eval (.tmp 147) = _ := hF 37 (det 147 _) (by decide) (.head _)
          have e144 : ax.eval (.tmp 144) = _ := hF 34 (det 144 _) (by decide) (.tail _ (.tail _ (.tail _ (.head _))))
          refine ⟨e144, ?_⟩
          simp [go_sem, ↓IntWalk.iteOmega, ev e146, ev e147]
          with_reducible rfl
        apply Build.detg 149 Ext.refl (by rfl) (by rw [k.size]; rfl) rfl rfl
        case h =>
          intro ax wx hE hR hF
          have e148 : ax.eval (.tmp 148) = _ := hF 38 (det 148 _) (by decide) (.head _)
          have e144 : ax.eval (.tmp 144) = _ := hF 34 (det 144 _) (by decide) (.tail _ (.tail _ (.tail _ (.tail _ (.head _)))))
          refine ⟨e144, ?_⟩
          simp [go_sem, ↓IntWalk.iteOmega, ev e148]
          with_reducible rfl
        apply Build.detg 150 Ext.refl (by rfl) (by rw [k.size]; rfl) rfl rfl
        case h =>
          intro ax wx hE hR hF
          have e149 : ax.eval (.tmp 149) = _ := hF 39 (det 149 _) (by decide) (.head _)
          have e144 : ax.eval (.tmp 144) = _ := hF 34 (det 144 _) (by decide) (.tail _ (.tail _ (.tail _ (.tail _ (.tail _ (.head _))))))
          refine ⟨e144, ?_⟩
          obtain ⟨-, _, e, -, c1⟩ := ps_cells (OwnT.get (OwnT.ext O hR) 3 rfl : (tPs (.slice (some ⟨gl, 0, none⟩) P.length cl) P).holds _) hy; injection e with e; injection e with e; subst e
          simp [go_sem, ↓IntWalk.iteOmega, ev e149, c1]
          with_reducible rfl
        apply Build.detg 151 Ext.refl (by rfl) (by rw [k.size]; rfl) rfl rfl
        case h =>
          intro ax wx hE hR hF
          have e145 : ax.eval (.tmp 145) = _ := hF 35 (det 145 _) (by decide) (.tail _ (.tail _ (.tail _ (.tail _ (.tail _ (.head _))))))
          have e150 : ax.eval (.tmp 150) = _ := hF 40 (det 150 _) (by decide) (.head _)
          have e144 : ax.eval (.tmp 144) = _ := hF 34 (det 144 _) (by decide) (.tail _ (.tail _ (.tail _ (.tail _ (.tail _ (.tail _ (.head _)))))))
          refine ⟨e144, ?_⟩
          exact x_dec (x_neq rfl e145 e150) (decide_eq_false (fun h => h rfl))
        apply Build.det 152 Ext.refl (by rfl) (by rw [k.size]; rfl) rfl
        case h =>
          intro ax wx hE hR hF
          have e144 : ax.eval (.tmp 144) = _ := hF 34 (det 144 _) (by decide) (.tail _ (.tail _ (.tail _ (.tail _ (.tail _ (.tail _ (.tail _ (.head _))))))))
          have e151 : ax.eval (.tmp 151) = _ := hF 41 (det 151 _) (by decide) (.head _)
          exact x_pick_f rfl e144 e151
        apply Build.det 153 Ext.refl (by rfl) (by rw [k.size]; rfl) rfl
        case h =>
          intro ax wx hE hR hF
          have e152 : ax.eval (.tmp 152) = _ := hF 42 (det 152 _) (by decide) (.head _)
          exact x_move rfl e152
        apply Build.detg 154 Ext.refl (by rfl) (by rw [k.size]; rfl) rfl rfl
        case h =>
          intro ax wx hE hR hF
          have e153 : ax.eval (.tmp 153) = _ := hF 43 (det 153 _) (by decide) (.head _)
          refine ⟨e153, ?_⟩
          exact x_move rfl (hE.eval 23 (by rfl) e23)
        apply Build.detg 155 Ext.refl (by rfl) (by rw [k.size]; rfl) rfl rfl
        case h =>
          intro ax wx hE hR hF
          have e154 : ax.eval (.tmp 154) = _ := hF 44 (det 154 _) (by decide) (.head _)
          have e153 : ax.eval (.tmp 153) = _ := hF 43 (det 153 _) (by decide) (.tail _ (.head _))
          refine ⟨e153, ?_⟩
          exact x_neq rfl e154 rfl
        apply Build.det 156 Ext.refl (by rfl) (by rw [k.size]; rfl) rfl
        case h =>
          intro ax wx hE hR hF
          have e153 : ax.eval (.tmp 153) = _ := hF 43 (det 153 _) (by decide) (.tail _ (.tail _ (.head _)))
          have e155 : ax.eval (.tmp 155) = _ := hF 45 (det 155 _) (by decide) (.head _)
          exact x_pick_f rfl e153 e155
        apply Build.stop
        refine ⟨by kernel_rfl, .inl ⟨rfl, ?_⟩⟩
        intro a115 w116 hE R hF
        have e156 : a115.eval (.tmp 156) = _ := hF 46 (det 156 _) (.head _)
        clear hF
        replace O := OwnT.ext O R
        clear R
        replace e9 := hE.eval 9 (by rfl) e9
        replace e10 := hE.eval 10 (by rfl) e10
        replace e11 := hE.eval 11 (by rfl) e11
        replace e13 := hE.eval 13 (by rfl) e13
        replace e18 := hE.eval 18 (by rfl) e18
        replace e20 := hE.eval 20 (by rfl) e20
        replace k := k.env hE
        clear hE e21 e22 e23
        refine then_n ?_
        refine cond_f e156 rfl ?_
        refine wp_skip ?_
        refine block_n ?_
        refine then_n ?_
        refine wp_region_lit ?_
        have hE := Env.refl a115 [95, 96, 20]
        apply sq_det 95 hE k rfl (by rfl) (by rfl) rfl
        case h =>
          exact x_move rfl e20
        intro a117 hE e95 kp
        replace e20 := (kp 20 rfl).trans e20
        apply sq_det 96 hE k rfl (by rfl) (by rfl) rfl
        case h =>
          exact x_add rfl e95 rfl (by omega)
        intro a118 hE e96 kp
        replace e20 := (kp 20 rfl).trans e20
        apply sq_det 20 hE k rfl (by rfl) (by rfl) rfl
        case h =>
          exact x_assign rfl e96
        intro a119 hE e20 kp
        refine wpList_nil ?_
        replace e9 := hE.eval 9 (by rfl) e9
        replace e10 := hE.eval 10 (by rfl) e10
        replace e11 := hE.eval 11 (by rfl) e11
        replace e13 := hE.eval 13 (by rfl) e13
        replace e18 := hE.eval 18 (by rfl) e18
        replace k := k.env hE
        clear hE e156
        refine then_n ?_
        refine ⟨⟨k, e9, e10, e11, e13, e18, i + 1, e20, by omega, O⟩, ?_⟩
        rw [e20, mi]; simp only [intOf]; omega
    · skip
      clear mi
      refine wp_seq ?_
      refine wp_seq ?_
      refine wp_region_lit ?_
      have hE := Env.refl a88 [92, 93, 94]
      apply sq_det 92 hE k rfl (by rfl) (by rfl) rfl
      case h =>
        exact x_move rfl (hE.eval 20 (by rfl) e20)
      intro a120 hE e92 kp
      apply sq_det 93 hE k rfl (by rfl) (by rfl) rfl
      case h =>
        exact x_move rfl (hE.eval 10 (by rfl) e10)
      intro a121 hE e93 kp
      replace e92 := (kp 92 rfl).trans e92
      apply sq_det 94 hE k rfl (by rfl) (by rfl) rfl
      case h =>
        exact x_dec (x_lss rfl e92 e93) (decide_eq_false (by omega))
      intro a122 hE e94 kp
      refine wpList_nil ?_
      replace e9 := hE.eval 9 (by rfl) e9
      replace e10 := hE.eval 10 (by rfl) e10
      replace e11 := hE.eval 11 (by rfl) e11
      replace e13 := hE.eval 13 (by rfl) e13
      replace e18 := hE.eval 18 (by rfl) e18
      replace e20 := hE.eval 20 (by rfl) e20
      replace k := k.env hE
      clear hE
      refine then_n ?_
      refine cond_f e94 rfl ?_
      refine wp_exit ?_
      refine then_x ?_
      refine then_x ?_
      refine block_x ?_
      refine then_n ?_
      refine wp_seq ?_
      refine wp_seq ?_
      refine wp_region_lit ?_
      have hE := Env.refl a122 [24]
      apply sq_det 24 hE k rfl (by rfl) (by rfl) rfl
      case h =>
        exact x_assign rfl rfl
      intro a123 hE e24 kp
      refine wpList_nil ?_
      replace e9 := hE.eval 9 (by rfl) e9
      replace e10 := hE.eval 10 (by rfl) e10
      replace e11 := hE.eval 11 (by rfl) e11
      replace e13 := hE.eval 13 (by rfl) e13
      replace e18 := hE.eval 18 (by rfl) e18
      replace k := k.env hE
      clear hE e20 e94
      refine then_n ?_
      refine wp_block ?_
      refine wp_loop (fun a w => Fr 205 a ∧ a.eval (.tmp 9) = .pointer (some ⟨sb, 0, none⟩) ∧ a.eval (.tmp 10) = .int .i64 ↑kk ∧ a.eval (.tmp 13) = .int .i64 ↑bz ∧ a.eval (.tmp 18) = .slice (some ⟨gl, 0, none⟩) P.length cl ∧ ∃ (i rt : Nat) (N : List Nd) (B : Option Addr) (cap : Nat) (vs : List Value), a.eval (.tmp 11) = .int .i64 ↑rt ∧ a.eval (.tmp 24) = .int .i64 ↑i ∧ i ≤ 41 ∧ N.length ≤ 5 * kk + 2 * i ∧ Tre N rt (8 + kk) (lft bz i P) ∧ OwnT W0.heap.size W0 ((tBlk sb 28 #[.slice B N.length cap, .int .i64 511]) :: (tRow 125 2 (.slice B N.length cap) N.length (leafV vs N)) :: (tPool vs N) :: (tPs (.slice (some ⟨gl, 0, none⟩) P.length cl) P) :: []) w) (fun a w => 41 - (intOf (a.eval (.tmp 24))).toNat) ?_ ?_
      · exact ⟨k, e9, e10, e13, e18, 0, rt, N, B, cap, vs, e11, e24, Nat.zero_le _, by omega, by rw [lft_zero]; exact hT, O⟩
      intro a124 w125 hI
      clear k e9 e10 e13 e18
      obtain ⟨k, e9, e10, e13, e18, h_⟩ := hI
      clear O e11 e24 hT hN
      obtain ⟨i, rt, N, B, cap, vs, e11, e24, hi, hN, hT, O⟩ := h_
      have mi := e24
      by_cases hlt : i < 41
      · have hltI : (i : Int) < 41 := by omega
        obtain ⟨x, hx⟩ : ∃ z, bz * i % 41 = z := ⟨_, rfl⟩
        have hx41 : x < 41 := by omega
        have hbi : bz * i ≤ 40 * 40 := Nat.mul_le_mul (by omega) (by omega)
        have hls := lft_look (P := P) bbz hlt hx
        
        refine wp_seq ?_
        refine wp_seq ?_
        refine wp_region_lit ?_
        have hE := Env.refl a124 [157, 158]
        apply sq_det 157 hE k rfl (by rfl) (by rfl) rfl
        case h =>
          exact x_move rfl (hE.eval 24 (by rfl) e24)
        intro a126 hE e157 kp
        apply sq_det 158 hE k rfl (by rfl) (by rfl) rfl
        case h =>
          exact x_dec (x_lss rfl e157 rfl) (decide_eq_true (by omega))
        intro a127 hE e158 kp
        refine wpList_nil ?_
        replace e9 := hE.eval 9 (by rfl) e9
        replace e10 := hE.eval 10 (by rfl) e10
        replace e11 := hE.eval 11 (by rfl) e11
        replace e13 := hE.eval 13 (by rfl) e13
        replace e18 := hE.eval 18 (by rfl) e18
        replace e24 := hE.eval 24 (by rfl) e24
        replace k := k.env hE
        clear hE
        refine then_n ?_
        refine cond_t e158 rfl ?_
        refine wp_skip ?_
        refine then_n ?_
        refine wp_seq ?_
        refine wp_block ?_
        refine wp_seq ?_
        refine wp_region_lit ?_
        have hE := Env.refl a127 [162, 163, 164, 165, 166, 167, 168, 169, 170, 161, 171, 172, 173, 25, 26, 27]
        apply sq_det 162 hE k rfl (by rfl) (by rfl) rfl
        case h =>
          exact x_move rfl (hE.eval 9 (by rfl) e9)
        intro a128 hE e162 kp
        apply sq_det 163 hE k rfl (by rfl) (by rfl) rfl
        case h =>
          simp [go_sem, ↓IntWalk.iteOmega, ev e162]
          with_reducible rfl
        intro a129 hE e163 kp
        apply sq_det 164 hE k rfl (by rfl) (by rfl) rfl
        case h =>
          exact x_move rfl (hE.eval 11 (by rfl) e11)
        intro a130 hE e164 kp
        replace e163 := (kp 163 rfl).trans e163
        apply sq_det 165 hE k rfl (by rfl) (by rfl) rfl
        case h =>
          exact x_move rfl (hE.eval 13 (by rfl) e13)
        intro a131 hE e165 kp
        replace e163 := (kp 163 rfl).trans e163
        replace e164 := (kp 164 rfl).trans e164
        apply sq_det 166 hE k rfl (by rfl) (by rfl) rfl
        case h =>
          exact x_move rfl (hE.eval 24 (by rfl) e24)
        intro a132 hE e166 kp
        replace e163 := (kp 163 rfl).trans e163
        replace e164 := (kp 164 rfl).trans e164
        replace e165 := (kp 165 rfl).trans e165
        apply sq_det 167 hE k rfl (by rfl) (by rfl) rfl
        case h =>
          exact x_val (v := .int .i64 ((bz * i : Nat) : Int)) (x_mul rfl e165 e166 (by rw [← Int.natCast_mul]; omega)) (int_eq (by rw [Int.natCast_mul]))
        intro a133 hE e167 kp
        replace e163 := (kp 163 rfl).trans e163
        replace e164 := (kp 164 rfl).trans e164
        apply sq_det 168 hE k rfl (by rfl) (by rfl) rfl
        case h =>
          exact x_remN (m := (bz * i)) (j := 41) rfl e167 rfl rfl (by decide)
        intro a134 hE e168 kp
        replace e163 := (kp 163 rfl).trans e163
        replace e164 := (kp 164 rfl).trans e164
        replace e168 := e168.trans (int_eq (show ((bz * i % 41 : Nat) : Int) = (x : Int) by rw [hx]))
        apply sq_det 169 hE k rfl (by rfl) (by rfl) rfl
        case h =>
          exact x_conv rfl e168 (conv_u64 x _ (by omega))
        intro a135 hE e169 kp
        replace e163 := (kp 163 rfl).trans e163
        replace e164 := (kp 164 rfl).trans e164
        apply sq_call 170 hE k rfl (by rfl) (by rfl) rfl
        case h =>
          simp [go_sem, ↓IntWalk.iteOmega, ev e163, ev e164, ev e169]
          with_reducible exact ⟨rfl, rfl⟩
        case hc => exact lDrop (R := _ :: []) (ky := x) _ O hT (by omega)
        clear O
        rintro e w137 ⟨N2, r2, ok, er, B2, cap2, vs2, rfl, O, hDL⟩
        refine ⟨_, rfl, ?_⟩
        intro a136 hE e170 kp
        apply sq_det 161 hE k rfl (by rfl) (by rfl) rfl
        case h =>
          exact x_move rfl e170
        intro a138 hE e161 kp
        apply sq_det 171 hE k rfl (by rfl) (by rfl) rfl
        case h =>
          simp [go_sem, ↓IntWalk.iteOmega, ev e161]
          with_reducible rfl
        intro a139 hE e171 kp
        replace e161 := (kp 161 rfl).trans e161
        apply sq_det 172 hE k rfl (by rfl) (by rfl) rfl
        case h =>
          simp [go_sem, ↓IntWalk.iteOmega, ev e161]
          with_reducible rfl
        intro a140 hE e172 kp
        replace e161 := (kp 161 rfl).trans e161
        replace e171 := (kp 171 rfl).trans e171
        apply sq_det 173 hE k rfl (by rfl) (by rfl) rfl
        case h =>
          simp [go_sem, ↓IntWalk.iteOmega, ev e161]
          with_reducible rfl
        intro a141 hE e173 kp
        replace e171 := (kp 171 rfl).trans e171
        replace e172 := (kp 172 rfl).trans e172
        apply sq_det 25 hE k rfl (by rfl) (by rfl) rfl
        case h =>
          exact x_assign rfl e171
        intro a142 hE e25 kp
        replace e172 := (kp 172 rfl).trans e172
        replace e173 := (kp 173 rfl).trans e173
        apply sq_det 26 hE k rfl (by rfl) (by rfl) rfl
        case h =>
          exact x_assign rfl e172
        intro a143 hE e26 kp
        replace e173 := (kp 173 rfl).trans e173
        replace e25 := (kp 25 rfl).trans e25
        apply sq_det 27 hE k rfl (by rfl) (by rfl) rfl
        case h =>
          exact x_assign rfl e173
        intro a144 hE e27 kp
        replace e25 := (kp 25 rfl).trans e25
        replace e26 := (kp 26 rfl).trans e26
        refine wpList_nil ?_
        replace e9 := hE.eval 9 (by rfl) e9
        replace e10 := hE.eval 10 (by rfl) e10
        replace e13 := hE.eval 13 (by rfl) e13
        replace e18 := hE.eval 18 (by rfl) e18
        replace e24 := hE.eval 24 (by rfl) e24
        replace k := k.env hE
        clear hE e11 e158
        refine then_n ?_
        obtain ⟨⟨M, rfl, hM⟩, hDL⟩ := hDL
        have hD2 : (er = 6) ∨ (er = 0 ∧ ok = (P.any fun y => decide (y.1 = x)) ∧ ∃ r : Nat, r2 = r ∧ Tre (N ++ M) r (8 + kk) (lft bz (i + 1) P)) := by
          rcases hDL with ⟨h1, h2, h3, h4, h5⟩ | ⟨h1, _⟩ | ⟨h1, h2, h3, r, h4, h5⟩
          · refine .inr ⟨h1, ?_, rt, h3, ?_⟩
            · rw [h2, ← hls, h5]; rfl
            · rw [lft_succ, hx, del_none h5]; exact hT.mono M
          · exact .inl h1
          · refine .inr ⟨h1, ?_, r, h4, ?_⟩
            · rw [h2, ← hls, h3]
            · rw [lft_succ, hx]; exact h5
        clear hDL
        rcases hD2 with rfl | ⟨rfl, hok, r, rfl, hT2⟩
        
        · skip
          refine wp_seq ?_
          refine wp_seq ?_
          refine wp_region_lit ?_
          have hE := Env.refl a144 [174, 175]
          apply sq_det 174 hE k rfl (by rfl) (by rfl) rfl
          case h =>
            exact x_move rfl (hE.eval 27 (by rfl) e27)
          intro a145 hE e174 kp
          apply sq_det 175 hE k rfl (by rfl) (by rfl) rfl
          case h =>
            exact x_eql rfl e174 rfl
          intro a146 hE e175 kp
          refine wpList_nil ?_
          replace e9 := hE.eval 9 (by rfl) e9
          replace e10 := hE.eval 10 (by rfl) e10
          replace e13 := hE.eval 13 (by rfl) e13
          replace e18 := hE.eval 18 (by rfl) e18
          replace e24 := hE.eval 24 (by rfl) e24
          replace e25 := hE.eval 25 (by rfl) e25
          replace e26 := hE.eval 26 (by rfl) e26
          replace e27 := hE.eval 27 (by rfl) e27
          replace k := k.env hE
          clear hE
          refine then_n ?_
          refine cond_t e175 rfl ?_
          refine wp_seq ?_
          refine wp_region_lit ?_
          have hE := Env.refl a146 [8]
          apply sq_det 8 hE k rfl (by rfl) (by rfl) rfl
          case h =>
            exact x_assign rfl rfl
          intro a147 hE e8 kp
          refine wpList_nil ?_
          replace k := k.env hE
          clear hE e9 e10 e13 e18 e24 e25 e26 e27 e175
          refine then_n ?_
          refine wp_ret ?_
          refine then_r ?_
          refine block_r ?_
          refine then_r ?_
          refine then_r ?_
          refine block_r ?_
          refine then_r ?_
          refine ret_F1 rfl k e8 ?_
          exact ⟨rfl, O.below⟩
        · skip
          refine wp_seq ?_
          refine wp_seq ?_
          refine wp_region_lit ?_
          have hE := Env.refl a144 [174, 175]
          apply sq_det 174 hE k rfl (by rfl) (by rfl) rfl
          case h =>
            exact x_move rfl (hE.eval 27 (by rfl) e27)
          intro a148 hE e174 kp
          apply sq_det 175 hE k rfl (by rfl) (by rfl) rfl
          case h =>
            exact x_dec (x_eql rfl e174 rfl) (decide_eq_false (by omega))
          intro a149 hE e175 kp
          refine wpList_nil ?_
          replace e9 := hE.eval 9 (by rfl) e9
          replace e10 := hE.eval 10 (by rfl) e10
          replace e13 := hE.eval 13 (by rfl) e13
          replace e18 := hE.eval 18 (by rfl) e18
          replace e24 := hE.eval 24 (by rfl) e24
          replace e25 := hE.eval 25 (by rfl) e25
          replace e26 := hE.eval 26 (by rfl) e26
          replace e27 := hE.eval 27 (by rfl) e27
          replace k := k.env hE
          clear hE
          refine then_n ?_
          refine cond_f e175 rfl ?_
          refine wp_skip ?_
          refine then_n ?_
          refine wp_seq ?_
          refine wp_region_lit ?_
          have hE := Env.refl a149 [28]
          apply sq_det 28 hE k rfl (by rfl) (by rfl) rfl
          case h =>
            exact x_assign rfl rfl
          intro a150 hE e28 kp
          refine wpList_nil ?_
          replace e9 := hE.eval 9 (by rfl) e9
          replace e10 := hE.eval 10 (by rfl) e10
          replace e13 := hE.eval 13 (by rfl) e13
          replace e18 := hE.eval 18 (by rfl) e18
          replace e24 := hE.eval 24 (by rfl) e24
          replace e25 := hE.eval 25 (by rfl) e25
          replace e26 := hE.eval 26 (by rfl) e26
          replace e27 := hE.eval 27 (by rfl) e27
          replace k := k.env hE
          clear hE e175
          refine then_n ?_
          refine wp_seq ?_
          refine wp_seq ?_
          refine wp_region_lit ?_
          have hE := Env.refl a150 [29]
          apply sq_det 29 hE k rfl (by rfl) (by rfl) rfl
          case h =>
            exact x_assign rfl rfl
          intro a151 hE e29 kp
          refine wpList_nil ?_
          replace e9 := hE.eval 9 (by rfl) e9
          replace e10 := hE.eval 10 (by rfl) e10
          replace e13 := hE.eval 13 (by rfl) e13
          replace e18 := hE.eval 18 (by rfl) e18
          replace e24 := hE.eval 24 (by rfl) e24
          replace e25 := hE.eval 25 (by rfl) e25
          replace e26 := hE.eval 26 (by rfl) e26
          replace e27 := hE.eval 27 (by rfl) e27
          replace e28 := hE.eval 28 (by rfl) e28
          replace k := k.env hE
          clear hE
          refine then_n ?_
          refine wp_block ?_
          refine wp_loop (fun a w => Fr 205 a ∧ a.eval (.tmp 9) = .pointer (some ⟨sb, 0, none⟩) ∧ a.eval (.tmp 10) = .int .i64 ↑kk ∧ a.eval (.tmp 13) = .int .i64 ↑bz ∧ a.eval (.tmp 18) = .slice (some ⟨gl, 0, none⟩) P.length cl ∧ a.eval (.tmp 24) = .int .i64 ↑i ∧ a.eval (.tmp 25) = .int .i64 ↑r ∧ a.eval (.tmp 26) = .bool ok ∧ a.eval (.tmp 27) = .int .i64 0 ∧ ∃ (j : Nat) (has : Bool), a.eval (.tmp 28) = .bool has ∧ a.eval (.tmp 29) = .int .i64 ↑j ∧ j ≤ kk ∧ has = ((P.take j).any fun y => decide (y.1 = x)) ∧ OwnT W0.heap.size W0 ((tBlk sb 28 #[.slice B2 (((N ++ M)).length) cap2, .int .i64 511]) :: (tRow 125 2 (.slice B2 ((N ++ M)).length cap2) ((N ++ M)).length (leafV vs2 ((N ++ M)))) :: (tPool vs2 ((N ++ M))) :: (tPs (.slice (some ⟨gl, 0, none⟩) P.length cl) P) :: []) w) (fun a w => kk - (intOf (a.eval (.tmp 29))).toNat) ?_ ?_
          · exact ⟨k, e9, e10, e13, e18, e24, e25, e26, e27, 0, false, e28, e29, Nat.zero_le _, rfl, O⟩
          intro a152 w153 hI
          clear k e9 e10 e13 e18 e24 e25 e26 e27
          obtain ⟨k, e9, e10, e13, e18, e24, e25, e26, e27, h_⟩ := hI
          clear O e28 e29
          obtain ⟨j, has, e28, e29, hj, hhas, O⟩ := h_
          have mj := e29
          by_cases hltj : j < kk
          · have hltjI : (j : Int) < (P.length : Int) := by omega
            obtain ⟨y, hy⟩ : ∃ y, P[j]? = some y := ⟨_, List.getElem?_eq_getElem (by omega)⟩
            have htk := any_take (p := fun y => decide (y.1 = x)) hy
            rw [← hhas] at htk
            obtain ⟨-, _, e, c0, c1⟩ := ps_cells (OwnT.get O 3 rfl : (tPs (.slice (some ⟨gl, 0, none⟩) P.length cl) P).holds _) hy; injection e with e; injection e with e; subst e
            refine wp_seq ?_
            refine wp_seq ?_
            refine wp_region_lit ?_
            have hE := Env.refl a152 [176, 177, 178]
            apply sq_det 176 hE k rfl (by rfl) (by rfl) rfl
            case h =>
              exact x_move rfl (hE.eval 29 (by rfl) e29)
            intro a154 hE e176 kp
            apply sq_det 177 hE k rfl (by rfl) (by rfl) rfl
            case h =>
              exact x_move rfl (hE.eval 10 (by rfl) e10)
            intro a155 hE e177 kp
            replace e176 := (kp 176 rfl).trans e176
            apply sq_det 178 hE k rfl (by rfl) (by rfl) rfl
            case h =>
              exact x_dec (x_lss rfl e176 e177) (decide_eq_true (by omega))
            intro a156 hE e178 kp
            refine wpList_nil ?_
            replace e9 := hE.eval 9 (by rfl) e9
            replace e10 := hE.eval 10 (by rfl) e10
            replace e13 := hE.eval 13 (by rfl) e13
            replace e18 := hE.eval 18 (by rfl) e18
            replace e24 := hE.eval 24 (by rfl) e24
            replace e25 := hE.eval 25 (by rfl) e25
            replace e26 := hE.eval 26 (by rfl) e26
            replace e27 := hE.eval 27 (by rfl) e27
            replace e28 := hE.eval 28 (by rfl) e28
            replace e29 := hE.eval 29 (by rfl) e29
            replace k := k.env hE
            clear hE
            refine then_n ?_
            refine cond_t e178 rfl ?_
            refine wp_skip ?_
            refine then_n ?_
            refine wp_seq ?_
            refine wp_block ?_
            cases has with
            | true =>
              refine wp_region_lit ?_
              have hE := Env.refl a156 [181, 182, 183, 184, 185, 186, 187, 188, 189, 190, 191, 192, 193, 194, 28]
              apply sq_det 181 hE k rfl (by rfl) (by rfl) rfl
              case h =>
                exact x_move rfl e28
              intro a157 hE e181 kp
              replace e28 := (kp 28 rfl).trans e28
              apply sq_det 182 hE k rfl (by rfl) (by rfl) rfl
              case h =>
                exact x_move rfl e181
              intro a158 hE e182 kp
              replace e28 := (kp 28 rfl).trans e28
              refine sq_skipg 183 hE k rfl (by rfl) (by rfl) rfl rfl (.inl e182) ?_
              intro a159 hE e183 kp
              replace e28 := (kp 28 rfl).trans e28
              replace e182 := (kp 182 rfl).trans e182
              refine sq_skipg 184 hE k rfl (by rfl) (by rfl) rfl rfl (.inl e182) ?_
              intro a160 hE e184 kp
              replace e28 := (kp 28 rfl).trans e28
              replace e182 := (kp 182 rfl).trans e182
              replace e183 := (kp 183 rfl).trans e183
              refine sq_skipg 185 hE k rfl (by rfl) (by rfl) rfl rfl (.inl e182) ?_
              intro a161 hE e185 kp
              replace e28 := (kp 28 rfl).trans e28
              replace e182 := (kp 182 rfl).trans e182
              refine sq_skipg 186 hE k rfl (by rfl) (by rfl) rfl rfl (.inl e182) ?_
              intro a162 hE e186 kp
              replace e28 := (kp 28 rfl).trans e28
              replace e182 := (kp 182 rfl).trans e182
              refine sq_skipg 187 hE k rfl (by rfl) (by rfl) rfl rfl (.inl e182) ?_
              intro a163 hE e187 kp
              replace e28 := (kp 28 rfl).trans e28
              replace e182 := (kp 182 rfl).trans e182
              refine sq_skipg 188 hE k rfl (by rfl) (by rfl) rfl rfl (.inl e182) ?_
              intro a164 hE e188 kp
              replace e28 := (kp 28 rfl).trans e28
              replace e182 := (kp 182 rfl).trans e182
              replace e187 := (kp 187 rfl).trans e187
              refine sq_skipg 189 hE k rfl (by rfl) (by rfl) rfl rfl (.inl e182) ?_
              intro a165 hE e189 kp
              replace e28 := (kp 28 rfl).trans e28
              replace e182 := (kp 182 rfl).trans e182
              replace e187 := (kp 187 rfl).trans e187
              replace e188 := (kp 188 rfl).trans e188
              refine sq_skipg 190 hE k rfl (by rfl) (by rfl) rfl rfl (.inl e182) ?_
              intro a166 hE e190 kp
              replace e28 := (kp 28 rfl).trans e28
              replace e182 := (kp 182 rfl).trans e182
              replace e187 := (kp 187 rfl).trans e187
              refine sq_skipg 191 hE k rfl (by rfl) (by rfl) rfl rfl (.inl e182) ?_
              intro a167 hE e191 kp
              replace e28 := (kp 28 rfl).trans e28
              replace e182 := (kp 182 rfl).trans e182
              replace e187 := (kp 187 rfl).trans e187
              refine sq_skipg 192 hE k rfl (by rfl) (by rfl) rfl rfl (.inl e182) ?_
              intro a168 hE e192 kp
              replace e28 := (kp 28 rfl).trans e28
              replace e182 := (kp 182 rfl).trans e182
              replace e187 := (kp 187 rfl).trans e187
              refine sq_skipg 193 hE k rfl (by rfl) (by rfl) rfl rfl (.inl e182) ?_
              intro a169 hE e193 kp
              replace e28 := (kp 28 rfl).trans e28
              replace e182 := (kp 182 rfl).trans e182
              apply sq_det 194 hE k rfl (by rfl) (by rfl) rfl
              case h =>
                exact x_pick_t rfl e182 rfl
              intro a170 hE e194 kp
              replace e28 := (kp 28 rfl).trans e28
              apply sq_det 28 hE k rfl (by rfl) (by rfl) rfl
              case h =>
                exact x_assign rfl e194
              intro a171 hE e28 kp
              refine wpList_nil ?_
              replace e9 := hE.eval 9 (by rfl) e9
              replace e10 := hE.eval 10 (by rfl) e10
              replace e13 := hE.eval 13 (by rfl) e13
              replace e18 := hE.eval 18 (by rfl) e18
              replace e24 := hE.eval 24 (by rfl) e24
              replace e25 := hE.eval 25 (by rfl) e25
              replace e26 := hE.eval 26 (by rfl) e26
              replace e27 := hE.eval 27 (by rfl) e27
              replace e29 := hE.eval 29 (by rfl) e29
              replace k := k.env hE
              clear hE e178
              refine block_n ?_
              refine then_n ?_
              refine wp_region_lit ?_
              have hE := Env.refl a171 [179, 180, 29]
              apply sq_det 179 hE k rfl (by rfl) (by rfl) rfl
              case h =>
                exact x_move rfl e29
              intro a172 hE e179 kp
              replace e29 := (kp 29 rfl).trans e29
              apply sq_det 180 hE k rfl (by rfl) (by rfl) rfl
              case h =>
                exact x_add rfl e179 rfl (by omega)
              intro a173 hE e180 kp
              replace e29 := (kp 29 rfl).trans e29
              apply sq_det 29 hE k rfl (by rfl) (by rfl) rfl
              case h =>
                exact x_assign rfl e180
              intro a174 hE e29 kp
              refine wpList_nil ?_
              replace e9 := hE.eval 9 (by rfl) e9
              replace e10 := hE.eval 10 (by rfl) e10
              replace e13 := hE.eval 13 (by rfl) e13
              replace e18 := hE.eval 18 (by rfl) e18
              replace e24 := hE.eval 24 (by rfl) e24
              replace e25 := hE.eval 25 (by rfl) e25
              replace e26 := hE.eval 26 (by rfl) e26
              replace e27 := hE.eval 27 (by rfl) e27
              replace e28 := hE.eval 28 (by rfl) e28
              replace k := k.env hE
              clear hE
              refine then_n ?_
              refine ⟨⟨k, e9, e10, e13, e18, e24, e25, e26, e27, j + 1, _, e28, e29, by omega, by rw [htk]; rfl, O⟩, ?_⟩
              rw [e29, mj]; simp only [intOf]; omega
            | false =>
              refine wp_region_lit ?_
              have hE := Env.refl a156 [181, 182, 183, 184, 185, 186, 187, 188, 189, 190, 191, 192, 193, 194, 28]
              apply sq_det 181 hE k rfl (by rfl) (by rfl) rfl
              case h =>
                exact x_move rfl e28
              intro a175 hE e181 kp
              replace e28 := (kp 28 rfl).trans e28
              apply sq_det 182 hE k rfl (by rfl) (by rfl) rfl
              case h =>
                exact x_move rfl e181
              intro a176 hE e182 kp
              replace e28 := (kp 28 rfl).trans e28
              apply sq_detg 183 hE k rfl (by rfl) (by rfl) rfl rfl e182
              case h =>
                exact x_move rfl (hE.eval 18 (by rfl) e18)
              intro a177 hE e183 kp
              replace e28 := (kp 28 rfl).trans e28
              replace e182 := (kp 182 rfl).trans e182
              apply sq_detg 184 hE k rfl (by rfl) (by rfl) rfl rfl e182
              case h =>
                exact x_move rfl (hE.eval 29 (by rfl) e29)
              intro a178 hE e184 kp
              replace e28 := (kp 28 rfl).trans e28
              replace e182 := (kp 182 rfl).trans e182
              replace e183 := (kp 183 rfl).trans e183
              apply sq_detg 185 hE k rfl (by rfl) (by rfl) rfl rfl e182
              case h =>
                simp [go_sem, ↓IntWalk.iteOmega, ev e183, ev e184]
                with_reducible rfl
              intro a179 hE e185 kp
              replace e28 := (kp 28 rfl).trans e28
              replace e182 := (kp 182 rfl).trans e182
              apply sq_detg 186 hE k rfl (by rfl) (by rfl) rfl rfl e182
              case h =>
                simp [go_sem, ↓IntWalk.iteOmega, ev e185]
                with_reducible rfl
              intro a180 hE e186 kp
              replace e28 := (kp 28 rfl).trans e28
              replace e182 := (kp 182 rfl).trans e182
              apply sq_detg 187 hE k rfl (by rfl) (by rfl) rfl rfl e182
              case h =>
                simp [go_sem, ↓IntWalk.iteOmega, ev e186, c0]
                with_reducible rfl
              intro a181 hE e187 kp
              replace e28 := (kp 28 rfl).trans e28
              replace e182 := (kp 182 rfl).trans e182
              apply sq_detg 188 hE k rfl (by rfl) (by rfl) rfl rfl e182
              case h =>
                exact x_move rfl (hE.eval 13 (by rfl) e13)
              intro a182 hE e188 kp
              replace e28 := (kp 28 rfl).trans e28
              replace e182 := (kp 182 rfl).trans e182
              replace e187 := (kp 187 rfl).trans e187
              apply sq_detg 189 hE k rfl (by rfl) (by rfl) rfl rfl e182
              case h =>
                exact x_move rfl (hE.eval 24 (by rfl) e24)
              intro a183 hE e189 kp
              replace e28 := (kp 28 rfl).trans e28
              replace e182 := (kp 182 rfl).trans e182
              replace e187 := (kp 187 rfl).trans e187
              replace e188 := (kp 188 rfl).trans e188
              apply sq_detg 190 hE k rfl (by rfl) (by rfl) rfl rfl e182
              case h =>
                exact x_val (v := .int .i64 ((bz * i : Nat) : Int)) (x_mul rfl e188 e189 (by rw [← Int.natCast_mul]; omega)) (int_eq (by rw [Int.natCast_mul]))
              intro a184 hE e190 kp
              replace e28 := (kp 28 rfl).trans e28
              replace e182 := (kp 182 rfl).trans e182
              replace e187 := (kp 187 rfl).trans e187
              apply sq_detg 191 hE k rfl (by rfl) (by rfl) rfl rfl e182
              case h =>
                exact x_remN (m := (bz * i)) (j := 41) rfl e190 rfl rfl (by decide)
              intro a185 hE e191 kp
              replace e28 := (kp 28 rfl).trans e28
              replace e182 := (kp 182 rfl).trans e182
              replace e187 := (kp 187 rfl).trans e187
              replace e191 := e191.trans (int_eq (show ((bz * i % 41 : Nat) : Int) = (x : Int) by rw [hx]))
              apply sq_detg 192 hE k rfl (by rfl) (by rfl) rfl rfl e182
              case h =>
                exact x_conv rfl e191 (conv_u64 x _ (by omega))
              intro a186 hE e192 kp
              replace e28 := (kp 28 rfl).trans e28
              replace e182 := (kp 182 rfl).trans e182
              replace e187 := (kp 187 rfl).trans e187
              apply sq_detg 193 hE k rfl (by rfl) (by rfl) rfl rfl e182
              case h =>
                exact x_eql rfl e187 e192
              intro a187 hE e193 kp
              replace e28 := (kp 28 rfl).trans e28
              replace e182 := (kp 182 rfl).trans e182
              replace e193 := e193.trans (congrArg Value.bool (show decide ((y.1 : Int) = (x : Int)) = decide (y.1 = x) by rw [decide_eq_decide]; omega))
              apply sq_det 194 hE k rfl (by rfl) (by rfl) rfl
              case h =>
                exact x_pick_f rfl e182 e193
              intro a188 hE e194 kp
              replace e28 := (kp 28 rfl).trans e28
              apply sq_det 28 hE k rfl (by rfl) (by rfl) rfl
              case h =>
                exact x_assign rfl e194
              intro a189 hE e28 kp
              refine wpList_nil ?_
              replace e9 := hE.eval 9 (by rfl) e9
              replace e10 := hE.eval 10 (by rfl) e10
              replace e13 := hE.eval 13 (by rfl) e13
              replace e18 := hE.eval 18 (by rfl) e18
              replace e24 := hE.eval 24 (by rfl) e24
              replace e25 := hE.eval 25 (by rfl) e25
              replace e26 := hE.eval 26 (by rfl) e26
              replace e27 := hE.eval 27 (by rfl) e27
              replace e29 := hE.eval 29 (by rfl) e29
              replace k := k.env hE
              clear hE e178
              refine block_n ?_
              refine then_n ?_
              refine wp_region_lit ?_
              have hE := Env.refl a189 [179, 180, 29]
              apply sq_det 179 hE k rfl (by rfl) (by rfl) rfl
              case h =>
                exact x_move rfl e29
              intro a190 hE e179 kp
              replace e29 := (kp 29 rfl).trans e29
              apply sq_det 180 hE k rfl (by rfl) (by rfl) rfl
              case h =>
                exact x_add rfl e179 rfl (by omega)
              intro a191 hE e180 kp
              replace e29 := (kp 29 rfl).trans e29
              apply sq_det 29 hE k rfl (by rfl) (by rfl) rfl
              case h =>
                exact x_assign rfl e180
              intro a192 hE e29 kp
              refine wpList_nil ?_
              replace e9 := hE.eval 9 (by rfl) e9
              replace e10 := hE.eval 10 (by rfl) e10
              replace e13 := hE.eval 13 (by rfl) e13
              replace e18 := hE.eval 18 (by rfl) e18
              replace e24 := hE.eval 24 (by rfl) e24
              replace e25 := hE.eval 25 (by rfl) e25
              replace e26 := hE.eval 26 (by rfl) e26
              replace e27 := hE.eval 27 (by rfl) e27
              replace e28 := hE.eval 28 (by rfl) e28
              replace k := k.env hE
              clear hE
              refine then_n ?_
              refine ⟨⟨k, e9, e10, e13, e18, e24, e25, e26, e27, j + 1, _, e28, e29, by omega, by rw [htk]; rfl, O⟩, ?_⟩
              rw [e29, mj]; simp only [intOf]; omega
          · skip
            have hjk : j = P.length := by omega
            rw [hjk, List.take_length] at hhas
            have hoh : ok = has := by rw [hok, hhas]
            clear mj
            subst hoh
            refine wp_seq ?_
            refine wp_seq ?_
            refine wp_region_lit ?_
            have hE := Env.refl a152 [176, 177, 178]
            apply sq_det 176 hE k rfl (by rfl) (by rfl) rfl
            case h =>
              exact x_move rfl (hE.eval 29 (by rfl) e29)
            intro a193 hE e176 kp
            apply sq_det 177 hE k rfl (by rfl) (by rfl) rfl
            case h =>
              exact x_move rfl (hE.eval 10 (by rfl) e10)
            intro a194 hE e177 kp
            replace e176 := (kp 176 rfl).trans e176
            apply sq_det 178 hE k rfl (by rfl) (by rfl) rfl
            case h =>
              exact x_dec (x_lss rfl e176 e177) (decide_eq_false (by omega))
            intro a195 hE e178 kp
            refine wpList_nil ?_
            replace e9 := hE.eval 9 (by rfl) e9
            replace e10 := hE.eval 10 (by rfl) e10
            replace e13 := hE.eval 13 (by rfl) e13
            replace e18 := hE.eval 18 (by rfl) e18
            replace e24 := hE.eval 24 (by rfl) e24
            replace e25 := hE.eval 25 (by rfl) e25
            replace e26 := hE.eval 26 (by rfl) e26
            replace e27 := hE.eval 27 (by rfl) e27
            replace e28 := hE.eval 28 (by rfl) e28
            replace e29 := hE.eval 29 (by rfl) e29
            replace k := k.env hE
            clear hE
            refine then_n ?_
            refine cond_f e178 rfl ?_
            refine wp_exit ?_
            refine then_x ?_
            refine then_x ?_
            refine block_x ?_
            refine then_n ?_
            refine wp_seq ?_
            refine wp_seq ?_
            refine wp_region_lit ?_
            have hE := Env.refl a195 [195, 196, 197, 198, 199, 200, 201]
            apply sq_det 195 hE k rfl (by rfl) (by rfl) rfl
            case h =>
              exact x_move rfl (hE.eval 27 (by rfl) e27)
            intro a196 hE e195 kp
            apply sq_det 196 hE k rfl (by rfl) (by rfl) rfl
            case h =>
              exact x_neq rfl e195 rfl
            intro a197 hE e196 kp
            apply sq_det 197 hE k rfl (by rfl) (by rfl) rfl
            case h =>
              exact x_move rfl e196
            intro a198 hE e197 kp
            apply sq_detg 198 hE k rfl (by rfl) (by rfl) rfl rfl e197
            case h =>
              exact x_move rfl (hE.eval 26 (by rfl) e26)
            intro a199 hE e198 kp
            replace e197 := (kp 197 rfl).trans e197
            apply sq_detg 199 hE k rfl (by rfl) (by rfl) rfl rfl e197
            case h =>
              exact x_move rfl (hE.eval 28 (by rfl) e28)
            intro a200 hE e199 kp
            replace e197 := (kp 197 rfl).trans e197
            replace e198 := (kp 198 rfl).trans e198
            apply sq_detg 200 hE k rfl (by rfl) (by rfl) rfl rfl e197
            case h =>
              exact x_neB (c := false) rfl e198 e199 (by simp)
            intro a201 hE e200 kp
            replace e197 := (kp 197 rfl).trans e197
            apply sq_det 201 hE k rfl (by rfl) (by rfl) rfl
            case h =>
              exact x_pick_f rfl e197 e200
            intro a202 hE e201 kp
            refine wpList_nil ?_
            replace e9 := hE.eval 9 (by rfl) e9
            replace e10 := hE.eval 10 (by rfl) e10
            replace e13 := hE.eval 13 (by rfl) e13
            replace e18 := hE.eval 18 (by rfl) e18
            replace e24 := hE.eval 24 (by rfl) e24
            replace e25 := hE.eval 25 (by rfl) e25
            replace k := k.env hE
            clear hE e26 e27 e28 e29 e178
            refine then_n ?_
            refine cond_f e201 rfl ?_
            refine wp_skip ?_
            refine then_n ?_
            refine wp_region_lit ?_
            have hE := Env.refl a202 [202, 11]
            apply sq_det 202 hE k rfl (by rfl) (by rfl) rfl
            case h =>
              exact x_move rfl (hE.eval 25 (by rfl) e25)
            intro a203 hE e202 kp
            apply sq_det 11 hE k rfl (by rfl) (by rfl) rfl
            case h =>
              exact x_assign rfl e202
            intro a204 hE e11 kp
            refine wpList_nil ?_
            replace e9 := hE.eval 9 (by rfl) e9
            replace e10 := hE.eval 10 (by rfl) e10
            replace e13 := hE.eval 13 (by rfl) e13
            replace e18 := hE.eval 18 (by rfl) e18
            replace e24 := hE.eval 24 (by rfl) e24
            replace k := k.env hE
            clear hE e25 e201
            refine block_n ?_
            refine then_n ?_
            refine wp_region_lit ?_
            have hE := Env.refl a204 [159, 160, 24]
            apply sq_det 159 hE k rfl (by rfl) (by rfl) rfl
            case h =>
              exact x_move rfl e24
            intro a205 hE e159 kp
            replace e24 := (kp 24 rfl).trans e24
            apply sq_det 160 hE k rfl (by rfl) (by rfl) rfl
            case h =>
              exact x_add rfl e159 rfl (by omega)
            intro a206 hE e160 kp
            replace e24 := (kp 24 rfl).trans e24
            apply sq_det 24 hE k rfl (by rfl) (by rfl) rfl
            case h =>
              exact x_assign rfl e160
            intro a207 hE e24 kp
            refine wpList_nil ?_
            replace e9 := hE.eval 9 (by rfl) e9
            replace e10 := hE.eval 10 (by rfl) e10
            replace e11 := hE.eval 11 (by rfl) e11
            replace e13 := hE.eval 13 (by rfl) e13
            replace e18 := hE.eval 18 (by rfl) e18
            replace k := k.env hE
            clear hE
            refine then_n ?_
            refine ⟨⟨k, e9, e10, e13, e18, i + 1, r, N ++ M, B2, cap2, vs2, e11, e24, by omega, by rw [List.length_append]; omega, hT2, O⟩, ?_⟩
            rw [e24, mi]; simp only [intOf]; omega
      · skip
        obtain rfl : i = 41 := by omega
        rw [lft_all bbz hP40] at hT
        have hr0 : rt = 0 := by by_cases h : rt = 0; exact h; exact absurd rfl (hT.root1 h)
        subst hr0
        refine wp_seq ?_
        refine wp_seq ?_
        refine wp_region_lit ?_
        have hE := Env.refl a124 [157, 158]
        apply sq_det 157 hE k rfl (by rfl) (by rfl) rfl
        case h =>
          exact x_move rfl (hE.eval 24 (by rfl) e24)
        intro a208 hE e157 kp
        apply sq_det 158 hE k rfl (by rfl) (by rfl) rfl
        case h =>
          exact x_dec (x_lss rfl e157 rfl) (decide_eq_false (by omega))
        intro a209 hE e158 kp
        refine wpList_nil ?_
        replace e9 := hE.eval 9 (by rfl) e9
        replace e10 := hE.eval 10 (by rfl) e10
        replace e11 := hE.eval 11 (by rfl) e11
        replace e13 := hE.eval 13 (by rfl) e13
        replace e18 := hE.eval 18 (by rfl) e18
        replace e24 := hE.eval 24 (by rfl) e24
        replace k := k.env hE
        clear hE
        refine then_n ?_
        refine cond_f e158 rfl ?_
        refine wp_exit ?_
        refine then_x ?_
        refine then_x ?_
        refine block_x ?_
        refine then_n ?_
        refine wp_seq ?_
        refine wp_region_lit ?_
        have hE := Env.refl a209 [203, 204, 8]
        apply sq_det 203 hE k rfl (by rfl) (by rfl) rfl
        case h =>
          exact x_move rfl (hE.eval 11 (by rfl) e11)
        intro a210 hE e203 kp
        apply sq_det 204 hE k rfl (by rfl) (by rfl) rfl
        case h =>
          exact x_dec (x_eql rfl e203 rfl) (decide_eq_true (by omega))
        intro a211 hE e204 kp
        apply sq_det 8 hE k rfl (by rfl) (by rfl) rfl
        case h =>
          exact x_assign rfl e204
        intro a212 hE e8 kp
        refine wpList_nil ?_
        replace k := k.env hE
        clear hE e9 e10 e11 e13 e18 e24 e158
        refine then_n ?_
        refine wp_ret ?_
        refine ret_F1 rfl k e8 ?_
        exact ⟨rfl, O.below⟩
theorem treeOrder_walk (w : World) (v0 v1 v2 v3 : Value) (h0 : Arg Try.prog w 3 v0) (h1 : Arg Try.prog w 3 v1) (h2 : Arg Try.prog w 3 v2) (h3 : Arg Try.prog w 3 v3) :
    Calls Try.prog 5 #[v0, v1, v2, v3] w fun e w' => e = .returned (.bool true) ∧ Below w.heap.size w w' := by
  obtain ⟨x0, rfl, _⟩ := arg_int Try.underlying3 h0
  obtain ⟨x1, rfl, _⟩ := arg_int Try.underlying3 h1
  obtain ⟨x2, rfl, _⟩ := arg_int Try.underlying3 h2
  obtain ⟨x3, rfl, _⟩ := arg_int Try.underlying3 h3
  exact treeOrder_core x0 x1 x2 x3 w
end Go.Proofs.Ytngehbhhpkkijaa
