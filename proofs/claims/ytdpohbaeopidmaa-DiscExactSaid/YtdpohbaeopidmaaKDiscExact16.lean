/- disc's law: DiscFlushed (printed by XDiscFl.gen.py). -/
import Derived.Test.YtdpohbaeopidmaaKDiscExact15
namespace Go.Proofs.Ytdpohbaeopidmaa
set_option linter.unusedVariables false
set_option linter.unusedSimpArgs false
open Go.RowKit Go.Maps

theorem u8_at {w w' : World} {A : Option Addr} {xs : List UInt8} (h : Row1 w A u8V xs) (hb : Below w.heap.size w w') {i : Nat} {x : UInt8} (hx : xs[i]? = some x) : ∃ b o, A = some ⟨b, o, none⟩ ∧ w'.cell? ⟨b, o + i, none⟩ = some (.int .u8 (x.toNat : Int)) := by
  obtain ⟨hi, rfl⟩ := List.getElem?_eq_some_iff.1 hx
  obtain ⟨b, o, h1, _, h2⟩ := h.in_ hb hi
  exact ⟨b, o, h1, h2⟩
theorem u8_cell {w w' : World} {b o : Nat} {xs : List UInt8} (h : Row1 w (some ⟨b, o, none⟩) u8V xs) (hb : Below w.heap.size w w') {i : Nat} {x : UInt8} (hx : xs[i]? = some x) : w'.cell? ⟨b, o + i, none⟩ = some (.int .u8 (x.toNat : Int)) := by
  obtain ⟨b', o', h1, h2⟩ := u8_at h hb hx
  cases h1
  exact h2
theorem arg_u8s {w : World} {v : Value} (h : Arg Try.prog w 66 v) : ∃ A cap, ∃ xs : List UInt8, v = .slice A xs.length cap ∧ xs.length ≤ maxLen ∧ Row1 w A u8V xs := by
  obtain ⟨A, len, cap, xs, rfl, h1, h2, h3, h4, h5⟩ := arg_ints Try.underlying66 Try.underlying5 (by kernel_rfl) h
  refine ⟨A, cap, xs.map fun x => UInt8.ofNat x.toNat, by rw [List.length_map, h3], by rw [List.length_map]; omega, fun i x hx => ?_⟩
  rw [List.getElem?_map] at hx
  obtain ⟨y, hy, rfl⟩ := Option.map_eq_some_iff.1 hx
  obtain ⟨b, off, hA, hb, hc⟩ := h5 i y hy
  have := bounds_u8 (h4 y (List.mem_of_getElem? hy))
  refine ⟨b, off, hA, hb, ?_⟩
  rw [hc]
  have e : ((UInt8.ofNat y.toNat).toNat : Int) = y := by simp; omega
  simp only [u8V, e]
abbrev secB (b : UInt8) : Sec := List.replicate 16 b
theorem dwrite_one {M : Mn} {H : Nat} {A0 : World} {R : List Thing} {p mb n cap bm : Nat} {B : Option Addr} {S : List Sec} {L : Int → Option Sec} {c : Int} (i : Nat) (s : Sec) (w : World) (O : OwnT H A0 (tDisc p mb B n cap bm S L :: tMn mb M :: R) w) (hs : s.length = 16) (hi : i < n) (hM : M.Ok c) (hc : c ≤ 1000000000000) (hF : M.Free) :
    Calls Try.prog 36 #[.pointer (some ⟨p, 0, none⟩), .int .i64 i, .string (sB s)] w fun e w' => e = .returned (.int .i64 0) ∧ OwnT H A0 (tDisc p mb B n cap bm S (putS L i s) :: tMn mb M.use :: R) w' := by
  have e1 : s.length / 16 = 1 := by rw [hs]
  have h := dwrite_all i s w O (by omega) (by omega) (by rw [e1]; exact decide_eq_true (by omega)) hM hc hF
  rw [e1] at h
  have e2 : wrS s i L 1 = putS L i s := by
    unfold wrS wrS
    have e3 : secOf s 0 = s := by unfold secOf; rw [Nat.mul_zero, List.drop_zero, List.take_of_length_le (by omega)]
    rw [e3]
    congr 1
    all_goals omega
  rw [e2] at h
  exact h
/-- The first i are written. -/
def foL (xs : List UInt8) (i : Nat) : Int → Option Sec := fun z => if 0 ≤ z ∧ z < i then some (secB (xs.getD z.toNat 0)) else none
theorem foL_zero (xs : List UInt8) : foL xs 0 = fun _ => none := by funext z; unfold foL; rw [if_neg (by omega)]
theorem foL_succ {xs : List UInt8} {i : Nat} {x : UInt8} (hx : xs[i]? = some x) : putS (foL xs i) i (secB x) = foL xs (i + 1) := by
  funext z
  unfold putS foL
  by_cases e : z = (i : Int)
  · subst e
    rw [if_pos rfl, if_pos (by omega)]
    simp [List.getD, hx]
  · rw [if_neg e]
    by_cases h : 0 ≤ z ∧ z < i
    · rw [if_pos h, if_pos (by omega)]
    · rw [if_neg h, if_neg (by omega)]
abbrev flS (xs : List UInt8) : List Sec := nowL (List.replicate 40 zsec) (foL xs xs.length)
abbrev stS (xs ys : List UInt8) (q : List UInt8) : List Sec := setK q (foL ys ys.length) (looL 40 (foL ys ys.length)) 0 (flS xs)
theorem setK_or {q : List UInt8} {L : Int → Option Sec} {i : Nat} : ∀ (xs : List Int) (j : Nat) (S : List Sec), (∀ x ∈ xs, 0 ≤ x ∧ ∃ s, L x = some s) → i < S.length → (setK q L xs j S)[i]? = S[i]? ∨ ∃ s, L i = some s ∧ (setK q L xs j S)[i]? = some s
  | [], _, _, _, _ => .inl rfl
  | x :: r, j, S, h, hi => by
    unfold setK
    obtain ⟨h0, s, hs⟩ := h x (by simp)
    obtain ⟨x, rfl⟩ := Int.eq_ofNat_of_zero_le h0
    rcases setK_or r (j + 1) (if staysB q j then S.set (x : Int).toNat ((L x).getD []) else S) (fun y hy => h y (by simp [hy])) (by split <;> simpa using hi) with h1 | h1
    · rw [h1]
      split
      · by_cases e : x = i
        · subst e
          refine .inr ⟨s, hs, ?_⟩
          rw [hs, Int.toNat_natCast, List.getElem?_set_self hi]
          rfl
        · rw [Int.toNat_natCast, List.getElem?_set_ne e]
          exact .inl rfl
      · exact .inl rfl
    · exact .inr h1
theorem setK_empty (L : Int → Option Sec) : ∀ (xs : List Int) (j : Nat) (S : List Sec), setK [] L xs j S = S
  | [], _, _ => rfl
  | x :: r, j, S => by
    unfold setK
    rw [show staysB [] j = false from rfl, if_neg (by decide), setK_empty L r]
theorem readL_one {S : List Sec} {i : Nat} {s : Sec} (h : S[i]? = some s) : readL S (fun _ => none) i 1 = s := by
  show (nowAt S (fun _ => none) ((i + 0 : Nat) : Int) :: []).flatten = s
  simp [nowAt, List.getD, h]
theorem readL_all {S : List Sec} {n : Nat} (h : S.length = n) : readL S (fun _ => none) 0 n = S.flatten := by
  unfold readL
  congr 1
  rw [← h]
  have := nowL_none S
  unfold nowL at this
  simp only [Nat.zero_add]
  exact this
theorem looL_none (n : Nat) : looL n (fun _ => none) = [] := by
  unfold looL riseN
  rw [List.filter_eq_nil_iff]
  simp
theorem flS_at (xs : List UInt8) {i : Nat} (hi : i < 40) : (flS xs)[i]? = some (if i < xs.length then secB (xs.getD i 0) else secB 0) := by
  unfold flS
  rw [nowL_at (by simpa using hi)]
  congr 1
  unfold nowAt foL
  by_cases h : i < xs.length
  · rw [if_pos h, if_pos (by omega)]
    rfl
  · rw [if_neg h, if_neg (by omega)]
    simp only [Option.getD_none, Int.toNat_natCast, List.getD, List.getElem?_replicate, if_pos hi, Option.getD_some]
    rfl
theorem stS_at (xs ys q : List UInt8) {i : Nat} (hi : i < 40) : ∃ s, (stS xs ys q)[i]? = some s ∧ (s = (if i < xs.length then secB (xs.getD i 0) else secB 0) ∨ (q ≠ [] ∧ i < ys.length ∧ s = secB (ys.getD i 0))) := by
  by_cases hq : q = []
  · subst hq
    refine ⟨_, ?_, .inl rfl⟩
    unfold stS
    rw [setK_empty, flS_at xs hi]
  · rcases setK_or (q := q) (i := i) (looL 40 (foL ys ys.length)) 0 (flS xs) (fun x hx => by
      have := mem_riseN.1 hx
      exact ⟨this.1.1, Option.isSome_iff_exists.1 this.2⟩) (by unfold flS; rw [nowL_len]; simpa using hi) with h | ⟨s, h1, h2⟩
    · exact ⟨_, h.trans (flS_at xs hi), .inl rfl⟩
    · unfold foL at h1
      split at h1
      · rename_i h3
        injection h1 with h1
        exact ⟨s, h2, .inr ⟨hq, by omega, h1.symm⟩⟩
      · cases h1

set_option maxRecDepth 100000 in
set_option maxHeartbeats 4000000 in
theorem discFlushed_core (A1 A2 : Option Addr) (c1 c2 : Nat) (xs ys q : List UInt8) (W0 : World) (r1 : Row1 W0 A1 u8V xs) (r2 : Row1 W0 A2 u8V ys) : Calls Try.prog 7 #[.slice A1 xs.length c1, .slice A2 ys.length c2, .string (sB q)] W0 fun e w' => e = .returned (.bool true) ∧ Below W0.heap.size W0 w' := by
  have O := OwnT.start W0
  refine calls_F Try.func7 rfl 164 rfl (by rfl) ?_
  intro a1 k hargs
  have e0 : a1.eval (.tmp 0) = .slice A1 xs.length c1 := hargs 0 _ rfl
  have e1 : a1.eval (.tmp 1) = .slice A2 ys.length c2 := hargs 1 _ rfl
  have e2 : a1.eval (.tmp 2) = .string (sB q) := hargs 2 _ rfl
  clear hargs
  refine wp_seq ?_
  refine wp_region_lit ?_   -- region 0
  have hE := Env.refl a1 [6]
  apply sq_det 6 hE k rfl (by rfl) (by rfl) rfl
  case h =>   -- 0: t6 := Op.assign (const (Value.bool false))
    exact x_assign rfl rfl
  intro a2 hE e6 kp
  refine wpList_nil ?_
  replace e0 := hE.eval 0 (by rfl) e0
  replace e1 := hE.eval 1 (by rfl) e1
  replace e2 := hE.eval 2 (by rfl) e2
  replace k := k.env hE
  clear hE e6
  refine then_n ?_
  refine wp_seq ?_
  refine wp_seq ?_
  refine wp_region_lit ?_   -- region 1
  have hE := Env.refl a2 [18, 19]
  apply sq_call 18 hE k rfl (by rfl) (by rfl) rfl
  case h =>   -- tierce/tiercelaw04.awake
    simp [go_sem, BigFrame.eval_const, BigFrame.eval_global, BigFrame.eval_func, ↓IntWalk.iteOmega]
    with_reducible exact ⟨rfl, rfl⟩
  case hc => exact awake4 _
  rintro e w4 ⟨rfl, R⟩
  replace O := OwnT.ext O R
  refine ⟨_, rfl, ?_⟩
  intro a3 hE e18 kp
  apply sq_det 19 hE k rfl (by rfl) (by rfl) rfl
  case h =>   -- 1: t19 := Op.unOp UnOp.not 4 (tmp 18)
    exact x_not rfl e18
  intro a5 hE e19 kp
  refine wpList_nil ?_
  replace e0 := hE.eval 0 (by rfl) e0
  replace e1 := hE.eval 1 (by rfl) e1
  replace e2 := hE.eval 2 (by rfl) e2
  replace k := k.env hE
  clear hE
  refine then_n ?_
  refine cond_f e19 rfl ?_
  refine wp_skip ?_
  refine then_n ?_
  by_cases hl0 : xs.length ≤ 40
  rotate_left
  · skip
    refine wp_seq ?_
    refine wp_seq ?_
    refine wp_region_lit ?_   -- region 3
    have hE := Env.refl a5 [20, 21, 22, 23, 24, 25, 26, 27, 28, 29, 30, 31, 32]
    apply sq_det 20 hE k rfl (by rfl) (by rfl) rfl
    case h =>   -- 0: t20 := Op.move (tmp 0)
      exact x_move rfl (hE.eval 0 (by rfl) e0)
    intro a6 hE e20 kp
    apply sq_det 21 hE k rfl (by rfl) (by rfl) rfl
    case h =>   -- 1: t21 := Op.call {callee := Callee.builtin Builtin.len, args := #[tmp 20], argT
      exact x_len Try.underlying66 rfl e20
    intro a7 hE e21 kp
    apply sq_det 22 hE k rfl (by rfl) (by rfl) rfl
    case h =>   -- 2: t22 := Op.binOp BinOp.gtr 3 (tmp 21) (const (Value.int IntKind.i64 40)) 3
      exact x_dec (x_gtr rfl e21 rfl) (decide_eq_true (by omega))
    intro a8 hE e22 kp
    apply sq_det 23 hE k rfl (by rfl) (by rfl) rfl
    case h =>   -- 3: t23 := Op.move (tmp 22)
      exact x_move rfl e22
    intro a9 hE e23 kp
    refine sq_skipg 24 hE k rfl (by rfl) (by rfl) rfl rfl (.inl e23) ?_
    intro a10 hE e24 kp
    replace e23 := (kp 23 rfl).trans e23
    refine sq_skipg 25 hE k rfl (by rfl) (by rfl) rfl rfl (.inl e23) ?_
    intro a11 hE e25 kp
    replace e23 := (kp 23 rfl).trans e23
    refine sq_skipg 26 hE k rfl (by rfl) (by rfl) rfl rfl (.inl e23) ?_
    intro a12 hE e26 kp
    replace e23 := (kp 23 rfl).trans e23
    apply sq_det 27 hE k rfl (by rfl) (by rfl) rfl
    case h =>   -- 7: t27 := Op.pick (tmp 23) (const (Value.bool true)) (tmp 26)
      exact x_pick_t rfl e23 rfl
    intro a13 hE e27 kp
    apply sq_det 28 hE k rfl (by rfl) (by rfl) rfl
    case h =>   -- 8: t28 := Op.move (tmp 27)
      exact x_move rfl e27
    intro a14 hE e28 kp
    refine sq_skipg 29 hE k rfl (by rfl) (by rfl) rfl rfl (.inl e28) ?_
    intro a15 hE e29 kp
    replace e28 := (kp 28 rfl).trans e28
    refine sq_skipg 30 hE k rfl (by rfl) (by rfl) rfl rfl (.inl e28) ?_
    intro a16 hE e30 kp
    replace e28 := (kp 28 rfl).trans e28
    refine sq_skipg 31 hE k rfl (by rfl) (by rfl) rfl rfl (.inl e28) ?_
    intro a17 hE e31 kp
    replace e28 := (kp 28 rfl).trans e28
    apply sq_det 32 hE k rfl (by rfl) (by rfl) rfl
    case h =>   -- 12: t32 := Op.pick (tmp 28) (const (Value.bool true)) (tmp 31)
      exact x_pick_t rfl e28 rfl
    intro a18 hE e32 kp
    refine wpList_nil ?_
    replace e0 := hE.eval 0 (by rfl) e0
    replace e1 := hE.eval 1 (by rfl) e1
    replace e2 := hE.eval 2 (by rfl) e2
    replace k := k.env hE
    clear hE e19
    refine then_n ?_
    refine cond_t e32 rfl ?_
    refine wp_seq ?_
    refine wp_region_lit ?_   -- region 4
    have hE := Env.refl a18 [6]
    apply sq_det 6 hE k rfl (by rfl) (by rfl) rfl
    case h =>   -- 0: t6 := Op.assign (const (Value.bool true))
      exact x_assign rfl rfl
    intro a19 hE e6 kp
    refine wpList_nil ?_
    replace k := k.env hE
    clear hE e0 e1 e2 e32
    refine then_n ?_
    refine wp_ret ?_
    refine then_r ?_
    refine ret_F1 rfl k e6 ?_
    exact ⟨rfl, O.below⟩
  by_cases hl1 : ys.length ≤ 40
  rotate_left
  · skip
    refine wp_seq ?_
    refine wp_seq ?_
    refine wp_region_lit ?_   -- region 3
    have hE := Env.refl a5 [20, 21, 22, 23, 24, 25, 26, 27, 28, 29, 30, 31, 32]
    apply sq_det 20 hE k rfl (by rfl) (by rfl) rfl
    case h =>   -- 0: t20 := Op.move (tmp 0)
      exact x_move rfl (hE.eval 0 (by rfl) e0)
    intro a20 hE e20 kp
    apply sq_det 21 hE k rfl (by rfl) (by rfl) rfl
    case h =>   -- 1: t21 := Op.call {callee := Callee.builtin Builtin.len, args := #[tmp 20], argT
      exact x_len Try.underlying66 rfl e20
    intro a21 hE e21 kp
    apply sq_det 22 hE k rfl (by rfl) (by rfl) rfl
    case h =>   -- 2: t22 := Op.binOp BinOp.gtr 3 (tmp 21) (const (Value.int IntKind.i64 40)) 3
      exact x_dec (x_gtr rfl e21 rfl) (decide_eq_false (by omega))
    intro a22 hE e22 kp
    apply sq_det 23 hE k rfl (by rfl) (by rfl) rfl
    case h =>   -- 3: t23 := Op.move (tmp 22)
      exact x_move rfl e22
    intro a23 hE e23 kp
    apply sq_detg 24 hE k rfl (by rfl) (by rfl) rfl rfl e23
    case h =>   -- 4: t24 := Op.move (tmp 1)
      exact x_move rfl (hE.eval 1 (by rfl) e1)
    intro a24 hE e24 kp
    replace e23 := (kp 23 rfl).trans e23
    apply sq_detg 25 hE k rfl (by rfl) (by rfl) rfl rfl e23
    case h =>   -- 5: t25 := Op.call {callee := Callee.builtin Builtin.len, args := #[tmp 24], argT
      exact x_len Try.underlying66 rfl e24
    intro a25 hE e25 kp
    replace e23 := (kp 23 rfl).trans e23
    apply sq_detg 26 hE k rfl (by rfl) (by rfl) rfl rfl e23
    case h =>   -- 6: t26 := Op.binOp BinOp.gtr 3 (tmp 25) (const (Value.int IntKind.i64 40)) 3
      exact x_dec (x_gtr rfl e25 rfl) (decide_eq_true (by omega))
    intro a26 hE e26 kp
    replace e23 := (kp 23 rfl).trans e23
    apply sq_det 27 hE k rfl (by rfl) (by rfl) rfl
    case h =>   -- 7: t27 := Op.pick (tmp 23) (const (Value.bool true)) (tmp 26)
      exact x_pick_f rfl e23 e26
    intro a27 hE e27 kp
    apply sq_det 28 hE k rfl (by rfl) (by rfl) rfl
    case h =>   -- 8: t28 := Op.move (tmp 27)
      exact x_move rfl e27
    intro a28 hE e28 kp
    refine sq_skipg 29 hE k rfl (by rfl) (by rfl) rfl rfl (.inl e28) ?_
    intro a29 hE e29 kp
    replace e28 := (kp 28 rfl).trans e28
    refine sq_skipg 30 hE k rfl (by rfl) (by rfl) rfl rfl (.inl e28) ?_
    intro a30 hE e30 kp
    replace e28 := (kp 28 rfl).trans e28
    refine sq_skipg 31 hE k rfl (by rfl) (by rfl) rfl rfl (.inl e28) ?_
    intro a31 hE e31 kp
    replace e28 := (kp 28 rfl).trans e28
    apply sq_det 32 hE k rfl (by rfl) (by rfl) rfl
    case h =>   -- 12: t32 := Op.pick (tmp 28) (const (Value.bool true)) (tmp 31)
      exact x_pick_t rfl e28 rfl
    intro a32 hE e32 kp
    refine wpList_nil ?_
    replace e0 := hE.eval 0 (by rfl) e0
    replace e1 := hE.eval 1 (by rfl) e1
    replace e2 := hE.eval 2 (by rfl) e2
    replace k := k.env hE
    clear hE e19
    refine then_n ?_
    refine cond_t e32 rfl ?_
    refine wp_seq ?_
    refine wp_region_lit ?_   -- region 4
    have hE := Env.refl a32 [6]
    apply sq_det 6 hE k rfl (by rfl) (by rfl) rfl
    case h =>   -- 0: t6 := Op.assign (const (Value.bool true))
      exact x_assign rfl rfl
    intro a33 hE e6 kp
    refine wpList_nil ?_
    replace k := k.env hE
    clear hE e0 e1 e2 e32
    refine then_n ?_
    refine wp_ret ?_
    refine then_r ?_
    refine ret_F1 rfl k e6 ?_
    exact ⟨rfl, O.below⟩
  by_cases hl2 : q.length ≤ 20
  rotate_left
  · skip
    refine wp_seq ?_
    refine wp_seq ?_
    refine wp_region_lit ?_   -- region 3
    have hE := Env.refl a5 [20, 21, 22, 23, 24, 25, 26, 27, 28, 29, 30, 31, 32]
    apply sq_det 20 hE k rfl (by rfl) (by rfl) rfl
    case h =>   -- 0: t20 := Op.move (tmp 0)
      exact x_move rfl (hE.eval 0 (by rfl) e0)
    intro a34 hE e20 kp
    apply sq_det 21 hE k rfl (by rfl) (by rfl) rfl
    case h =>   -- 1: t21 := Op.call {callee := Callee.builtin Builtin.len, args := #[tmp 20], argT
      exact x_len Try.underlying66 rfl e20
    intro a35 hE e21 kp
    apply sq_det 22 hE k rfl (by rfl) (by rfl) rfl
    case h =>   -- 2: t22 := Op.binOp BinOp.gtr 3 (tmp 21) (const (Value.int IntKind.i64 40)) 3
      exact x_dec (x_gtr rfl e21 rfl) (decide_eq_false (by omega))
    intro a36 hE e22 kp
    apply sq_det 23 hE k rfl (by rfl) (by rfl) rfl
    case h =>   -- 3: t23 := Op.move (tmp 22)
      exact x_move rfl e22
    intro a37 hE e23 kp
    apply sq_detg 24 hE k rfl (by rfl) (by rfl) rfl rfl e23
    case h =>   -- 4: t24 := Op.move (tmp 1)
      exact x_move rfl (hE.eval 1 (by rfl) e1)
    intro a38 hE e24 kp
    replace e23 := (kp 23 rfl).trans e23
    apply sq_detg 25 hE k rfl (by rfl) (by rfl) rfl rfl e23
    case h =>   -- 5: t25 := Op.call {callee := Callee.builtin Builtin.len, args := #[tmp 24], argT
      exact x_len Try.underlying66 rfl e24
    intro a39 hE e25 kp
    replace e23 := (kp 23 rfl).trans e23
    apply sq_detg 26 hE k rfl (by rfl) (by rfl) rfl rfl e23
    case h =>   -- 6: t26 := Op.binOp BinOp.gtr 3 (tmp 25) (const (Value.int IntKind.i64 40)) 3
      exact x_dec (x_gtr rfl e25 rfl) (decide_eq_false (by omega))
    intro a40 hE e26 kp
    replace e23 := (kp 23 rfl).trans e23
    apply sq_det 27 hE k rfl (by rfl) (by rfl) rfl
    case h =>   -- 7: t27 := Op.pick (tmp 23) (const (Value.bool true)) (tmp 26)
      exact x_pick_f rfl e23 e26
    intro a41 hE e27 kp
    apply sq_det 28 hE k rfl (by rfl) (by rfl) rfl
    case h =>   -- 8: t28 := Op.move (tmp 27)
      exact x_move rfl e27
    intro a42 hE e28 kp
    apply sq_detg 29 hE k rfl (by rfl) (by rfl) rfl rfl e28
    case h =>   -- 9: t29 := Op.move (tmp 2)
      exact x_move rfl (hE.eval 2 (by rfl) e2)
    intro a43 hE e29 kp
    replace e28 := (kp 28 rfl).trans e28
    apply sq_detg 30 hE k rfl (by rfl) (by rfl) rfl rfl e28
    case h =>   -- 10: t30 := Op.call {callee := Callee.builtin Builtin.len, args := #[tmp 29], argT
      exact x_len_l Try.underlying9 rfl e29
    intro a44 hE e30 kp
    replace e28 := (kp 28 rfl).trans e28
    apply sq_detg 31 hE k rfl (by rfl) (by rfl) rfl rfl e28
    case h =>   -- 11: t31 := Op.binOp BinOp.gtr 3 (tmp 30) (const (Value.int IntKind.i64 20)) 3
      exact x_dec (x_gtr rfl e30 rfl) (decide_eq_true (by omega))
    intro a45 hE e31 kp
    replace e28 := (kp 28 rfl).trans e28
    apply sq_det 32 hE k rfl (by rfl) (by rfl) rfl
    case h =>   -- 12: t32 := Op.pick (tmp 28) (const (Value.bool true)) (tmp 31)
      exact x_pick_f rfl e28 e31
    intro a46 hE e32 kp
    refine wpList_nil ?_
    replace e0 := hE.eval 0 (by rfl) e0
    replace e1 := hE.eval 1 (by rfl) e1
    replace e2 := hE.eval 2 (by rfl) e2
    replace k := k.env hE
    clear hE e19
    refine then_n ?_
    refine cond_t e32 rfl ?_
    refine wp_seq ?_
    refine wp_region_lit ?_   -- region 4
    have hE := Env.refl a46 [6]
    apply sq_det 6 hE k rfl (by rfl) (by rfl) rfl
    case h =>   -- 0: t6 := Op.assign (const (Value.bool true))
      exact x_assign rfl rfl
    intro a47 hE e6 kp
    refine wpList_nil ?_
    replace k := k.env hE
    clear hE e0 e1 e2 e32
    refine then_n ?_
    refine wp_ret ?_
    refine then_r ?_
    refine ret_F1 rfl k e6 ?_
    exact ⟨rfl, O.below⟩
  refine wp_seq ?_
  refine wp_seq ?_
  refine wp_region_lit ?_   -- region 3
  have hE := Env.refl a5 [20, 21, 22, 23, 24, 25, 26, 27, 28, 29, 30, 31, 32]
  apply sq_det 20 hE k rfl (by rfl) (by rfl) rfl
  case h =>   -- 0: t20 := Op.move (tmp 0)
    exact x_move rfl (hE.eval 0 (by rfl) e0)
  intro a48 hE e20 kp
  apply sq_det 21 hE k rfl (by rfl) (by rfl) rfl
  case h =>   -- 1: t21 := Op.call {callee := Callee.builtin Builtin.len, args := #[tmp 20], argT
    exact x_len Try.underlying66 rfl e20
  intro a49 hE e21 kp
  apply sq_det 22 hE k rfl (by rfl) (by rfl) rfl
  case h =>   -- 2: t22 := Op.binOp BinOp.gtr 3 (tmp 21) (const (Value.int IntKind.i64 40)) 3
    exact x_dec (x_gtr rfl e21 rfl) (decide_eq_false (by omega))
  intro a50 hE e22 kp
  apply sq_det 23 hE k rfl (by rfl) (by rfl) rfl
  case h =>   -- 3: t23 := Op.move (tmp 22)
    exact x_move rfl e22
  intro a51 hE e23 kp
  apply sq_detg 24 hE k rfl (by rfl) (by rfl) rfl rfl e23
  case h =>   -- 4: t24 := Op.move (tmp 1)
    exact x_move rfl (hE.eval 1 (by rfl) e1)
  intro a52 hE e24 kp
  replace e23 := (kp 23 rfl).trans e23
  apply sq_detg 25 hE k rfl (by rfl) (by rfl) rfl rfl e23
  case h =>   -- 5: t25 := Op.call {callee := Callee.builtin Builtin.len, args := #[tmp 24], argT
    exact x_len Try.underlying66 rfl e24
  intro a53 hE e25 kp
  replace e23 := (kp 23 rfl).trans e23
  apply sq_detg 26 hE k rfl (by rfl) (by rfl) rfl rfl e23
  case h =>   -- 6: t26 := Op.binOp BinOp.gtr 3 (tmp 25) (const (Value.int IntKind.i64 40)) 3
    exact x_dec (x_gtr rfl e25 rfl) (decide_eq_false (by omega))
  intro a54 hE e26 kp
  replace e23 := (kp 23 rfl).trans e23
  apply sq_det 27 hE k rfl (by rfl) (by rfl) rfl
  case h =>   -- 7: t27 := Op.pick (tmp 23) (const (Value.bool true)) (tmp 26)
    exact x_pick_f rfl e23 e26
  intro a55 hE e27 kp
  apply sq_det 28 hE k rfl (by rfl) (by rfl) rfl
  case h =>   -- 8: t28 := Op.move (tmp 27)
    exact x_move rfl e27
  intro a56 hE e28 kp
  apply sq_detg 29 hE k rfl (by rfl) (by rfl) rfl rfl e28
  case h =>   -- 9: t29 := Op.move (tmp 2)
    exact x_move rfl (hE.eval 2 (by rfl) e2)
  intro a57 hE e29 kp
  replace e28 := (kp 28 rfl).trans e28
  apply sq_detg 30 hE k rfl (by rfl) (by rfl) rfl rfl e28
  case h =>   -- 10: t30 := Op.call {callee := Callee.builtin Builtin.len, args := #[tmp 29], argT
    exact x_len_l Try.underlying9 rfl e29
  intro a58 hE e30 kp
  replace e28 := (kp 28 rfl).trans e28
  apply sq_detg 31 hE k rfl (by rfl) (by rfl) rfl rfl e28
  case h =>   -- 11: t31 := Op.binOp BinOp.gtr 3 (tmp 30) (const (Value.int IntKind.i64 20)) 3
    exact x_dec (x_gtr rfl e30 rfl) (decide_eq_false (by omega))
  intro a59 hE e31 kp
  replace e28 := (kp 28 rfl).trans e28
  apply sq_det 32 hE k rfl (by rfl) (by rfl) rfl
  case h =>   -- 12: t32 := Op.pick (tmp 28) (const (Value.bool true)) (tmp 31)
    exact x_pick_f rfl e28 e31
  intro a60 hE e32 kp
  refine wpList_nil ?_
  replace e0 := hE.eval 0 (by rfl) e0
  replace e1 := hE.eval 1 (by rfl) e1
  replace e2 := hE.eval 2 (by rfl) e2
  replace k := k.env hE
  clear hE e19
  refine then_n ?_
  refine cond_f e32 rfl ?_
  refine wp_skip ?_
  refine then_n ?_
  refine wp_seq ?_
  refine wp_region_lit ?_   -- region 5
  have hE := Env.refl a60 [33, 7]
  apply sq_call 33 hE k rfl (by rfl) (by rfl) rfl
  case h =>   -- tierce/mains.New
    simp [go_sem, BigFrame.eval_const, BigFrame.eval_global, BigFrame.eval_func, ↓IntWalk.iteOmega]
    with_reducible exact ⟨rfl, rfl⟩
  case hc => exact new_mn O
  clear O
  rintro e w62 ⟨mb, rfl, O⟩
  refine ⟨_, rfl, ?_⟩
  intro a61 hE e33 kp
  apply sq_det 7 hE k rfl (by rfl) (by rfl) rfl
  case h =>   -- 1: t7 := Op.assign (tmp 33)
    exact x_assign rfl e33
  intro a63 hE e7 kp
  refine wpList_nil ?_
  replace e0 := hE.eval 0 (by rfl) e0
  replace e1 := hE.eval 1 (by rfl) e1
  replace e2 := hE.eval 2 (by rfl) e2
  replace k := k.env hE
  clear hE e32
  refine then_n ?_
  refine wp_seq ?_
  refine wp_region_lit ?_   -- region 6
  have hE := Env.refl a63 [34, 35, 8]
  apply sq_det 34 hE k rfl (by rfl) (by rfl) rfl
  case h =>   -- 0: t34 := Op.move (tmp 7)
    exact x_move rfl (hE.eval 7 (by rfl) e7)
  intro a64 hE e34 kp
  apply sq_call 35 hE k rfl (by rfl) (by rfl) rfl
  case h =>   -- tierce/disc.New
    simp [go_sem, BigFrame.eval_const, BigFrame.eval_global, BigFrame.eval_func, ↓IntWalk.iteOmega, ev e34]
    with_reducible exact ⟨rfl, rfl⟩
  case hc => exact dnew_any 40 40 _ O (by decide)
  clear O
  rintro e w66 ⟨p, B, cap, bm, rfl, O⟩
  refine ⟨_, rfl, ?_⟩
  intro a65 hE e35 kp
  apply sq_det 8 hE k rfl (by rfl) (by rfl) rfl
  case h =>   -- 2: t8 := Op.assign (tmp 35)
    exact x_assign rfl e35
  intro a67 hE e8 kp
  refine wpList_nil ?_
  replace e0 := hE.eval 0 (by rfl) e0
  replace e1 := hE.eval 1 (by rfl) e1
  replace e2 := hE.eval 2 (by rfl) e2
  replace e7 := hE.eval 7 (by rfl) e7
  replace k := k.env hE
  clear hE
  refine then_n ?_
  refine wp_seq ?_
  refine wp_seq ?_
  refine wp_region_lit ?_   -- region 7
  have hE := Env.refl a67 [9]
  apply sq_det 9 hE k rfl (by rfl) (by rfl) rfl
  case h =>   -- 0: t9 := Op.assign (const (Value.int IntKind.i64 0))
    exact x_assign rfl rfl
  intro a68 hE e9 kp
  refine wpList_nil ?_
  replace e0 := hE.eval 0 (by rfl) e0
  replace e1 := hE.eval 1 (by rfl) e1
  replace e2 := hE.eval 2 (by rfl) e2
  replace e7 := hE.eval 7 (by rfl) e7
  replace e8 := hE.eval 8 (by rfl) e8
  replace k := k.env hE
  clear hE
  refine then_n ?_
  refine wp_block ?_
  refine wp_loop (fun a w => Fr 164 a ∧ a.eval (.tmp 0) = .slice A1 xs.length c1 ∧ a.eval (.tmp 1) = .slice A2 ys.length c2 ∧ a.eval (.tmp 2) = .string (sB q) ∧ a.eval (.tmp 7) = .pointer (some ⟨mb, 0, none⟩) ∧ a.eval (.tmp 8) = .pointer (some ⟨p, 0, none⟩) ∧ ∃ (i : Nat) (M : Mn), a.eval (.tmp 9) = .int .i64 ↑i ∧ i ≤ xs.length ∧ M.Free ∧ M.Ok (1 + i) ∧ OwnT W0.heap.size W0 [tDisc p mb B 40 cap bm (List.replicate 40 zsec) (foL xs i), tMn mb M] w) (fun a w => xs.length - (intOf (a.eval (.tmp 9))).toNat) ?_ ?_
  · exact ⟨k, e0, e1, e2, e7, e8, 0, mn0, e9, Nat.zero_le _, mn0_free, mn0_ok, (by rw [foL_zero]; exact O)⟩
  intro a69 w70 hI
  clear k e0 e1 e2 e7 e8
  obtain ⟨k, e0, e1, e2, e7, e8, h_⟩ := hI
  clear O e9
  obtain ⟨i, M, e9, hi, hF, hM, O⟩ := h_
  have mi := e9
  refine wp_seq ?_
  refine wp_seq ?_
  refine wp_region_lit ?_   -- region 8
  have hE := Env.refl a69 [36, 37, 38, 39]
  apply sq_det 36 hE k rfl (by rfl) (by rfl) rfl
  case h =>   -- 0: t36 := Op.move (tmp 9)
    exact x_move rfl (hE.eval 9 (by rfl) e9)
  intro a71 hE e36 kp
  apply sq_det 37 hE k rfl (by rfl) (by rfl) rfl
  case h =>   -- 1: t37 := Op.move (tmp 0)
    exact x_move rfl (hE.eval 0 (by rfl) e0)
  intro a72 hE e37 kp
  replace e36 := (kp 36 rfl).trans e36
  apply sq_det 38 hE k rfl (by rfl) (by rfl) rfl
  case h =>   -- 2: t38 := Op.call {callee := Callee.builtin Builtin.len, args := #[tmp 37], argT
    exact x_len Try.underlying66 rfl e37
  intro a73 hE e38 kp
  replace e36 := (kp 36 rfl).trans e36
  apply sq_det 39 hE k rfl (by rfl) (by rfl) rfl
  case h =>   -- 3: t39 := Op.binOp BinOp.lss 3 (tmp 36) (tmp 38) 3
    exact x_lss rfl e36 e38
  intro a74 hE e39 kp
  refine wpList_nil ?_
  replace e0 := hE.eval 0 (by rfl) e0
  replace e1 := hE.eval 1 (by rfl) e1
  replace e2 := hE.eval 2 (by rfl) e2
  replace e7 := hE.eval 7 (by rfl) e7
  replace e8 := hE.eval 8 (by rfl) e8
  replace e9 := hE.eval 9 (by rfl) e9
  replace k := k.env hE
  clear hE
  refine then_n ?_
  by_cases hlt : i < xs.length
  · have hltI : (i : Int) < (xs.length : Int) := by omega
    refine cond_t e39 (congrArg Value.bool (decide_eq_true (by omega))) ?_
    clear e39
    obtain ⟨x, hx⟩ : ∃ x, xs[i]? = some x := ⟨_, List.getElem?_eq_getElem hlt⟩
    obtain ⟨b, o, rfl, cx⟩ := u8_at r1 O.below hx
    refine wp_skip ?_
    refine then_n ?_
    refine wp_seq ?_
    refine wp_block ?_
    refine wp_seq ?_
    refine wp_region_lit ?_   -- region 10
    have hE := Env.refl a74 [42, 43, 44, 45, 46, 47, 48, 49, 50]
    apply sq_det 42 hE k rfl (by rfl) (by rfl) rfl
    case h =>   -- 0: t42 := Op.move (tmp 8)
      exact x_move rfl (hE.eval 8 (by rfl) e8)
    intro a75 hE e42 kp
    apply sq_det 43 hE k rfl (by rfl) (by rfl) rfl
    case h =>   -- 1: t43 := Op.move (tmp 9)
      exact x_move rfl (hE.eval 9 (by rfl) e9)
    intro a76 hE e43 kp
    replace e42 := (kp 42 rfl).trans e42
    apply sq_det 44 hE k rfl (by rfl) (by rfl) rfl
    case h =>   -- 2: t44 := Op.move (tmp 0)
      exact x_move rfl (hE.eval 0 (by rfl) e0)
    intro a77 hE e44 kp
    replace e42 := (kp 42 rfl).trans e42
    replace e43 := (kp 43 rfl).trans e43
    apply sq_det 45 hE k rfl (by rfl) (by rfl) rfl
    case h =>   -- 3: t45 := Op.move (tmp 9)
      exact x_move rfl (hE.eval 9 (by rfl) e9)
    intro a78 hE e45 kp
    replace e42 := (kp 42 rfl).trans e42
    replace e43 := (kp 43 rfl).trans e43
    replace e44 := (kp 44 rfl).trans e44
    apply sq_det 46 hE k rfl (by rfl) (by rfl) rfl
    case h =>   -- 4: t46 := Op.indexAddr 66 (tmp 44) (tmp 45)
      simp [go_sem, BigFrame.eval_const, BigFrame.eval_global, BigFrame.eval_func, ↓IntWalk.iteOmega, ev e44, ev e45]
      with_reducible rfl
    intro a79 hE e46 kp
    replace e42 := (kp 42 rfl).trans e42
    replace e43 := (kp 43 rfl).trans e43
    apply sq_det 47 hE k rfl (by rfl) (by rfl) rfl
    case h =>   -- 5: t47 := Op.load 5 (tmp 46)
      simp [go_sem, BigFrame.eval_const, BigFrame.eval_global, BigFrame.eval_func, ↓IntWalk.iteOmega, ev e46, cx]
      with_reducible rfl
    intro a80 hE e47 kp
    replace e42 := (kp 42 rfl).trans e42
    replace e43 := (kp 43 rfl).trans e43
    apply sq_call 48 hE k rfl (by rfl) (by rfl) rfl
    case h =>   -- tierce/tiercelaw04.sector
      simp [go_sem, BigFrame.eval_const, BigFrame.eval_global, BigFrame.eval_func, ↓IntWalk.iteOmega, ev e47]
      with_reducible exact ⟨rfl, rfl⟩
    case hc => exact sector_any x _
    rintro e w82 ⟨rfl, R⟩
    replace O := OwnT.ext O R
    refine ⟨_, rfl, ?_⟩
    intro a81 hE e48 kp
    replace e42 := (kp 42 rfl).trans e42
    replace e43 := (kp 43 rfl).trans e43
    apply sq_call 49 hE k rfl (by rfl) (by rfl) rfl
    case h =>   -- (*tierce/disc.Disc).Write
      simp [go_sem, BigFrame.eval_const, BigFrame.eval_global, BigFrame.eval_func, ↓IntWalk.iteOmega, ev e42, ev e43, ev e48]
      with_reducible exact ⟨rfl, rfl⟩
    case hc => exact dwrite_one i (secB x) _ O List.length_replicate (by omega) hM (by omega) hF
    clear O
    rintro e w84 ⟨rfl, O⟩
    rw [foL_succ hx] at O
    refine ⟨_, rfl, ?_⟩
    intro a83 hE e49 kp
    apply sq_det 50 hE k rfl (by rfl) (by rfl) rfl
    case h =>   -- 8: t50 := Op.binOp BinOp.neq 36 (tmp 49) (const (Value.int IntKind.i64 0)) 36
      exact x_neq rfl e49 rfl
    intro a85 hE e50 kp
    refine wpList_nil ?_
    replace e0 := hE.eval 0 (by rfl) e0
    replace e1 := hE.eval 1 (by rfl) e1
    replace e2 := hE.eval 2 (by rfl) e2
    replace e7 := hE.eval 7 (by rfl) e7
    replace e8 := hE.eval 8 (by rfl) e8
    replace e9 := hE.eval 9 (by rfl) e9
    replace k := k.env hE
    clear hE
    refine then_n ?_
    refine cond_f e50 rfl ?_
    refine wp_skip ?_
    refine block_n ?_
    refine then_n ?_
    refine wp_region_lit ?_   -- region 9
    have hE := Env.refl a85 [40, 41, 9]
    apply sq_det 40 hE k rfl (by rfl) (by rfl) rfl
    case h =>   -- 0: t40 := Op.move (tmp 9)
      exact x_move rfl e9
    intro a86 hE e40 kp
    replace e9 := (kp 9 rfl).trans e9
    apply sq_det 41 hE k rfl (by rfl) (by rfl) rfl
    case h =>   -- 1: t41 := Op.binOp BinOp.add 3 (tmp 40) (const (Value.int IntKind.i64 1)) 3
      exact x_add rfl e40 rfl (by omega)
    intro a87 hE e41 kp
    replace e9 := (kp 9 rfl).trans e9
    apply sq_det 9 hE k rfl (by rfl) (by rfl) rfl
    case h =>   -- 2: t9 := Op.assign (tmp 41)
      exact x_assign rfl e41
    intro a88 hE e9 kp
    refine wpList_nil ?_
    replace e0 := hE.eval 0 (by rfl) e0
    replace e1 := hE.eval 1 (by rfl) e1
    replace e2 := hE.eval 2 (by rfl) e2
    replace e7 := hE.eval 7 (by rfl) e7
    replace e8 := hE.eval 8 (by rfl) e8
    replace k := k.env hE
    clear hE e50
    refine then_n ?_
    refine ⟨⟨k, e0, e1, e2, e7, e8, i + 1, M.use, e9, by omega, hF.use, hM.use.mono (by omega), O⟩, ?_⟩
    rw [e9, mi]; simp only [intOf]; omega
  · have hltI : ¬ (i : Int) < (xs.length : Int) := by omega
    refine cond_f e39 (congrArg Value.bool (decide_eq_false (by omega))) ?_
    clear e9 e39
    obtain rfl : i = xs.length := by omega
    refine wp_exit ?_
    refine then_x ?_
    refine then_x ?_
    refine block_x ?_
    refine then_n ?_
    refine wp_seq ?_
    refine wp_seq ?_
    refine wp_region_lit ?_   -- region 12
    have hE := Env.refl a74 [51, 52, 53, 54, 55, 56, 57, 58, 59]
    apply sq_det 51 hE k rfl (by rfl) (by rfl) rfl
    case h =>   -- 0: t51 := Op.move (tmp 8)
      exact x_move rfl (hE.eval 8 (by rfl) e8)
    intro a89 hE e51 kp
    apply sq_call 52 hE k rfl (by rfl) (by rfl) rfl
    case h =>   -- (*tierce/disc.Disc).Flush
      simp [go_sem, BigFrame.eval_const, BigFrame.eval_global, BigFrame.eval_func, ↓IntWalk.iteOmega, ev e51]
      with_reducible exact ⟨rfl, rfl⟩
    case hc => exact dflush_ok _ O hM (by omega) hF.up
    clear O
    rintro e w91 ⟨rfl, O⟩
    refine ⟨_, rfl, ?_⟩
    intro a90 hE e52 kp
    apply sq_det 53 hE k rfl (by rfl) (by rfl) rfl
    case h =>   -- 2: t53 := Op.binOp BinOp.neq 36 (tmp 52) (const (Value.int IntKind.i64 0)) 36
      exact x_neq rfl e52 rfl
    intro a92 hE e53 kp
    apply sq_det 54 hE k rfl (by rfl) (by rfl) rfl
    case h =>   -- 3: t54 := Op.move (tmp 53)
      exact x_move rfl e53
    intro a93 hE e54 kp
    apply sq_detg 55 hE k rfl (by rfl) (by rfl) rfl rfl e54
    case h =>   -- 4: t55 := Op.move (tmp 8)
      exact x_move rfl (hE.eval 8 (by rfl) e8)
    intro a94 hE e55 kp
    replace e54 := (kp 54 rfl).trans e54
    apply sq_callg 56 hE k rfl (by rfl) (by rfl) rfl rfl e54
    case h =>   -- (*tierce/disc.Disc).Loose
      simp [go_sem, BigFrame.eval_const, BigFrame.eval_global, BigFrame.eval_func, ↓IntWalk.iteOmega, ev e55]
      with_reducible exact ⟨rfl, rfl⟩
    case hc => exact dloose_any _ (OwnT.disc O)
    rintro e w96 ⟨Bx, capx, rfl, -, -, -, -, R⟩
    replace O := OwnT.ext O R
    refine ⟨_, rfl, ?_⟩
    intro a95 hE e56 kp
    replace e54 := (kp 54 rfl).trans e54
    apply sq_detg 57 hE k rfl (by rfl) (by rfl) rfl rfl e54
    case h =>   -- 6: t57 := Op.call {callee := Callee.builtin Builtin.len, args := #[tmp 56], argT
      exact x_len Try.underlying49 rfl e56
    intro a97 hE e57 kp
    replace e54 := (kp 54 rfl).trans e54
    apply sq_detg 58 hE k rfl (by rfl) (by rfl) rfl rfl e54
    case h =>   -- 7: t58 := Op.binOp BinOp.neq 3 (tmp 57) (const (Value.int IntKind.i64 0)) 3
      exact x_dec (x_neq rfl e57 rfl) (decide_eq_false (fun h => h (by rw [looL_none]; rfl)))
    intro a98 hE e58 kp
    replace e54 := (kp 54 rfl).trans e54
    apply sq_det 59 hE k rfl (by rfl) (by rfl) rfl
    case h =>   -- 8: t59 := Op.pick (tmp 54) (const (Value.bool true)) (tmp 58)
      exact x_pick_f rfl e54 e58
    intro a99 hE e59 kp
    refine wpList_nil ?_
    replace e0 := hE.eval 0 (by rfl) e0
    replace e1 := hE.eval 1 (by rfl) e1
    replace e2 := hE.eval 2 (by rfl) e2
    replace e7 := hE.eval 7 (by rfl) e7
    replace e8 := hE.eval 8 (by rfl) e8
    replace k := k.env hE
    clear hE
    refine then_n ?_
    refine cond_f e59 rfl ?_
    refine wp_skip ?_
    refine then_n ?_
    refine wp_seq ?_
    refine wp_seq ?_
    refine wp_region_lit ?_   -- region 14
    have hE := Env.refl a99 [10]
    apply sq_det 10 hE k rfl (by rfl) (by rfl) rfl
    case h =>   -- 0: t10 := Op.assign (const (Value.int IntKind.i64 0))
      exact x_assign rfl rfl
    intro a100 hE e10 kp
    refine wpList_nil ?_
    replace e0 := hE.eval 0 (by rfl) e0
    replace e1 := hE.eval 1 (by rfl) e1
    replace e2 := hE.eval 2 (by rfl) e2
    replace e7 := hE.eval 7 (by rfl) e7
    replace e8 := hE.eval 8 (by rfl) e8
    replace k := k.env hE
    clear hE e59
    refine then_n ?_
    refine wp_block ?_
    skip
    refine wp_loop (fun a w => Fr 164 a ∧ a.eval (.tmp 0) = .slice A1 xs.length c1 ∧ a.eval (.tmp 1) = .slice A2 ys.length c2 ∧ a.eval (.tmp 2) = .string (sB q) ∧ a.eval (.tmp 7) = .pointer (some ⟨mb, 0, none⟩) ∧ a.eval (.tmp 8) = .pointer (some ⟨p, 0, none⟩) ∧ ∃ (i : Nat) (M : Mn), a.eval (.tmp 10) = .int .i64 ↑i ∧ i ≤ ys.length ∧ M.Free ∧ M.Ok ((xs.length : Int) + 2 + i) ∧ OwnT W0.heap.size W0 [tDisc p mb B 40 cap bm (flS xs) (foL ys i), tMn mb M] w) (fun a w => ys.length - (intOf (a.eval (.tmp 10))).toNat) ?_ ?_
    · exact ⟨k, e0, e1, e2, e7, e8, 0, M.use, e10, Nat.zero_le _, hF.use, hM.use.mono (by omega), (by rw [foL_zero]; exact O)⟩
    intro a101 w102 hI
    clear k e0 e1 e2 e7 e8
    obtain ⟨k, e0, e1, e2, e7, e8, h_⟩ := hI
    clear O e10
    obtain ⟨i, M, e10, hi, hF, hM, O⟩ := h_
    have mi := e10
    refine wp_seq ?_
    refine wp_seq ?_
    refine wp_region_lit ?_   -- region 15
    have hE := Env.refl a101 [60, 61, 62, 63]
    apply sq_det 60 hE k rfl (by rfl) (by rfl) rfl
    case h =>   -- 0: t60 := Op.move (tmp 10)
      exact x_move rfl (hE.eval 10 (by rfl) e10)
    intro a103 hE e60 kp
    apply sq_det 61 hE k rfl (by rfl) (by rfl) rfl
    case h =>   -- 1: t61 := Op.move (tmp 1)
      exact x_move rfl (hE.eval 1 (by rfl) e1)
    intro a104 hE e61 kp
    replace e60 := (kp 60 rfl).trans e60
    apply sq_det 62 hE k rfl (by rfl) (by rfl) rfl
    case h =>   -- 2: t62 := Op.call {callee := Callee.builtin Builtin.len, args := #[tmp 61], argT
      exact x_len Try.underlying66 rfl e61
    intro a105 hE e62 kp
    replace e60 := (kp 60 rfl).trans e60
    apply sq_det 63 hE k rfl (by rfl) (by rfl) rfl
    case h =>   -- 3: t63 := Op.binOp BinOp.lss 3 (tmp 60) (tmp 62) 3
      exact x_lss rfl e60 e62
    intro a106 hE e63 kp
    refine wpList_nil ?_
    replace e0 := hE.eval 0 (by rfl) e0
    replace e1 := hE.eval 1 (by rfl) e1
    replace e2 := hE.eval 2 (by rfl) e2
    replace e7 := hE.eval 7 (by rfl) e7
    replace e8 := hE.eval 8 (by rfl) e8
    replace e10 := hE.eval 10 (by rfl) e10
    replace k := k.env hE
    clear hE
    refine then_n ?_
    by_cases hlt : i < ys.length
    · have hltI : (i : Int) < (ys.length : Int) := by omega
      refine cond_t e63 (congrArg Value.bool (decide_eq_true (by omega))) ?_
      clear e63
      obtain ⟨x, hx⟩ : ∃ x, ys[i]? = some x := ⟨_, List.getElem?_eq_getElem hlt⟩
      obtain ⟨b, o, rfl, cx⟩ := u8_at r2 O.below hx
      refine wp_skip ?_
      refine then_n ?_
      refine wp_seq ?_
      refine wp_block ?_
      refine wp_seq ?_
      refine wp_region_lit ?_   -- region 17
      have hE := Env.refl a106 [66, 67, 68, 69, 70, 71, 72, 73, 74]
      apply sq_det 66 hE k rfl (by rfl) (by rfl) rfl
      case h =>   -- 0: t66 := Op.move (tmp 8)
        exact x_move rfl (hE.eval 8 (by rfl) e8)
      intro a107 hE e66 kp
      apply sq_det 67 hE k rfl (by rfl) (by rfl) rfl
      case h =>   -- 1: t67 := Op.move (tmp 10)
        exact x_move rfl (hE.eval 10 (by rfl) e10)
      intro a108 hE e67 kp
      replace e66 := (kp 66 rfl).trans e66
      apply sq_det 68 hE k rfl (by rfl) (by rfl) rfl
      case h =>   -- 2: t68 := Op.move (tmp 1)
        exact x_move rfl (hE.eval 1 (by rfl) e1)
      intro a109 hE e68 kp
      replace e66 := (kp 66 rfl).trans e66
      replace e67 := (kp 67 rfl).trans e67
      apply sq_det 69 hE k rfl (by rfl) (by rfl) rfl
      case h =>   -- 3: t69 := Op.move (tmp 10)
        exact x_move rfl (hE.eval 10 (by rfl) e10)
      intro a110 hE e69 kp
      replace e66 := (kp 66 rfl).trans e66
      replace e67 := (kp 67 rfl).trans e67
      replace e68 := (kp 68 rfl).trans e68
      apply sq_det 70 hE k rfl (by rfl) (by rfl) rfl
      case h =>   -- 4: t70 := Op.indexAddr 66 (tmp 68) (tmp 69)
        simp [go_sem, BigFrame.eval_const, BigFrame.eval_global, BigFrame.eval_func, ↓IntWalk.iteOmega, ev e68, ev e69]
        with_reducible rfl
      intro a111 hE e70 kp
      replace e66 := (kp 66 rfl).trans e66
      replace e67 := (kp 67 rfl).trans e67
      apply sq_det 71 hE k rfl (by rfl) (by rfl) rfl
      case h =>   -- 5: t71 := Op.load 5 (tmp 70)
        simp [go_sem, BigFrame.eval_const, BigFrame.eval_global, BigFrame.eval_func, ↓IntWalk.iteOmega, ev e70, cx]
        with_reducible rfl
      intro a112 hE e71 kp
      replace e66 := (kp 66 rfl).trans e66
      replace e67 := (kp 67 rfl).trans e67
      apply sq_call 72 hE k rfl (by rfl) (by rfl) rfl
      case h =>   -- tierce/tiercelaw04.sector
        simp [go_sem, BigFrame.eval_const, BigFrame.eval_global, BigFrame.eval_func, ↓IntWalk.iteOmega, ev e71]
        with_reducible exact ⟨rfl, rfl⟩
      case hc => exact sector_any x _
      rintro e w114 ⟨rfl, R⟩
      replace O := OwnT.ext O R
      refine ⟨_, rfl, ?_⟩
      intro a113 hE e72 kp
      replace e66 := (kp 66 rfl).trans e66
      replace e67 := (kp 67 rfl).trans e67
      apply sq_call 73 hE k rfl (by rfl) (by rfl) rfl
      case h =>   -- (*tierce/disc.Disc).Write
        simp [go_sem, BigFrame.eval_const, BigFrame.eval_global, BigFrame.eval_func, ↓IntWalk.iteOmega, ev e66, ev e67, ev e72]
        with_reducible exact ⟨rfl, rfl⟩
      case hc => exact dwrite_one i (secB x) _ O List.length_replicate (by omega) hM (by omega) hF
      clear O
      rintro e w116 ⟨rfl, O⟩
      rw [foL_succ hx] at O
      refine ⟨_, rfl, ?_⟩
      intro a115 hE e73 kp
      apply sq_det 74 hE k rfl (by rfl) (by rfl) rfl
      case h =>   -- 8: t74 := Op.binOp BinOp.neq 36 (tmp 73) (const (Value.int IntKind.i64 0)) 36
        exact x_neq rfl e73 rfl
      intro a117 hE e74 kp
      refine wpList_nil ?_
      replace e0 := hE.eval 0 (by rfl) e0
      replace e1 := hE.eval 1 (by rfl) e1
      replace e2 := hE.eval 2 (by rfl) e2
      replace e7 := hE.eval 7 (by rfl) e7
      replace e8 := hE.eval 8 (by rfl) e8
      replace e10 := hE.eval 10 (by rfl) e10
      replace k := k.env hE
      clear hE
      refine then_n ?_
      refine cond_f e74 rfl ?_
      refine wp_skip ?_
      refine block_n ?_
      refine then_n ?_
      refine wp_region_lit ?_   -- region 16
      have hE := Env.refl a117 [64, 65, 10]
      apply sq_det 64 hE k rfl (by rfl) (by rfl) rfl
      case h =>   -- 0: t64 := Op.move (tmp 10)
        exact x_move rfl e10
      intro a118 hE e64 kp
      replace e10 := (kp 10 rfl).trans e10
      apply sq_det 65 hE k rfl (by rfl) (by rfl) rfl
      case h =>   -- 1: t65 := Op.binOp BinOp.add 3 (tmp 64) (const (Value.int IntKind.i64 1)) 3
        exact x_add rfl e64 rfl (by omega)
      intro a119 hE e65 kp
      replace e10 := (kp 10 rfl).trans e10
      apply sq_det 10 hE k rfl (by rfl) (by rfl) rfl
      case h =>   -- 2: t10 := Op.assign (tmp 65)
        exact x_assign rfl e65
      intro a120 hE e10 kp
      refine wpList_nil ?_
      replace e0 := hE.eval 0 (by rfl) e0
      replace e1 := hE.eval 1 (by rfl) e1
      replace e2 := hE.eval 2 (by rfl) e2
      replace e7 := hE.eval 7 (by rfl) e7
      replace e8 := hE.eval 8 (by rfl) e8
      replace k := k.env hE
      clear hE e74
      refine then_n ?_
      refine ⟨⟨k, e0, e1, e2, e7, e8, i + 1, M.use, e10, by omega, hF.use, hM.use.mono (by omega), O⟩, ?_⟩
      rw [e10, mi]; simp only [intOf]; omega
    · have hltI : ¬ (i : Int) < (ys.length : Int) := by omega
      refine cond_f e63 (congrArg Value.bool (decide_eq_false (by omega))) ?_
      clear e10 e63
      obtain rfl : i = ys.length := by omega
      refine wp_exit ?_
      refine then_x ?_
      refine then_x ?_
      refine block_x ?_
      refine then_n ?_
      refine wp_seq ?_
      refine wp_region_lit ?_   -- region 19
      have hE := Env.refl a106 [75, 76]
      apply sq_det 75 hE k rfl (by rfl) (by rfl) rfl
      case h =>   -- 0: t75 := Op.move (tmp 7)
        exact x_move rfl (hE.eval 7 (by rfl) e7)
      intro a121 hE e75 kp
      apply sq_call 76 hE k rfl (by rfl) (by rfl) rfl
      case h =>   -- (*tierce/mains.Mains).Cut
        simp [go_sem, BigFrame.eval_const, BigFrame.eval_global, BigFrame.eval_func, ↓IntWalk.iteOmega, ev e75]
        with_reducible exact ⟨rfl, rfl⟩
      case hc => exact (cut_mn (O.perm (.swap _ _ _)))
      clear O
      rintro e w123 ⟨rfl, O⟩
      replace O := O.perm (.swap _ _ _)
      refine ⟨_, rfl, ?_⟩
      intro a122 hE e76 kp
      refine wpList_nil ?_
      replace e0 := hE.eval 0 (by rfl) e0
      replace e1 := hE.eval 1 (by rfl) e1
      replace e2 := hE.eval 2 (by rfl) e2
      replace e7 := hE.eval 7 (by rfl) e7
      replace e8 := hE.eval 8 (by rfl) e8
      replace k := k.env hE
      clear hE e76
      refine then_n ?_
      refine wp_seq ?_
      refine wp_seq ?_
      refine wp_region_lit ?_   -- region 20
      have hE := Env.refl a122 [77, 78, 79, 80]
      apply sq_det 77 hE k rfl (by rfl) (by rfl) rfl
      case h =>   -- 0: t77 := Op.move (tmp 8)
        exact x_move rfl (hE.eval 8 (by rfl) e8)
      intro a124 hE e77 kp
      apply sq_det 78 hE k rfl (by rfl) (by rfl) rfl
      case h =>   -- 1: t78 := Op.move (tmp 2)
        exact x_move rfl (hE.eval 2 (by rfl) e2)
      intro a125 hE e78 kp
      replace e77 := (kp 77 rfl).trans e77
      apply sq_call 79 hE k rfl (by rfl) (by rfl) rfl
      case h =>   -- (*tierce/disc.Disc).Settle
        simp [go_sem, BigFrame.eval_const, BigFrame.eval_global, BigFrame.eval_func, ↓IntWalk.iteOmega, ev e77, ev e78]
        with_reducible exact ⟨rfl, rfl⟩
      case hc => exact dsettle_off q _ O (by omega) rfl
      clear O
      rintro e w127 ⟨rfl, O⟩
      refine ⟨_, rfl, ?_⟩
      intro a126 hE e79 kp
      apply sq_det 80 hE k rfl (by rfl) (by rfl) rfl
      case h =>   -- 3: t80 := Op.binOp BinOp.neq 36 (tmp 79) (const (Value.int IntKind.i64 0)) 36
        exact x_neq rfl e79 rfl
      intro a128 hE e80 kp
      refine wpList_nil ?_
      replace e0 := hE.eval 0 (by rfl) e0
      replace e1 := hE.eval 1 (by rfl) e1
      replace e2 := hE.eval 2 (by rfl) e2
      replace e7 := hE.eval 7 (by rfl) e7
      replace e8 := hE.eval 8 (by rfl) e8
      replace k := k.env hE
      clear hE
      refine then_n ?_
      refine cond_f e80 rfl ?_
      refine wp_skip ?_
      refine then_n ?_
      refine wp_seq ?_
      refine wp_region_lit ?_   -- region 22
      have hE := Env.refl a128 [81, 82]
      apply sq_det 81 hE k rfl (by rfl) (by rfl) rfl
      case h =>   -- 0: t81 := Op.move (tmp 7)
        exact x_move rfl (hE.eval 7 (by rfl) e7)
      intro a129 hE e81 kp
      apply sq_call 82 hE k rfl (by rfl) (by rfl) rfl
      case h =>   -- (*tierce/mains.Mains).Come
        simp [go_sem, BigFrame.eval_const, BigFrame.eval_global, BigFrame.eval_func, ↓IntWalk.iteOmega, ev e81]
        with_reducible exact ⟨rfl, rfl⟩
      case hc => exact (come_mn (O.perm (.swap _ _ _)) hM.cut (by omega))
      clear O
      rintro e w131 ⟨rfl, O⟩
      replace O := O.perm (.swap _ _ _)
      refine ⟨_, rfl, ?_⟩
      intro a130 hE e82 kp
      refine wpList_nil ?_
      replace e0 := hE.eval 0 (by rfl) e0
      replace e1 := hE.eval 1 (by rfl) e1
      replace e2 := hE.eval 2 (by rfl) e2
      replace e8 := hE.eval 8 (by rfl) e8
      replace k := k.env hE
      clear hE e7 e80 e82
      refine then_n ?_
      refine wp_seq ?_
      refine wp_seq ?_
      refine wp_region_lit ?_   -- region 23
      have hE := Env.refl a130 [11]
      apply sq_det 11 hE k rfl (by rfl) (by rfl) rfl
      case h =>   -- 0: t11 := Op.assign (const (Value.int IntKind.i64 0))
        exact x_assign rfl rfl
      intro a132 hE e11 kp
      refine wpList_nil ?_
      replace e0 := hE.eval 0 (by rfl) e0
      replace e1 := hE.eval 1 (by rfl) e1
      replace e2 := hE.eval 2 (by rfl) e2
      replace e8 := hE.eval 8 (by rfl) e8
      replace k := k.env hE
      clear hE
      refine then_n ?_
      refine wp_block ?_
      have hF2 := cut_come_free (M := M)
      have hS40 : (stS xs ys q).length = 40 := by rw [setK_len, nowL_len, List.length_replicate]
      refine wp_loop (fun a w => Fr 164 a ∧ a.eval (.tmp 0) = .slice A1 xs.length c1 ∧ a.eval (.tmp 1) = .slice A2 ys.length c2 ∧ a.eval (.tmp 2) = .string (sB q) ∧ a.eval (.tmp 8) = .pointer (some ⟨p, 0, none⟩) ∧ ∃ (i : Nat), a.eval (.tmp 11) = .int .i64 ↑i ∧ i ≤ 40 ∧ OwnT W0.heap.size W0 [tDisc p mb B 40 cap bm (stS xs ys q) (fun _ => none), tMn mb M.cut.come] w) (fun a w => 40 - (intOf (a.eval (.tmp 11))).toNat) ?_ ?_
      · exact ⟨k, e0, e1, e2, e8, 0, e11, Nat.zero_le _, O⟩
      intro a133 w134 hI
      clear k e0 e1 e2 e8
      obtain ⟨k, e0, e1, e2, e8, h_⟩ := hI
      clear O e11
      obtain ⟨i, e11, hi, O⟩ := h_
      have mi := e11
      by_cases hlt : i < 40
      · have hltI : (i : Int) < 40 := by omega
        obtain ⟨t, ht, hcase⟩ := stS_at xs ys q hlt
        refine wp_seq ?_
        refine wp_seq ?_
        refine wp_region_lit ?_   -- region 24
        have hE := Env.refl a133 [83, 84]
        apply sq_det 83 hE k rfl (by rfl) (by rfl) rfl
        case h =>   -- 0: t83 := Op.move (tmp 11)
          exact x_move rfl (hE.eval 11 (by rfl) e11)
        intro a135 hE e83 kp
        apply sq_det 84 hE k rfl (by rfl) (by rfl) rfl
        case h =>   -- 1: t84 := Op.binOp BinOp.lss 3 (tmp 83) (const (Value.int IntKind.i64 40)) 3
          exact x_dec (x_lss rfl e83 rfl) (decide_eq_true (by omega))
        intro a136 hE e84 kp
        refine wpList_nil ?_
        replace e0 := hE.eval 0 (by rfl) e0
        replace e1 := hE.eval 1 (by rfl) e1
        replace e2 := hE.eval 2 (by rfl) e2
        replace e8 := hE.eval 8 (by rfl) e8
        replace e11 := hE.eval 11 (by rfl) e11
        replace k := k.env hE
        clear hE
        refine then_n ?_
        refine cond_t e84 rfl ?_
        refine wp_skip ?_
        refine then_n ?_
        refine wp_seq ?_
        refine wp_block ?_
        refine wp_seq ?_
        refine wp_region_lit ?_   -- region 26
        have hE := Env.refl a136 [88, 89, 90, 87, 91, 92, 12, 13]
        apply sq_det 88 hE k rfl (by rfl) (by rfl) rfl
        case h =>   -- 0: t88 := Op.move (tmp 8)
          exact x_move rfl (hE.eval 8 (by rfl) e8)
        intro a137 hE e88 kp
        apply sq_det 89 hE k rfl (by rfl) (by rfl) rfl
        case h =>   -- 1: t89 := Op.move (tmp 11)
          exact x_move rfl (hE.eval 11 (by rfl) e11)
        intro a138 hE e89 kp
        replace e88 := (kp 88 rfl).trans e88
        apply sq_call 90 hE k rfl (by rfl) (by rfl) rfl
        case h =>   -- (*tierce/disc.Disc).Read
          simp [go_sem, BigFrame.eval_const, BigFrame.eval_global, BigFrame.eval_func, ↓IntWalk.iteOmega, ev e88, ev e89]
          with_reducible exact ⟨rfl, rfl⟩
        case hc => exact dread_ok i 1 _ (OwnT.disc O) (OwnT.get O 1 rfl) (by omega) hF2.away
        rintro e w140 ⟨rfl, R⟩
        replace O := OwnT.ext O R
        refine ⟨_, by rw [readL_one ht], ?_⟩
        intro a139 hE e90 kp
        apply sq_det 87 hE k rfl (by rfl) (by rfl) rfl
        case h =>   -- 3: t87 := Op.move (tmp 90)
          exact x_move rfl e90
        intro a141 hE e87 kp
        apply sq_det 91 hE k rfl (by rfl) (by rfl) rfl
        case h =>   -- 4: t91 := Op.extract (tmp 87) 0
          simp [go_sem, BigFrame.eval_const, BigFrame.eval_global, BigFrame.eval_func, ↓IntWalk.iteOmega, ev e87]
          with_reducible rfl
        intro a142 hE e91 kp
        replace e87 := (kp 87 rfl).trans e87
        apply sq_det 92 hE k rfl (by rfl) (by rfl) rfl
        case h =>   -- 5: t92 := Op.extract (tmp 87) 1
          simp [go_sem, BigFrame.eval_const, BigFrame.eval_global, BigFrame.eval_func, ↓IntWalk.iteOmega, ev e87]
          with_reducible rfl
        intro a143 hE e92 kp
        replace e91 := (kp 91 rfl).trans e91
        apply sq_det 12 hE k rfl (by rfl) (by rfl) rfl
        case h =>   -- 6: t12 := Op.assign (tmp 91)
          exact x_assign rfl e91
        intro a144 hE e12 kp
        replace e92 := (kp 92 rfl).trans e92
        apply sq_det 13 hE k rfl (by rfl) (by rfl) rfl
        case h =>   -- 7: t13 := Op.assign (tmp 92)
          exact x_assign rfl e92
        intro a145 hE e13 kp
        replace e12 := (kp 12 rfl).trans e12
        refine wpList_nil ?_
        replace e0 := hE.eval 0 (by rfl) e0
        replace e1 := hE.eval 1 (by rfl) e1
        replace e2 := hE.eval 2 (by rfl) e2
        replace e8 := hE.eval 8 (by rfl) e8
        replace e11 := hE.eval 11 (by rfl) e11
        replace k := k.env hE
        clear hE e84
        refine then_n ?_
        refine wp_seq ?_
        refine wp_region_lit ?_   -- region 27
        have hE := Env.refl a145 [93, 14]
        apply sq_call 93 hE k rfl (by rfl) (by rfl) rfl
        case h =>   -- tierce/tiercelaw04.sector
          simp [go_sem, BigFrame.eval_const, BigFrame.eval_global, BigFrame.eval_func, ↓IntWalk.iteOmega]
          with_reducible exact ⟨rfl, rfl⟩
        case hc => exact sector_any 0 _
        rintro e w147 ⟨rfl, R⟩
        replace O := OwnT.ext O R
        refine ⟨_, rfl, ?_⟩
        intro a146 hE e93 kp
        apply sq_det 14 hE k rfl (by rfl) (by rfl) rfl
        case h =>   -- 1: t14 := Op.assign (tmp 93)
          exact x_assign rfl e93
        intro a148 hE e14 kp
        refine wpList_nil ?_
        replace e0 := hE.eval 0 (by rfl) e0
        replace e1 := hE.eval 1 (by rfl) e1
        replace e2 := hE.eval 2 (by rfl) e2
        replace e8 := hE.eval 8 (by rfl) e8
        replace e11 := hE.eval 11 (by rfl) e11
        replace e12 := hE.eval 12 (by rfl) e12
        replace e13 := hE.eval 13 (by rfl) e13
        replace k := k.env hE
        clear hE
        refine then_n ?_
        refine wp_seq ?_
        refine wp_seq ?_
        refine wp_region_lit ?_   -- region 28
        have hE := Env.refl a148 [94, 95, 96, 97]
        apply sq_det 94 hE k rfl (by rfl) (by rfl) rfl
        case h =>   -- 0: t94 := Op.move (tmp 11)
          exact x_move rfl (hE.eval 11 (by rfl) e11)
        intro a149 hE e94 kp
        apply sq_det 95 hE k rfl (by rfl) (by rfl) rfl
        case h =>   -- 1: t95 := Op.move (tmp 0)
          exact x_move rfl (hE.eval 0 (by rfl) e0)
        intro a150 hE e95 kp
        replace e94 := (kp 94 rfl).trans e94
        apply sq_det 96 hE k rfl (by rfl) (by rfl) rfl
        case h =>   -- 2: t96 := Op.call {callee := Callee.builtin Builtin.len, args := #[tmp 95], argT
          exact x_len Try.underlying66 rfl e95
        intro a151 hE e96 kp
        replace e94 := (kp 94 rfl).trans e94
        apply sq_det 97 hE k rfl (by rfl) (by rfl) rfl
        case h =>   -- 3: t97 := Op.binOp BinOp.lss 3 (tmp 94) (tmp 96) 3
          exact x_lss rfl e94 e96
        intro a152 hE e97 kp
        refine wpList_nil ?_
        replace e0 := hE.eval 0 (by rfl) e0
        replace e1 := hE.eval 1 (by rfl) e1
        replace e2 := hE.eval 2 (by rfl) e2
        replace e8 := hE.eval 8 (by rfl) e8
        replace e11 := hE.eval 11 (by rfl) e11
        replace e12 := hE.eval 12 (by rfl) e12
        replace e13 := hE.eval 13 (by rfl) e13
        replace e14 := hE.eval 14 (by rfl) e14
        replace k := k.env hE
        clear hE
        refine then_n ?_
        by_cases hxl : i < xs.length
        · have hxI : (i : Int) < (xs.length : Int) := by omega
          rw [if_pos hxl] at hcase
          obtain ⟨x, hx⟩ : ∃ x, xs[i]? = some x := ⟨_, List.getElem?_eq_getElem hxl⟩
          rw [show xs.getD i 0 = x by simp [List.getD, hx]] at hcase
          obtain ⟨b, o, rfl, -⟩ := u8_at r1 O.below hx
          refine cond_t e97 (congrArg Value.bool (decide_eq_true (by omega))) ?_
          clear e14 e97
          refine wp_region_lit ?_   -- region 29
          have hE := Env.refl a152 [98, 99, 100, 101, 102, 14]
          apply sq_det 98 hE k rfl (by rfl) (by rfl) rfl
          case h =>   -- 0: t98 := Op.move (tmp 0)
            exact x_move rfl (hE.eval 0 (by rfl) e0)
          intro a153 hE e98 kp
          apply sq_det 99 hE k rfl (by rfl) (by rfl) rfl
          case h =>   -- 1: t99 := Op.move (tmp 11)
            exact x_move rfl (hE.eval 11 (by rfl) e11)
          intro a154 hE e99 kp
          replace e98 := (kp 98 rfl).trans e98
          apply sq_det 100 hE k rfl (by rfl) (by rfl) rfl
          case h =>   -- 2: t100 := Op.indexAddr 66 (tmp 98) (tmp 99)
            simp [go_sem, BigFrame.eval_const, BigFrame.eval_global, BigFrame.eval_func, ↓IntWalk.iteOmega, ev e98, ev e99]
            with_reducible rfl
          intro a155 hE e100 kp
          apply sq_det 101 hE k rfl (by rfl) (by rfl) rfl
          case h =>   -- 3: t101 := Op.load 5 (tmp 100)
            have cx := u8_cell r1 O.below hx
            simp [go_sem, BigFrame.eval_const, BigFrame.eval_global, BigFrame.eval_func, ↓IntWalk.iteOmega, ev e100, cx]
            with_reducible rfl
          intro a156 hE e101 kp
          apply sq_call 102 hE k rfl (by rfl) (by rfl) rfl
          case h =>   -- tierce/tiercelaw04.sector
            simp [go_sem, BigFrame.eval_const, BigFrame.eval_global, BigFrame.eval_func, ↓IntWalk.iteOmega, ev e101]
            with_reducible exact ⟨rfl, rfl⟩
          case hc => exact sector_any x _
          rintro e w158 ⟨rfl, R⟩
          replace O := OwnT.ext O R
          refine ⟨_, rfl, ?_⟩
          intro a157 hE e102 kp
          apply sq_det 14 hE k rfl (by rfl) (by rfl) rfl
          case h =>   -- 5: t14 := Op.assign (tmp 102)
            exact x_assign rfl e102
          intro a159 hE e14 kp
          refine wpList_nil ?_
          replace e0 := hE.eval 0 (by rfl) e0
          replace e1 := hE.eval 1 (by rfl) e1
          replace e2 := hE.eval 2 (by rfl) e2
          replace e8 := hE.eval 8 (by rfl) e8
          replace e11 := hE.eval 11 (by rfl) e11
          replace e12 := hE.eval 12 (by rfl) e12
          replace e13 := hE.eval 13 (by rfl) e13
          replace k := k.env hE
          clear hE
          refine then_n ?_
          rcases hcase with rfl | ⟨hq, hiy, rfl⟩
          · by_cases hy : i < ys.length
            · have hyI : (i : Int) < (ys.length : Int) := by omega
              obtain ⟨y, hyy⟩ : ∃ y, ys[i]? = some y := ⟨_, List.getElem?_eq_getElem hy⟩
              obtain ⟨b2, o2, rfl, cy⟩ := u8_at r2 O.below hyy
              refine wp_seq ?_
              refine wp_region_lit ?_   -- region 30
              have hE := Env.refl a159 [103, 104, 105, 106, 107, 108, 109, 110, 111, 112, 113, 114, 115, 15]
              apply sq_det 103 hE k rfl (by rfl) (by rfl) rfl
              case h =>   -- 0: t103 := Op.move (tmp 11)
                exact x_move rfl (hE.eval 11 (by rfl) e11)
              intro a160 hE e103 kp
              apply sq_det 104 hE k rfl (by rfl) (by rfl) rfl
              case h =>   -- 1: t104 := Op.move (tmp 1)
                exact x_move rfl (hE.eval 1 (by rfl) e1)
              intro a161 hE e104 kp
              replace e103 := (kp 103 rfl).trans e103
              apply sq_det 105 hE k rfl (by rfl) (by rfl) rfl
              case h =>   -- 2: t105 := Op.call {callee := Callee.builtin Builtin.len, args := #[tmp 104], arg
                exact x_len Try.underlying66 rfl e104
              intro a162 hE e105 kp
              replace e103 := (kp 103 rfl).trans e103
              apply sq_det 106 hE k rfl (by rfl) (by rfl) rfl
              case h =>   -- 3: t106 := Op.binOp BinOp.lss 3 (tmp 103) (tmp 105) 3
                exact x_dec (x_lss rfl e103 e105) (decide_eq_true (by omega))
              intro a163 hE e106 kp
              apply sq_det 107 hE k rfl (by rfl) (by rfl) rfl
              case h =>   -- 4: t107 := Op.move (tmp 106)
                exact x_move rfl e106
              intro a164 hE e107 kp
              apply sq_detg 108 hE k rfl (by rfl) (by rfl) rfl rfl e107
              case h =>   -- 5: t108 := Op.move (tmp 12)
                exact x_move rfl (hE.eval 12 (by rfl) e12)
              intro a165 hE e108 kp
              replace e107 := (kp 107 rfl).trans e107
              apply sq_detg 109 hE k rfl (by rfl) (by rfl) rfl rfl e107
              case h =>   -- 6: t109 := Op.move (tmp 1)
                exact x_move rfl (hE.eval 1 (by rfl) e1)
              intro a166 hE e109 kp
              replace e107 := (kp 107 rfl).trans e107
              replace e108 := (kp 108 rfl).trans e108
              apply sq_detg 110 hE k rfl (by rfl) (by rfl) rfl rfl e107
              case h =>   -- 7: t110 := Op.move (tmp 11)
                exact x_move rfl (hE.eval 11 (by rfl) e11)
              intro a167 hE e110 kp
              replace e107 := (kp 107 rfl).trans e107
              replace e108 := (kp 108 rfl).trans e108
              replace e109 := (kp 109 rfl).trans e109
              apply sq_detg 111 hE k rfl (by rfl) (by rfl) rfl rfl e107
              case h =>   -- 8: t111 := Op.indexAddr 66 (tmp 109) (tmp 110)
                simp [go_sem, BigFrame.eval_const, BigFrame.eval_global, BigFrame.eval_func, ↓IntWalk.iteOmega, ev e109, ev e110]
                with_reducible rfl
              intro a168 hE e111 kp
              replace e107 := (kp 107 rfl).trans e107
              replace e108 := (kp 108 rfl).trans e108
              apply sq_detg 112 hE k rfl (by rfl) (by rfl) rfl rfl e107
              case h =>   -- 9: t112 := Op.load 5 (tmp 111)
                simp [go_sem, BigFrame.eval_const, BigFrame.eval_global, BigFrame.eval_func, ↓IntWalk.iteOmega, ev e111, cy]
                with_reducible rfl
              intro a169 hE e112 kp
              replace e107 := (kp 107 rfl).trans e107
              replace e108 := (kp 108 rfl).trans e108
              apply sq_callg 113 hE k rfl (by rfl) (by rfl) rfl rfl e107
              case h =>   -- tierce/tiercelaw04.sector
                simp [go_sem, BigFrame.eval_const, BigFrame.eval_global, BigFrame.eval_func, ↓IntWalk.iteOmega, ev e112]
                with_reducible exact ⟨rfl, rfl⟩
              case hc => exact sector_any y _
              rintro e w171 ⟨rfl, R⟩
              replace O := OwnT.ext O R
              refine ⟨_, rfl, ?_⟩
              intro a170 hE e113 kp
              replace e107 := (kp 107 rfl).trans e107
              replace e108 := (kp 108 rfl).trans e108
              apply sq_detg 114 hE k rfl (by rfl) (by rfl) rfl rfl e107
              case h =>   -- 11: t114 := Op.binOp BinOp.eql 9 (tmp 108) (tmp 113) 9
                exact x_eqs (l := secB x) (m := List.replicate 16 y) rfl e108 e113
              intro a172 hE e114 kp
              replace e107 := (kp 107 rfl).trans e107
              apply sq_det 115 hE k rfl (by rfl) (by rfl) rfl
              case h =>   -- 12: t115 := Op.pick (tmp 107) (tmp 114) (const (Value.bool false))
                exact x_pick_t rfl e107 e114
              intro a173 hE e115 kp
              apply sq_det 15 hE k rfl (by rfl) (by rfl) rfl
              case h =>   -- 13: t15 := Op.assign (tmp 115)
                exact x_assign rfl e115
              intro a174 hE e15 kp
              refine wpList_nil ?_
              replace e0 := hE.eval 0 (by rfl) e0
              replace e1 := hE.eval 1 (by rfl) e1
              replace e2 := hE.eval 2 (by rfl) e2
              replace e8 := hE.eval 8 (by rfl) e8
              replace e11 := hE.eval 11 (by rfl) e11
              replace e12 := hE.eval 12 (by rfl) e12
              replace e13 := hE.eval 13 (by rfl) e13
              replace e14 := hE.eval 14 (by rfl) e14
              replace k := k.env hE
              clear hE
              refine then_n ?_
              refine wp_seq ?_
              refine wp_seq ?_
              refine wp_region_lit ?_   -- region 31
              have hE := Env.refl a174 [116, 117, 118, 119, 120, 121, 122, 123, 124, 125, 126, 127, 128, 129, 130, 131, 132, 133, 134, 135, 136, 137]
              apply sq_det 116 hE k rfl (by rfl) (by rfl) rfl
              case h =>   -- 0: t116 := Op.move (tmp 13)
                exact x_move rfl (hE.eval 13 (by rfl) e13)
              intro a175 hE e116 kp
              apply sq_det 117 hE k rfl (by rfl) (by rfl) rfl
              case h =>   -- 1: t117 := Op.binOp BinOp.neq 36 (tmp 116) (const (Value.int IntKind.i64 0)) 36
                exact x_dec (x_neq rfl e116 rfl) (decide_eq_false (by omega))
              intro a176 hE e117 kp
              apply sq_det 118 hE k rfl (by rfl) (by rfl) rfl
              case h =>   -- 2: t118 := Op.move (tmp 117)
                exact x_move rfl e117
              intro a177 hE e118 kp
              apply sq_detg 119 hE k rfl (by rfl) (by rfl) rfl rfl e118
              case h =>   -- 3: t119 := Op.move (tmp 12)
                exact x_move rfl (hE.eval 12 (by rfl) e12)
              intro a178 hE e119 kp
              replace e118 := (kp 118 rfl).trans e118
              apply sq_detg 120 hE k rfl (by rfl) (by rfl) rfl rfl e118
              case h =>   -- 4: t120 := Op.move (tmp 14)
                exact x_move rfl (hE.eval 14 (by rfl) e14)
              intro a179 hE e120 kp
              replace e118 := (kp 118 rfl).trans e118
              replace e119 := (kp 119 rfl).trans e119
              apply sq_detg 121 hE k rfl (by rfl) (by rfl) rfl rfl e118
              case h =>   -- 5: t121 := Op.binOp BinOp.neq 9 (tmp 119) (tmp 120) 9
                exact x_dec (x_nes (l := secB x) (m := secB x) rfl e119 e120) (decide_eq_false (fun h => h rfl))
              intro a180 hE e121 kp
              replace e118 := (kp 118 rfl).trans e118
              apply sq_detg 122 hE k rfl (by rfl) (by rfl) rfl rfl e118
              case h =>   -- 6: t122 := Op.move (tmp 121)
                exact x_move rfl e121
              intro a181 hE e122 kp
              replace e118 := (kp 118 rfl).trans e118
              refine sq_skipg 123 hE k rfl (by rfl) (by rfl) rfl rfl (.inl e122) ?_
              intro a182 hE e123 kp
              replace e118 := (kp 118 rfl).trans e118
              replace e122 := (kp 122 rfl).trans e122
              refine sq_skipg 124 hE k rfl (by rfl) (by rfl) rfl rfl (.inl e122) ?_
              intro a183 hE e124 kp
              replace e118 := (kp 118 rfl).trans e118
              replace e122 := (kp 122 rfl).trans e122
              apply sq_detg 125 hE k rfl (by rfl) (by rfl) rfl rfl e118
              case h =>   -- 9: t125 := Op.pick (tmp 122) (tmp 124) (const (Value.bool false))
                exact x_pick_f rfl e122 rfl
              intro a184 hE e125 kp
              replace e118 := (kp 118 rfl).trans e118
              apply sq_det 126 hE k rfl (by rfl) (by rfl) rfl
              case h =>   -- 10: t126 := Op.pick (tmp 118) (const (Value.bool true)) (tmp 125)
                exact x_pick_f rfl e118 e125
              intro a185 hE e126 kp
              apply sq_det 127 hE k rfl (by rfl) (by rfl) rfl
              case h =>   -- 11: t127 := Op.move (tmp 126)
                exact x_move rfl e126
              intro a186 hE e127 kp
              apply sq_detg 128 hE k rfl (by rfl) (by rfl) rfl rfl e127
              case h =>   -- 12: t128 := Op.move (tmp 11)
                exact x_move rfl (hE.eval 11 (by rfl) e11)
              intro a187 hE e128 kp
              replace e127 := (kp 127 rfl).trans e127
              apply sq_detg 129 hE k rfl (by rfl) (by rfl) rfl rfl e127
              case h =>   -- 13: t129 := Op.move (tmp 1)
                exact x_move rfl (hE.eval 1 (by rfl) e1)
              intro a188 hE e129 kp
              replace e127 := (kp 127 rfl).trans e127
              replace e128 := (kp 128 rfl).trans e128
              apply sq_detg 130 hE k rfl (by rfl) (by rfl) rfl rfl e127
              case h =>   -- 14: t130 := Op.call {callee := Callee.builtin Builtin.len, args := #[tmp 129], arg
                exact x_len Try.underlying66 rfl e129
              intro a189 hE e130 kp
              replace e127 := (kp 127 rfl).trans e127
              replace e128 := (kp 128 rfl).trans e128
              apply sq_detg 131 hE k rfl (by rfl) (by rfl) rfl rfl e127
              case h =>   -- 15: t131 := Op.binOp BinOp.geq 3 (tmp 128) (tmp 130) 3
                exact x_dec (x_geq rfl e128 e130) (decide_eq_false (by omega))
              intro a190 hE e131 kp
              replace e127 := (kp 127 rfl).trans e127
              apply sq_detg 132 hE k rfl (by rfl) (by rfl) rfl rfl e127
              case h =>   -- 16: t132 := Op.move (tmp 131)
                exact x_move rfl e131
              intro a191 hE e132 kp
              replace e127 := (kp 127 rfl).trans e127
              refine sq_skipg 133 hE k rfl (by rfl) (by rfl) rfl rfl (.inl e132) ?_
              intro a192 hE e133 kp
              replace e127 := (kp 127 rfl).trans e127
              replace e132 := (kp 132 rfl).trans e132
              refine sq_skipg 134 hE k rfl (by rfl) (by rfl) rfl rfl (.inl e132) ?_
              intro a193 hE e134 kp
              replace e127 := (kp 127 rfl).trans e127
              replace e132 := (kp 132 rfl).trans e132
              replace e133 := (kp 133 rfl).trans e133
              refine sq_skipg 135 hE k rfl (by rfl) (by rfl) rfl rfl (.inl e132) ?_
              intro a194 hE e135 kp
              replace e127 := (kp 127 rfl).trans e127
              replace e132 := (kp 132 rfl).trans e132
              apply sq_detg 136 hE k rfl (by rfl) (by rfl) rfl rfl e127
              case h =>   -- 20: t136 := Op.pick (tmp 132) (tmp 135) (const (Value.bool false))
                exact x_pick_f rfl e132 rfl
              intro a195 hE e136 kp
              replace e127 := (kp 127 rfl).trans e127
              apply sq_det 137 hE k rfl (by rfl) (by rfl) rfl
              case h =>   -- 21: t137 := Op.pick (tmp 127) (const (Value.bool true)) (tmp 136)
                exact x_pick_f rfl e127 e136
              intro a196 hE e137 kp
              refine wpList_nil ?_
              replace e0 := hE.eval 0 (by rfl) e0
              replace e1 := hE.eval 1 (by rfl) e1
              replace e2 := hE.eval 2 (by rfl) e2
              replace e8 := hE.eval 8 (by rfl) e8
              replace e11 := hE.eval 11 (by rfl) e11
              replace e12 := hE.eval 12 (by rfl) e12
              replace e14 := hE.eval 14 (by rfl) e14
              replace k := k.env hE
              clear hE e13 e15
              refine then_n ?_
              refine cond_f e137 rfl ?_
              refine wp_skip ?_
              refine then_n ?_
              by_cases hq : q = []
              · skip
                refine wp_seq ?_
                refine wp_region_lit ?_   -- region 33
                have hE := Env.refl a196 [138, 139, 140, 141, 142, 143, 144]
                apply sq_det 138 hE k rfl (by rfl) (by rfl) rfl
                case h =>   -- 0: t138 := Op.move (tmp 2)
                  exact x_move rfl (hE.eval 2 (by rfl) e2)
                intro a197 hE e138 kp
                apply sq_det 139 hE k rfl (by rfl) (by rfl) rfl
                case h =>   -- 1: t139 := Op.binOp BinOp.eql 9 (tmp 138) (const (Value.string {data := #[]})) 9
                  exact x_dec (x_eqs (l := q) (m := []) rfl e138 rfl) (decide_eq_true hq)
                intro a198 hE e139 kp
                apply sq_det 140 hE k rfl (by rfl) (by rfl) rfl
                case h =>   -- 2: t140 := Op.move (tmp 139)
                  exact x_move rfl e139
                intro a199 hE e140 kp
                apply sq_detg 141 hE k rfl (by rfl) (by rfl) rfl rfl e140
                case h =>   -- 3: t141 := Op.move (tmp 12)
                  exact x_move rfl (hE.eval 12 (by rfl) e12)
                intro a200 hE e141 kp
                replace e140 := (kp 140 rfl).trans e140
                apply sq_detg 142 hE k rfl (by rfl) (by rfl) rfl rfl e140
                case h =>   -- 4: t142 := Op.move (tmp 14)
                  exact x_move rfl (hE.eval 14 (by rfl) e14)
                intro a201 hE e142 kp
                replace e140 := (kp 140 rfl).trans e140
                replace e141 := (kp 141 rfl).trans e141
                apply sq_detg 143 hE k rfl (by rfl) (by rfl) rfl rfl e140
                case h =>   -- 5: t143 := Op.binOp BinOp.neq 9 (tmp 141) (tmp 142) 9
                  exact x_dec (x_nes (l := secB x) (m := secB x) rfl e141 e142) (decide_eq_false (fun h => h rfl))
                intro a202 hE e143 kp
                replace e140 := (kp 140 rfl).trans e140
                apply sq_det 144 hE k rfl (by rfl) (by rfl) rfl
                case h =>   -- 6: t144 := Op.pick (tmp 140) (tmp 143) (const (Value.bool false))
                  exact x_pick_t rfl e140 e143
                intro a203 hE e144 kp
                refine wpList_nil ?_
                replace e0 := hE.eval 0 (by rfl) e0
                replace e1 := hE.eval 1 (by rfl) e1
                replace e2 := hE.eval 2 (by rfl) e2
                replace e8 := hE.eval 8 (by rfl) e8
                replace e11 := hE.eval 11 (by rfl) e11
                replace k := k.env hE
                clear hE e12 e14 e137
                refine then_n ?_
                refine cond_f e144 rfl ?_
                refine wp_skip ?_
                refine block_n ?_
                refine then_n ?_
                refine wp_region_lit ?_   -- region 25
                have hE := Env.refl a203 [85, 86, 11]
                apply sq_det 85 hE k rfl (by rfl) (by rfl) rfl
                case h =>   -- 0: t85 := Op.move (tmp 11)
                  exact x_move rfl e11
                intro a204 hE e85 kp
                replace e11 := (kp 11 rfl).trans e11
                apply sq_det 86 hE k rfl (by rfl) (by rfl) rfl
                case h =>   -- 1: t86 := Op.binOp BinOp.add 3 (tmp 85) (const (Value.int IntKind.i64 1)) 3
                  exact x_add rfl e85 rfl (by omega)
                intro a205 hE e86 kp
                replace e11 := (kp 11 rfl).trans e11
                apply sq_det 11 hE k rfl (by rfl) (by rfl) rfl
                case h =>   -- 2: t11 := Op.assign (tmp 86)
                  exact x_assign rfl e86
                intro a206 hE e11 kp
                refine wpList_nil ?_
                replace e0 := hE.eval 0 (by rfl) e0
                replace e1 := hE.eval 1 (by rfl) e1
                replace e2 := hE.eval 2 (by rfl) e2
                replace e8 := hE.eval 8 (by rfl) e8
                replace k := k.env hE
                clear hE e144
                refine then_n ?_
                refine ⟨⟨k, e0, e1, e2, e8, i + 1, e11, by omega, O⟩, ?_⟩
                rw [e11, mi]; simp only [intOf]; omega
              · skip
                refine wp_seq ?_
                refine wp_region_lit ?_   -- region 33
                have hE := Env.refl a196 [138, 139, 140, 141, 142, 143, 144]
                apply sq_det 138 hE k rfl (by rfl) (by rfl) rfl
                case h =>   -- 0: t138 := Op.move (tmp 2)
                  exact x_move rfl (hE.eval 2 (by rfl) e2)
                intro a207 hE e138 kp
                apply sq_det 139 hE k rfl (by rfl) (by rfl) rfl
                case h =>   -- 1: t139 := Op.binOp BinOp.eql 9 (tmp 138) (const (Value.string {data := #[]})) 9
                  exact x_dec (x_eqs (l := q) (m := []) rfl e138 rfl) (decide_eq_false hq)
                intro a208 hE e139 kp
                apply sq_det 140 hE k rfl (by rfl) (by rfl) rfl
                case h =>   -- 2: t140 := Op.move (tmp 139)
                  exact x_move rfl e139
                intro a209 hE e140 kp
                refine sq_skipg 141 hE k rfl (by rfl) (by rfl) rfl rfl (.inl e140) ?_
                intro a210 hE e141 kp
                replace e140 := (kp 140 rfl).trans e140
                refine sq_skipg 142 hE k rfl (by rfl) (by rfl) rfl rfl (.inl e140) ?_
                intro a211 hE e142 kp
                replace e140 := (kp 140 rfl).trans e140
                replace e141 := (kp 141 rfl).trans e141
                refine sq_skipg 143 hE k rfl (by rfl) (by rfl) rfl rfl (.inl e140) ?_
                intro a212 hE e143 kp
                replace e140 := (kp 140 rfl).trans e140
                apply sq_det 144 hE k rfl (by rfl) (by rfl) rfl
                case h =>   -- 6: t144 := Op.pick (tmp 140) (tmp 143) (const (Value.bool false))
                  exact x_pick_f rfl e140 rfl
                intro a213 hE e144 kp
                refine wpList_nil ?_
                replace e0 := hE.eval 0 (by rfl) e0
                replace e1 := hE.eval 1 (by rfl) e1
                replace e2 := hE.eval 2 (by rfl) e2
                replace e8 := hE.eval 8 (by rfl) e8
                replace e11 := hE.eval 11 (by rfl) e11
                replace k := k.env hE
                clear hE e12 e14 e137
                refine then_n ?_
                refine cond_f e144 rfl ?_
                refine wp_skip ?_
                refine block_n ?_
                refine then_n ?_
                refine wp_region_lit ?_   -- region 25
                have hE := Env.refl a213 [85, 86, 11]
                apply sq_det 85 hE k rfl (by rfl) (by rfl) rfl
                case h =>   -- 0: t85 := Op.move (tmp 11)
                  exact x_move rfl e11
                intro a214 hE e85 kp
                replace e11 := (kp 11 rfl).trans e11
                apply sq_det 86 hE k rfl (by rfl) (by rfl) rfl
                case h =>   -- 1: t86 := Op.binOp BinOp.add 3 (tmp 85) (const (Value.int IntKind.i64 1)) 3
                  exact x_add rfl e85 rfl (by omega)
                intro a215 hE e86 kp
                replace e11 := (kp 11 rfl).trans e11
                apply sq_det 11 hE k rfl (by rfl) (by rfl) rfl
                case h =>   -- 2: t11 := Op.assign (tmp 86)
                  exact x_assign rfl e86
                intro a216 hE e11 kp
                refine wpList_nil ?_
                replace e0 := hE.eval 0 (by rfl) e0
                replace e1 := hE.eval 1 (by rfl) e1
                replace e2 := hE.eval 2 (by rfl) e2
                replace e8 := hE.eval 8 (by rfl) e8
                replace k := k.env hE
                clear hE e144
                refine then_n ?_
                refine ⟨⟨k, e0, e1, e2, e8, i + 1, e11, by omega, O⟩, ?_⟩
                rw [e11, mi]; simp only [intOf]; omega
            · have hyI : ¬ (i : Int) < (ys.length : Int) := by omega
              refine wp_seq ?_
              refine wp_region_lit ?_   -- region 30
              have hE := Env.refl a159 [103, 104, 105, 106, 107, 108, 109, 110, 111, 112, 113, 114, 115, 15]
              apply sq_det 103 hE k rfl (by rfl) (by rfl) rfl
              case h =>   -- 0: t103 := Op.move (tmp 11)
                exact x_move rfl (hE.eval 11 (by rfl) e11)
              intro a217 hE e103 kp
              apply sq_det 104 hE k rfl (by rfl) (by rfl) rfl
              case h =>   -- 1: t104 := Op.move (tmp 1)
                exact x_move rfl (hE.eval 1 (by rfl) e1)
              intro a218 hE e104 kp
              replace e103 := (kp 103 rfl).trans e103
              apply sq_det 105 hE k rfl (by rfl) (by rfl) rfl
              case h =>   -- 2: t105 := Op.call {callee := Callee.builtin Builtin.len, args := #[tmp 104], arg
                exact x_len Try.underlying66 rfl e104
              intro a219 hE e105 kp
              replace e103 := (kp 103 rfl).trans e103
              apply sq_det 106 hE k rfl (by rfl) (by rfl) rfl
              case h =>   -- 3: t106 := Op.binOp BinOp.lss 3 (tmp 103) (tmp 105) 3
                exact x_dec (x_lss rfl e103 e105) (decide_eq_false (by omega))
              intro a220 hE e106 kp
              apply sq_det 107 hE k rfl (by rfl) (by rfl) rfl
              case h =>   -- 4: t107 := Op.move (tmp 106)
                exact x_move rfl e106
              intro a221 hE e107 kp
              refine sq_skipg 108 hE k rfl (by rfl) (by rfl) rfl rfl (.inl e107) ?_
              intro a222 hE e108 kp
              replace e107 := (kp 107 rfl).trans e107
              refine sq_skipg 109 hE k rfl (by rfl) (by rfl) rfl rfl (.inl e107) ?_
              intro a223 hE e109 kp
              replace e107 := (kp 107 rfl).trans e107
              replace e108 := (kp 108 rfl).trans e108
              refine sq_skipg 110 hE k rfl (by rfl) (by rfl) rfl rfl (.inl e107) ?_
              intro a224 hE e110 kp
              replace e107 := (kp 107 rfl).trans e107
              replace e108 := (kp 108 rfl).trans e108
              replace e109 := (kp 109 rfl).trans e109
              refine sq_skipg 111 hE k rfl (by rfl) (by rfl) rfl rfl (.inl e107) ?_
              intro a225 hE e111 kp
              replace e107 := (kp 107 rfl).trans e107
              replace e108 := (kp 108 rfl).trans e108
              refine sq_skipg 112 hE k rfl (by rfl) (by rfl) rfl rfl (.inl e107) ?_
              intro a226 hE e112 kp
              replace e107 := (kp 107 rfl).trans e107
              replace e108 := (kp 108 rfl).trans e108
              refine sq_skipg 113 hE k rfl (by rfl) (by rfl) rfl rfl (.inl e107) ?_
              intro a227 hE e113 kp
              replace e107 := (kp 107 rfl).trans e107
              replace e108 := (kp 108 rfl).trans e108
              refine sq_skipg 114 hE k rfl (by rfl) (by rfl) rfl rfl (.inl e107) ?_
              intro a228 hE e114 kp
              replace e107 := (kp 107 rfl).trans e107
              apply sq_det 115 hE k rfl (by rfl) (by rfl) rfl
              case h =>   -- 12: t115 := Op.pick (tmp 107) (tmp 114) (const (Value.bool false))
                exact x_pick_f rfl e107 rfl
              intro a229 hE e115 kp
              apply sq_det 15 hE k rfl (by rfl) (by rfl) rfl
              case h =>   -- 13: t15 := Op.assign (tmp 115)
                exact x_assign rfl e115
              intro a230 hE e15 kp
              refine wpList_nil ?_
              replace e0 := hE.eval 0 (by rfl) e0
              replace e1 := hE.eval 1 (by rfl) e1
              replace e2 := hE.eval 2 (by rfl) e2
              replace e8 := hE.eval 8 (by rfl) e8
              replace e11 := hE.eval 11 (by rfl) e11
              replace e12 := hE.eval 12 (by rfl) e12
              replace e13 := hE.eval 13 (by rfl) e13
              replace e14 := hE.eval 14 (by rfl) e14
              replace k := k.env hE
              clear hE
              refine then_n ?_
              refine wp_seq ?_
              refine wp_seq ?_
              refine wp_region_lit ?_   -- region 31
              have hE := Env.refl a230 [116, 117, 118, 119, 120, 121, 122, 123, 124, 125, 126, 127, 128, 129, 130, 131, 132, 133, 134, 135, 136, 137]
              apply sq_det 116 hE k rfl (by rfl) (by rfl) rfl
              case h =>   -- 0: t116 := Op.move (tmp 13)
                exact x_move rfl (hE.eval 13 (by rfl) e13)
              intro a231 hE e116 kp
              apply sq_det 117 hE k rfl (by rfl) (by rfl) rfl
              case h =>   -- 1: t117 := Op.binOp BinOp.neq 36 (tmp 116) (const (Value.int IntKind.i64 0)) 36
                exact x_dec (x_neq rfl e116 rfl) (decide_eq_false (by omega))
              intro a232 hE e117 kp
              apply sq_det 118 hE k rfl (by rfl) (by rfl) rfl
              case h =>   -- 2: t118 := Op.move (tmp 117)
                exact x_move rfl e117
              intro a233 hE e118 kp
              apply sq_detg 119 hE k rfl (by rfl) (by rfl) rfl rfl e118
              case h =>   -- 3: t119 := Op.move (tmp 12)
                exact x_move rfl (hE.eval 12 (by rfl) e12)
              intro a234 hE e119 kp
              replace e118 := (kp 118 rfl).trans e118
              apply sq_detg 120 hE k rfl (by rfl) (by rfl) rfl rfl e118
              case h =>   -- 4: t120 := Op.move (tmp 14)
                exact x_move rfl (hE.eval 14 (by rfl) e14)
              intro a235 hE e120 kp
              replace e118 := (kp 118 rfl).trans e118
              replace e119 := (kp 119 rfl).trans e119
              apply sq_detg 121 hE k rfl (by rfl) (by rfl) rfl rfl e118
              case h =>   -- 5: t121 := Op.binOp BinOp.neq 9 (tmp 119) (tmp 120) 9
                exact x_dec (x_nes (l := secB x) (m := secB x) rfl e119 e120) (decide_eq_false (fun h => h rfl))
              intro a236 hE e121 kp
              replace e118 := (kp 118 rfl).trans e118
              apply sq_detg 122 hE k rfl (by rfl) (by rfl) rfl rfl e118
              case h =>   -- 6: t122 := Op.move (tmp 121)
                exact x_move rfl e121
              intro a237 hE e122 kp
              replace e118 := (kp 118 rfl).trans e118
              refine sq_skipg 123 hE k rfl (by rfl) (by rfl) rfl rfl (.inl e122) ?_
              intro a238 hE e123 kp
              replace e118 := (kp 118 rfl).trans e118
              replace e122 := (kp 122 rfl).trans e122
              refine sq_skipg 124 hE k rfl (by rfl) (by rfl) rfl rfl (.inl e122) ?_
              intro a239 hE e124 kp
              replace e118 := (kp 118 rfl).trans e118
              replace e122 := (kp 122 rfl).trans e122
              apply sq_detg 125 hE k rfl (by rfl) (by rfl) rfl rfl e118
              case h =>   -- 9: t125 := Op.pick (tmp 122) (tmp 124) (const (Value.bool false))
                exact x_pick_f rfl e122 rfl
              intro a240 hE e125 kp
              replace e118 := (kp 118 rfl).trans e118
              apply sq_det 126 hE k rfl (by rfl) (by rfl) rfl
              case h =>   -- 10: t126 := Op.pick (tmp 118) (const (Value.bool true)) (tmp 125)
                exact x_pick_f rfl e118 e125
              intro a241 hE e126 kp
              apply sq_det 127 hE k rfl (by rfl) (by rfl) rfl
              case h =>   -- 11: t127 := Op.move (tmp 126)
                exact x_move rfl e126
              intro a242 hE e127 kp
              apply sq_detg 128 hE k rfl (by rfl) (by rfl) rfl rfl e127
              case h =>   -- 12: t128 := Op.move (tmp 11)
                exact x_move rfl (hE.eval 11 (by rfl) e11)
              intro a243 hE e128 kp
              replace e127 := (kp 127 rfl).trans e127
              apply sq_detg 129 hE k rfl (by rfl) (by rfl) rfl rfl e127
              case h =>   -- 13: t129 := Op.move (tmp 1)
                exact x_move rfl (hE.eval 1 (by rfl) e1)
              intro a244 hE e129 kp
              replace e127 := (kp 127 rfl).trans e127
              replace e128 := (kp 128 rfl).trans e128
              apply sq_detg 130 hE k rfl (by rfl) (by rfl) rfl rfl e127
              case h =>   -- 14: t130 := Op.call {callee := Callee.builtin Builtin.len, args := #[tmp 129], arg
                exact x_len Try.underlying66 rfl e129
              intro a245 hE e130 kp
              replace e127 := (kp 127 rfl).trans e127
              replace e128 := (kp 128 rfl).trans e128
              apply sq_detg 131 hE k rfl (by rfl) (by rfl) rfl rfl e127
              case h =>   -- 15: t131 := Op.binOp BinOp.geq 3 (tmp 128) (tmp 130) 3
                exact x_dec (x_geq rfl e128 e130) (decide_eq_true (by omega))
              intro a246 hE e131 kp
              replace e127 := (kp 127 rfl).trans e127
              apply sq_detg 132 hE k rfl (by rfl) (by rfl) rfl rfl e127
              case h =>   -- 16: t132 := Op.move (tmp 131)
                exact x_move rfl e131
              intro a247 hE e132 kp
              replace e127 := (kp 127 rfl).trans e127
              apply sq_detg 133 hE k rfl (by rfl) (by rfl) rfl rfl e132
              case h =>   -- 17: t133 := Op.move (tmp 12)
                exact x_move rfl (hE.eval 12 (by rfl) e12)
              intro a248 hE e133 kp
              replace e127 := (kp 127 rfl).trans e127
              replace e132 := (kp 132 rfl).trans e132
              apply sq_detg 134 hE k rfl (by rfl) (by rfl) rfl rfl e132
              case h =>   -- 18: t134 := Op.move (tmp 14)
                exact x_move rfl (hE.eval 14 (by rfl) e14)
              intro a249 hE e134 kp
              replace e127 := (kp 127 rfl).trans e127
              replace e132 := (kp 132 rfl).trans e132
              replace e133 := (kp 133 rfl).trans e133
              apply sq_detg 135 hE k rfl (by rfl) (by rfl) rfl rfl e132
              case h =>   -- 19: t135 := Op.binOp BinOp.neq 9 (tmp 133) (tmp 134) 9
                exact x_dec (x_nes (l := secB x) (m := secB x) rfl e133 e134) (decide_eq_false (fun h => h rfl))
              intro a250 hE e135 kp
              replace e127 := (kp 127 rfl).trans e127
              replace e132 := (kp 132 rfl).trans e132
              apply sq_detg 136 hE k rfl (by rfl) (by rfl) rfl rfl e127
              case h =>   -- 20: t136 := Op.pick (tmp 132) (tmp 135) (const (Value.bool false))
                exact x_pick_t rfl e132 e135
              intro a251 hE e136 kp
              replace e127 := (kp 127 rfl).trans e127
              apply sq_det 137 hE k rfl (by rfl) (by rfl) rfl
              case h =>   -- 21: t137 := Op.pick (tmp 127) (const (Value.bool true)) (tmp 136)
                exact x_pick_f rfl e127 e136
              intro a252 hE e137 kp
              refine wpList_nil ?_
              replace e0 := hE.eval 0 (by rfl) e0
              replace e1 := hE.eval 1 (by rfl) e1
              replace e2 := hE.eval 2 (by rfl) e2
              replace e8 := hE.eval 8 (by rfl) e8
              replace e11 := hE.eval 11 (by rfl) e11
              replace e12 := hE.eval 12 (by rfl) e12
              replace e14 := hE.eval 14 (by rfl) e14
              replace k := k.env hE
              clear hE e13 e15
              refine then_n ?_
              refine cond_f e137 rfl ?_
              refine wp_skip ?_
              refine then_n ?_
              by_cases hq : q = []
              · skip
                refine wp_seq ?_
                refine wp_region_lit ?_   -- region 33
                have hE := Env.refl a252 [138, 139, 140, 141, 142, 143, 144]
                apply sq_det 138 hE k rfl (by rfl) (by rfl) rfl
                case h =>   -- 0: t138 := Op.move (tmp 2)
                  exact x_move rfl (hE.eval 2 (by rfl) e2)
                intro a253 hE e138 kp
                apply sq_det 139 hE k rfl (by rfl) (by rfl) rfl
                case h =>   -- 1: t139 := Op.binOp BinOp.eql 9 (tmp 138) (const (Value.string {data := #[]})) 9
                  exact x_dec (x_eqs (l := q) (m := []) rfl e138 rfl) (decide_eq_true hq)
                intro a254 hE e139 kp
                apply sq_det 140 hE k rfl (by rfl) (by rfl) rfl
                case h =>   -- 2: t140 := Op.move (tmp 139)
                  exact x_move rfl e139
                intro a255 hE e140 kp
                apply sq_detg 141 hE k rfl (by rfl) (by rfl) rfl rfl e140
                case h =>   -- 3: t141 := Op.move (tmp 12)
                  exact x_move rfl (hE.eval 12 (by rfl) e12)
                intro a256 hE e141 kp
                replace e140 := (kp 140 rfl).trans e140
                apply sq_detg 142 hE k rfl (by rfl) (by rfl) rfl rfl e140
                case h =>   -- 4: t142 := Op.move (tmp 14)
                  exact x_move rfl (hE.eval 14 (by rfl) e14)
                intro a257 hE e142 kp
                replace e140 := (kp 140 rfl).trans e140
                replace e141 := (kp 141 rfl).trans e141
                apply sq_detg 143 hE k rfl (by rfl) (by rfl) rfl rfl e140
                case h =>   -- 5: t143 := Op.binOp BinOp.neq 9 (tmp 141) (tmp 142) 9
                  exact x_dec (x_nes (l := secB x) (m := secB x) rfl e141 e142) (decide_eq_false (fun h => h rfl))
                intro a258 hE e143 kp
                replace e140 := (kp 140 rfl).trans e140
                apply sq_det 144 hE k rfl (by rfl) (by rfl) rfl
                case h =>   -- 6: t144 := Op.pick (tmp 140) (tmp 143) (const (Value.bool false))
                  exact x_pick_t rfl e140 e143
                intro a259 hE e144 kp
                refine wpList_nil ?_
                replace e0 := hE.eval 0 (by rfl) e0
                replace e1 := hE.eval 1 (by rfl) e1
                replace e2 := hE.eval 2 (by rfl) e2
                replace e8 := hE.eval 8 (by rfl) e8
                replace e11 := hE.eval 11 (by rfl) e11
                replace k := k.env hE
                clear hE e12 e14 e137
                refine then_n ?_
                refine cond_f e144 rfl ?_
                refine wp_skip ?_
                refine block_n ?_
                refine then_n ?_
                refine wp_region_lit ?_   -- region 25
                have hE := Env.refl a259 [85, 86, 11]
                apply sq_det 85 hE k rfl (by rfl) (by rfl) rfl
                case h =>   -- 0: t85 := Op.move (tmp 11)
                  exact x_move rfl e11
                intro a260 hE e85 kp
                replace e11 := (kp 11 rfl).trans e11
                apply sq_det 86 hE k rfl (by rfl) (by rfl) rfl
                case h =>   -- 1: t86 := Op.binOp BinOp.add 3 (tmp 85) (const (Value.int IntKind.i64 1)) 3
                  exact x_add rfl e85 rfl (by omega)
                intro a261 hE e86 kp
                replace e11 := (kp 11 rfl).trans e11
                apply sq_det 11 hE k rfl (by rfl) (by rfl) rfl
                case h =>   -- 2: t11 := Op.assign (tmp 86)
                  exact x_assign rfl e86
                intro a262 hE e11 kp
                refine wpList_nil ?_
                replace e0 := hE.eval 0 (by rfl) e0
                replace e1 := hE.eval 1 (by rfl) e1
                replace e2 := hE.eval 2 (by rfl) e2
                replace e8 := hE.eval 8 (by rfl) e8
                replace k := k.env hE
                clear hE e144
                refine then_n ?_
                refine ⟨⟨k, e0, e1, e2, e8, i + 1, e11, by omega, O⟩, ?_⟩
                rw [e11, mi]; simp only [intOf]; omega
              · skip
                refine wp_seq ?_
                refine wp_region_lit ?_   -- region 33
                have hE := Env.refl a252 [138, 139, 140, 141, 142, 143, 144]
                apply sq_det 138 hE k rfl (by rfl) (by rfl) rfl
                case h =>   -- 0: t138 := Op.move (tmp 2)
                  exact x_move rfl (hE.eval 2 (by rfl) e2)
                intro a263 hE e138 kp
                apply sq_det 139 hE k rfl (by rfl) (by rfl) rfl
                case h =>   -- 1: t139 := Op.binOp BinOp.eql 9 (tmp 138) (const (Value.string {data := #[]})) 9
                  exact x_dec (x_eqs (l := q) (m := []) rfl e138 rfl) (decide_eq_false hq)
                intro a264 hE e139 kp
                apply sq_det 140 hE k rfl (by rfl) (by rfl) rfl
                case h =>   -- 2: t140 := Op.move (tmp 139)
                  exact x_move rfl e139
                intro a265 hE e140 kp
                refine sq_skipg 141 hE k rfl (by rfl) (by rfl) rfl rfl (.inl e140) ?_
                intro a266 hE e141 kp
                replace e140 := (kp 140 rfl).trans e140
                refine sq_skipg 142 hE k rfl (by rfl) (by rfl) rfl rfl (.inl e140) ?_
                intro a267 hE e142 kp
                replace e140 := (kp 140 rfl).trans e140
                replace e141 := (kp 141 rfl).trans e141
                refine sq_skipg 143 hE k rfl (by rfl) (by rfl) rfl rfl (.inl e140) ?_
                intro a268 hE e143 kp
                replace e140 := (kp 140 rfl).trans e140
                apply sq_det 144 hE k rfl (by rfl) (by rfl) rfl
                case h =>   -- 6: t144 := Op.pick (tmp 140) (tmp 143) (const (Value.bool false))
                  exact x_pick_f rfl e140 rfl
                intro a269 hE e144 kp
                refine wpList_nil ?_
                replace e0 := hE.eval 0 (by rfl) e0
                replace e1 := hE.eval 1 (by rfl) e1
                replace e2 := hE.eval 2 (by rfl) e2
                replace e8 := hE.eval 8 (by rfl) e8
                replace e11 := hE.eval 11 (by rfl) e11
                replace k := k.env hE
                clear hE e12 e14 e137
                refine then_n ?_
                refine cond_f e144 rfl ?_
                refine wp_skip ?_
                refine block_n ?_
                refine then_n ?_
                refine wp_region_lit ?_   -- region 25
                have hE := Env.refl a269 [85, 86, 11]
                apply sq_det 85 hE k rfl (by rfl) (by rfl) rfl
                case h =>   -- 0: t85 := Op.move (tmp 11)
                  exact x_move rfl e11
                intro a270 hE e85 kp
                replace e11 := (kp 11 rfl).trans e11
                apply sq_det 86 hE k rfl (by rfl) (by rfl) rfl
                case h =>   -- 1: t86 := Op.binOp BinOp.add 3 (tmp 85) (const (Value.int IntKind.i64 1)) 3
                  exact x_add rfl e85 rfl (by omega)
                intro a271 hE e86 kp
                replace e11 := (kp 11 rfl).trans e11
                apply sq_det 11 hE k rfl (by rfl) (by rfl) rfl
                case h =>   -- 2: t11 := Op.assign (tmp 86)
                  exact x_assign rfl e86
                intro a272 hE e11 kp
                refine wpList_nil ?_
                replace e0 := hE.eval 0 (by rfl) e0
                replace e1 := hE.eval 1 (by rfl) e1
                replace e2 := hE.eval 2 (by rfl) e2
                replace e8 := hE.eval 8 (by rfl) e8
                replace k := k.env hE
                clear hE e144
                refine then_n ?_
                refine ⟨⟨k, e0, e1, e2, e8, i + 1, e11, by omega, O⟩, ?_⟩
                rw [e11, mi]; simp only [intOf]; omega
          · have hy := hiy
            by_cases heq : secB (ys.getD i 0) = secB x
            · skip
              obtain ⟨y, hyy⟩ : ∃ y, ys[i]? = some y := ⟨_, List.getElem?_eq_getElem hy⟩
              obtain ⟨b2, o2, rfl, cy⟩ := u8_at r2 O.below hyy
              refine wp_seq ?_
              refine wp_region_lit ?_   -- region 30
              have hE := Env.refl a159 [103, 104, 105, 106, 107, 108, 109, 110, 111, 112, 113, 114, 115, 15]
              apply sq_det 103 hE k rfl (by rfl) (by rfl) rfl
              case h =>   -- 0: t103 := Op.move (tmp 11)
                exact x_move rfl (hE.eval 11 (by rfl) e11)
              intro a273 hE e103 kp
              apply sq_det 104 hE k rfl (by rfl) (by rfl) rfl
              case h =>   -- 1: t104 := Op.move (tmp 1)
                exact x_move rfl (hE.eval 1 (by rfl) e1)
              intro a274 hE e104 kp
              replace e103 := (kp 103 rfl).trans e103
              apply sq_det 105 hE k rfl (by rfl) (by rfl) rfl
              case h =>   -- 2: t105 := Op.call {callee := Callee.builtin Builtin.len, args := #[tmp 104], arg
                exact x_len Try.underlying66 rfl e104
              intro a275 hE e105 kp
              replace e103 := (kp 103 rfl).trans e103
              apply sq_det 106 hE k rfl (by rfl) (by rfl) rfl
              case h =>   -- 3: t106 := Op.binOp BinOp.lss 3 (tmp 103) (tmp 105) 3
                exact x_dec (x_lss rfl e103 e105) (decide_eq_true (by omega))
              intro a276 hE e106 kp
              apply sq_det 107 hE k rfl (by rfl) (by rfl) rfl
              case h =>   -- 4: t107 := Op.move (tmp 106)
                exact x_move rfl e106
              intro a277 hE e107 kp
              apply sq_detg 108 hE k rfl (by rfl) (by rfl) rfl rfl e107
              case h =>   -- 5: t108 := Op.move (tmp 12)
                exact x_move rfl (hE.eval 12 (by rfl) e12)
              intro a278 hE e108 kp
              replace e107 := (kp 107 rfl).trans e107
              apply sq_detg 109 hE k rfl (by rfl) (by rfl) rfl rfl e107
              case h =>   -- 6: t109 := Op.move (tmp 1)
                exact x_move rfl (hE.eval 1 (by rfl) e1)
              intro a279 hE e109 kp
              replace e107 := (kp 107 rfl).trans e107
              replace e108 := (kp 108 rfl).trans e108
              apply sq_detg 110 hE k rfl (by rfl) (by rfl) rfl rfl e107
              case h =>   -- 7: t110 := Op.move (tmp 11)
                exact x_move rfl (hE.eval 11 (by rfl) e11)
              intro a280 hE e110 kp
              replace e107 := (kp 107 rfl).trans e107
              replace e108 := (kp 108 rfl).trans e108
              replace e109 := (kp 109 rfl).trans e109
              apply sq_detg 111 hE k rfl (by rfl) (by rfl) rfl rfl e107
              case h =>   -- 8: t111 := Op.indexAddr 66 (tmp 109) (tmp 110)
                simp [go_sem, BigFrame.eval_const, BigFrame.eval_global, BigFrame.eval_func, ↓IntWalk.iteOmega, ev e109, ev e110]
                with_reducible rfl
              intro a281 hE e111 kp
              replace e107 := (kp 107 rfl).trans e107
              replace e108 := (kp 108 rfl).trans e108
              apply sq_detg 112 hE k rfl (by rfl) (by rfl) rfl rfl e107
              case h =>   -- 9: t112 := Op.load 5 (tmp 111)
                simp [go_sem, BigFrame.eval_const, BigFrame.eval_global, BigFrame.eval_func, ↓IntWalk.iteOmega, ev e111, cy]
                with_reducible rfl
              intro a282 hE e112 kp
              replace e107 := (kp 107 rfl).trans e107
              replace e108 := (kp 108 rfl).trans e108
              apply sq_callg 113 hE k rfl (by rfl) (by rfl) rfl rfl e107
              case h =>   -- tierce/tiercelaw04.sector
                simp [go_sem, BigFrame.eval_const, BigFrame.eval_global, BigFrame.eval_func, ↓IntWalk.iteOmega, ev e112]
                with_reducible exact ⟨rfl, rfl⟩
              case hc => exact sector_any y _
              rintro e w284 ⟨rfl, R⟩
              replace O := OwnT.ext O R
              refine ⟨_, rfl, ?_⟩
              intro a283 hE e113 kp
              replace e107 := (kp 107 rfl).trans e107
              replace e108 := (kp 108 rfl).trans e108
              apply sq_detg 114 hE k rfl (by rfl) (by rfl) rfl rfl e107
              case h =>   -- 11: t114 := Op.binOp BinOp.eql 9 (tmp 108) (tmp 113) 9
                exact x_eqs (l := secB (ys.getD i 0)) (m := List.replicate 16 y) rfl e108 e113
              intro a285 hE e114 kp
              replace e107 := (kp 107 rfl).trans e107
              apply sq_det 115 hE k rfl (by rfl) (by rfl) rfl
              case h =>   -- 12: t115 := Op.pick (tmp 107) (tmp 114) (const (Value.bool false))
                exact x_pick_t rfl e107 e114
              intro a286 hE e115 kp
              apply sq_det 15 hE k rfl (by rfl) (by rfl) rfl
              case h =>   -- 13: t15 := Op.assign (tmp 115)
                exact x_assign rfl e115
              intro a287 hE e15 kp
              refine wpList_nil ?_
              replace e0 := hE.eval 0 (by rfl) e0
              replace e1 := hE.eval 1 (by rfl) e1
              replace e2 := hE.eval 2 (by rfl) e2
              replace e8 := hE.eval 8 (by rfl) e8
              replace e11 := hE.eval 11 (by rfl) e11
              replace e12 := hE.eval 12 (by rfl) e12
              replace e13 := hE.eval 13 (by rfl) e13
              replace e14 := hE.eval 14 (by rfl) e14
              replace k := k.env hE
              clear hE
              refine then_n ?_
              refine wp_seq ?_
              refine wp_seq ?_
              refine wp_region_lit ?_   -- region 31
              have hE := Env.refl a287 [116, 117, 118, 119, 120, 121, 122, 123, 124, 125, 126, 127, 128, 129, 130, 131, 132, 133, 134, 135, 136, 137]
              apply sq_det 116 hE k rfl (by rfl) (by rfl) rfl
              case h =>   -- 0: t116 := Op.move (tmp 13)
                exact x_move rfl (hE.eval 13 (by rfl) e13)
              intro a288 hE e116 kp
              apply sq_det 117 hE k rfl (by rfl) (by rfl) rfl
              case h =>   -- 1: t117 := Op.binOp BinOp.neq 36 (tmp 116) (const (Value.int IntKind.i64 0)) 36
                exact x_dec (x_neq rfl e116 rfl) (decide_eq_false (by omega))
              intro a289 hE e117 kp
              apply sq_det 118 hE k rfl (by rfl) (by rfl) rfl
              case h =>   -- 2: t118 := Op.move (tmp 117)
                exact x_move rfl e117
              intro a290 hE e118 kp
              apply sq_detg 119 hE k rfl (by rfl) (by rfl) rfl rfl e118
              case h =>   -- 3: t119 := Op.move (tmp 12)
                exact x_move rfl (hE.eval 12 (by rfl) e12)
              intro a291 hE e119 kp
              replace e118 := (kp 118 rfl).trans e118
              apply sq_detg 120 hE k rfl (by rfl) (by rfl) rfl rfl e118
              case h =>   -- 4: t120 := Op.move (tmp 14)
                exact x_move rfl (hE.eval 14 (by rfl) e14)
              intro a292 hE e120 kp
              replace e118 := (kp 118 rfl).trans e118
              replace e119 := (kp 119 rfl).trans e119
              apply sq_detg 121 hE k rfl (by rfl) (by rfl) rfl rfl e118
              case h =>   -- 5: t121 := Op.binOp BinOp.neq 9 (tmp 119) (tmp 120) 9
                exact x_dec (x_nes (l := secB (ys.getD i 0)) (m := secB x) rfl e119 e120) (decide_eq_false (fun h => h heq))
              intro a293 hE e121 kp
              replace e118 := (kp 118 rfl).trans e118
              apply sq_detg 122 hE k rfl (by rfl) (by rfl) rfl rfl e118
              case h =>   -- 6: t122 := Op.move (tmp 121)
                exact x_move rfl e121
              intro a294 hE e122 kp
              replace e118 := (kp 118 rfl).trans e118
              refine sq_skipg 123 hE k rfl (by rfl) (by rfl) rfl rfl (.inl e122) ?_
              intro a295 hE e123 kp
              replace e118 := (kp 118 rfl).trans e118
              replace e122 := (kp 122 rfl).trans e122
              refine sq_skipg 124 hE k rfl (by rfl) (by rfl) rfl rfl (.inl e122) ?_
              intro a296 hE e124 kp
              replace e118 := (kp 118 rfl).trans e118
              replace e122 := (kp 122 rfl).trans e122
              apply sq_detg 125 hE k rfl (by rfl) (by rfl) rfl rfl e118
              case h =>   -- 9: t125 := Op.pick (tmp 122) (tmp 124) (const (Value.bool false))
                exact x_pick_f rfl e122 rfl
              intro a297 hE e125 kp
              replace e118 := (kp 118 rfl).trans e118
              apply sq_det 126 hE k rfl (by rfl) (by rfl) rfl
              case h =>   -- 10: t126 := Op.pick (tmp 118) (const (Value.bool true)) (tmp 125)
                exact x_pick_f rfl e118 e125
              intro a298 hE e126 kp
              apply sq_det 127 hE k rfl (by rfl) (by rfl) rfl
              case h =>   -- 11: t127 := Op.move (tmp 126)
                exact x_move rfl e126
              intro a299 hE e127 kp
              apply sq_detg 128 hE k rfl (by rfl) (by rfl) rfl rfl e127
              case h =>   -- 12: t128 := Op.move (tmp 11)
                exact x_move rfl (hE.eval 11 (by rfl) e11)
              intro a300 hE e128 kp
              replace e127 := (kp 127 rfl).trans e127
              apply sq_detg 129 hE k rfl (by rfl) (by rfl) rfl rfl e127
              case h =>   -- 13: t129 := Op.move (tmp 1)
                exact x_move rfl (hE.eval 1 (by rfl) e1)
              intro a301 hE e129 kp
              replace e127 := (kp 127 rfl).trans e127
              replace e128 := (kp 128 rfl).trans e128
              apply sq_detg 130 hE k rfl (by rfl) (by rfl) rfl rfl e127
              case h =>   -- 14: t130 := Op.call {callee := Callee.builtin Builtin.len, args := #[tmp 129], arg
                exact x_len Try.underlying66 rfl e129
              intro a302 hE e130 kp
              replace e127 := (kp 127 rfl).trans e127
              replace e128 := (kp 128 rfl).trans e128
              apply sq_detg 131 hE k rfl (by rfl) (by rfl) rfl rfl e127
              case h =>   -- 15: t131 := Op.binOp BinOp.geq 3 (tmp 128) (tmp 130) 3
                exact x_dec (x_geq rfl e128 e130) (decide_eq_false (by omega))
              intro a303 hE e131 kp
              replace e127 := (kp 127 rfl).trans e127
              apply sq_detg 132 hE k rfl (by rfl) (by rfl) rfl rfl e127
              case h =>   -- 16: t132 := Op.move (tmp 131)
                exact x_move rfl e131
              intro a304 hE e132 kp
              replace e127 := (kp 127 rfl).trans e127
              refine sq_skipg 133 hE k rfl (by rfl) (by rfl) rfl rfl (.inl e132) ?_
              intro a305 hE e133 kp
              replace e127 := (kp 127 rfl).trans e127
              replace e132 := (kp 132 rfl).trans e132
              refine sq_skipg 134 hE k rfl (by rfl) (by rfl) rfl rfl (.inl e132) ?_
              intro a306 hE e134 kp
              replace e127 := (kp 127 rfl).trans e127
              replace e132 := (kp 132 rfl).trans e132
              replace e133 := (kp 133 rfl).trans e133
              refine sq_skipg 135 hE k rfl (by rfl) (by rfl) rfl rfl (.inl e132) ?_
              intro a307 hE e135 kp
              replace e127 := (kp 127 rfl).trans e127
              replace e132 := (kp 132 rfl).trans e132
              apply sq_detg 136 hE k rfl (by rfl) (by rfl) rfl rfl e127
              case h =>   -- 20: t136 := Op.pick (tmp 132) (tmp 135) (const (Value.bool false))
                exact x_pick_f rfl e132 rfl
              intro a308 hE e136 kp
              replace e127 := (kp 127 rfl).trans e127
              apply sq_det 137 hE k rfl (by rfl) (by rfl) rfl
              case h =>   -- 21: t137 := Op.pick (tmp 127) (const (Value.bool true)) (tmp 136)
                exact x_pick_f rfl e127 e136
              intro a309 hE e137 kp
              refine wpList_nil ?_
              replace e0 := hE.eval 0 (by rfl) e0
              replace e1 := hE.eval 1 (by rfl) e1
              replace e2 := hE.eval 2 (by rfl) e2
              replace e8 := hE.eval 8 (by rfl) e8
              replace e11 := hE.eval 11 (by rfl) e11
              replace e12 := hE.eval 12 (by rfl) e12
              replace e14 := hE.eval 14 (by rfl) e14
              replace k := k.env hE
              clear hE e13 e15
              refine then_n ?_
              refine cond_f e137 rfl ?_
              refine wp_skip ?_
              refine then_n ?_
              refine wp_seq ?_
              refine wp_region_lit ?_   -- region 33
              have hE := Env.refl a309 [138, 139, 140, 141, 142, 143, 144]
              apply sq_det 138 hE k rfl (by rfl) (by rfl) rfl
              case h =>   -- 0: t138 := Op.move (tmp 2)
                exact x_move rfl (hE.eval 2 (by rfl) e2)
              intro a310 hE e138 kp
              apply sq_det 139 hE k rfl (by rfl) (by rfl) rfl
              case h =>   -- 1: t139 := Op.binOp BinOp.eql 9 (tmp 138) (const (Value.string {data := #[]})) 9
                exact x_dec (x_eqs (l := q) (m := []) rfl e138 rfl) (decide_eq_false hq)
              intro a311 hE e139 kp
              apply sq_det 140 hE k rfl (by rfl) (by rfl) rfl
              case h =>   -- 2: t140 := Op.move (tmp 139)
                exact x_move rfl e139
              intro a312 hE e140 kp
              refine sq_skipg 141 hE k rfl (by rfl) (by rfl) rfl rfl (.inl e140) ?_
              intro a313 hE e141 kp
              replace e140 := (kp 140 rfl).trans e140
              refine sq_skipg 142 hE k rfl (by rfl) (by rfl) rfl rfl (.inl e140) ?_
              intro a314 hE e142 kp
              replace e140 := (kp 140 rfl).trans e140
              replace e141 := (kp 141 rfl).trans e141
              refine sq_skipg 143 hE k rfl (by rfl) (by rfl) rfl rfl (.inl e140) ?_
              intro a315 hE e143 kp
              replace e140 := (kp 140 rfl).trans e140
              apply sq_det 144 hE k rfl (by rfl) (by rfl) rfl
              case h =>   -- 6: t144 := Op.pick (tmp 140) (tmp 143) (const (Value.bool false))
                exact x_pick_f rfl e140 rfl
              intro a316 hE e144 kp
              refine wpList_nil ?_
              replace e0 := hE.eval 0 (by rfl) e0
              replace e1 := hE.eval 1 (by rfl) e1
              replace e2 := hE.eval 2 (by rfl) e2
              replace e8 := hE.eval 8 (by rfl) e8
              replace e11 := hE.eval 11 (by rfl) e11
              replace k := k.env hE
              clear hE e12 e14 e137
              refine then_n ?_
              refine cond_f e144 rfl ?_
              refine wp_skip ?_
              refine block_n ?_
              refine then_n ?_
              refine wp_region_lit ?_   -- region 25
              have hE := Env.refl a316 [85, 86, 11]
              apply sq_det 85 hE k rfl (by rfl) (by rfl) rfl
              case h =>   -- 0: t85 := Op.move (tmp 11)
                exact x_move rfl e11
              intro a317 hE e85 kp
              replace e11 := (kp 11 rfl).trans e11
              apply sq_det 86 hE k rfl (by rfl) (by rfl) rfl
              case h =>   -- 1: t86 := Op.binOp BinOp.add 3 (tmp 85) (const (Value.int IntKind.i64 1)) 3
                exact x_add rfl e85 rfl (by omega)
              intro a318 hE e86 kp
              replace e11 := (kp 11 rfl).trans e11
              apply sq_det 11 hE k rfl (by rfl) (by rfl) rfl
              case h =>   -- 2: t11 := Op.assign (tmp 86)
                exact x_assign rfl e86
              intro a319 hE e11 kp
              refine wpList_nil ?_
              replace e0 := hE.eval 0 (by rfl) e0
              replace e1 := hE.eval 1 (by rfl) e1
              replace e2 := hE.eval 2 (by rfl) e2
              replace e8 := hE.eval 8 (by rfl) e8
              replace k := k.env hE
              clear hE e144
              refine then_n ?_
              refine ⟨⟨k, e0, e1, e2, e8, i + 1, e11, by omega, O⟩, ?_⟩
              rw [e11, mi]; simp only [intOf]; omega
            · skip
              obtain ⟨y, hyy⟩ : ∃ y, ys[i]? = some y := ⟨_, List.getElem?_eq_getElem hy⟩
              obtain ⟨b2, o2, rfl, cy⟩ := u8_at r2 O.below hyy
              refine wp_seq ?_
              refine wp_region_lit ?_   -- region 30
              have hE := Env.refl a159 [103, 104, 105, 106, 107, 108, 109, 110, 111, 112, 113, 114, 115, 15]
              apply sq_det 103 hE k rfl (by rfl) (by rfl) rfl
              case h =>   -- 0: t103 := Op.move (tmp 11)
                exact x_move rfl (hE.eval 11 (by rfl) e11)
              intro a320 hE e103 kp
              apply sq_det 104 hE k rfl (by rfl) (by rfl) rfl
              case h =>   -- 1: t104 := Op.move (tmp 1)
                exact x_move rfl (hE.eval 1 (by rfl) e1)
              intro a321 hE e104 kp
              replace e103 := (kp 103 rfl).trans e103
              apply sq_det 105 hE k rfl (by rfl) (by rfl) rfl
              case h =>   -- 2: t105 := Op.call {callee := Callee.builtin Builtin.len, args := #[tmp 104], arg
                exact x_len Try.underlying66 rfl e104
              intro a322 hE e105 kp
              replace e103 := (kp 103 rfl).trans e103
              apply sq_det 106 hE k rfl (by rfl) (by rfl) rfl
              case h =>   -- 3: t106 := Op.binOp BinOp.lss 3 (tmp 103) (tmp 105) 3
                exact x_dec (x_lss rfl e103 e105) (decide_eq_true (by omega))
              intro a323 hE e106 kp
              apply sq_det 107 hE k rfl (by rfl) (by rfl) rfl
              case h =>   -- 4: t107 := Op.move (tmp 106)
                exact x_move rfl e106
              intro a324 hE e107 kp
              apply sq_detg 108 hE k rfl (by rfl) (by rfl) rfl rfl e107
              case h =>   -- 5: t108 := Op.move (tmp 12)
                exact x_move rfl (hE.eval 12 (by rfl) e12)
              intro a325 hE e108 kp
              replace e107 := (kp 107 rfl).trans e107
              apply sq_detg 109 hE k rfl (by rfl) (by rfl) rfl rfl e107
              case h =>   -- 6: t109 := Op.move (tmp 1)
                exact x_move rfl (hE.eval 1 (by rfl) e1)
              intro a326 hE e109 kp
              replace e107 := (kp 107 rfl).trans e107
              replace e108 := (kp 108 rfl).trans e108
              apply sq_detg 110 hE k rfl (by rfl) (by rfl) rfl rfl e107
              case h =>   -- 7: t110 := Op.move (tmp 11)
                exact x_move rfl (hE.eval 11 (by rfl) e11)
              intro a327 hE e110 kp
              replace e107 := (kp 107 rfl).trans e107
              replace e108 := (kp 108 rfl).trans e108
              replace e109 := (kp 109 rfl).trans e109
              apply sq_detg 111 hE k rfl (by rfl) (by rfl) rfl rfl e107
              case h =>   -- 8: t111 := Op.indexAddr 66 (tmp 109) (tmp 110)
                simp [go_sem, BigFrame.eval_const, BigFrame.eval_global, BigFrame.eval_func, ↓IntWalk.iteOmega, ev e109, ev e110]
                with_reducible rfl
              intro a328 hE e111 kp
              replace e107 := (kp 107 rfl).trans e107
              replace e108 := (kp 108 rfl).trans e108
              apply sq_detg 112 hE k rfl (by rfl) (by rfl) rfl rfl e107
              case h =>   -- 9: t112 := Op.load 5 (tmp 111)
                simp [go_sem, BigFrame.eval_const, BigFrame.eval_global, BigFrame.eval_func, ↓IntWalk.iteOmega, ev e111, cy]
                with_reducible rfl
              intro a329 hE e112 kp
              replace e107 := (kp 107 rfl).trans e107
              replace e108 := (kp 108 rfl).trans e108
              apply sq_callg 113 hE k rfl (by rfl) (by rfl) rfl rfl e107
              case h =>   -- tierce/tiercelaw04.sector
                simp [go_sem, BigFrame.eval_const, BigFrame.eval_global, BigFrame.eval_func, ↓IntWalk.iteOmega, ev e112]
                with_reducible exact ⟨rfl, rfl⟩
              case hc => exact sector_any y _
              rintro e w331 ⟨rfl, R⟩
              replace O := OwnT.ext O R
              refine ⟨_, rfl, ?_⟩
              intro a330 hE e113 kp
              replace e107 := (kp 107 rfl).trans e107
              replace e108 := (kp 108 rfl).trans e108
              apply sq_detg 114 hE k rfl (by rfl) (by rfl) rfl rfl e107
              case h =>   -- 11: t114 := Op.binOp BinOp.eql 9 (tmp 108) (tmp 113) 9
                exact x_dec (x_eqs (l := secB (ys.getD i 0)) (m := List.replicate 16 y) rfl e108 e113) (decide_eq_true (by rw [show ys.getD i 0 = y by simp [List.getD, hyy]]))
              intro a332 hE e114 kp
              replace e107 := (kp 107 rfl).trans e107
              apply sq_det 115 hE k rfl (by rfl) (by rfl) rfl
              case h =>   -- 12: t115 := Op.pick (tmp 107) (tmp 114) (const (Value.bool false))
                exact x_pick_t rfl e107 e114
              intro a333 hE e115 kp
              apply sq_det 15 hE k rfl (by rfl) (by rfl) rfl
              case h =>   -- 13: t15 := Op.assign (tmp 115)
                exact x_assign rfl e115
              intro a334 hE e15 kp
              refine wpList_nil ?_
              replace e0 := hE.eval 0 (by rfl) e0
              replace e1 := hE.eval 1 (by rfl) e1
              replace e2 := hE.eval 2 (by rfl) e2
              replace e8 := hE.eval 8 (by rfl) e8
              replace e11 := hE.eval 11 (by rfl) e11
              replace e12 := hE.eval 12 (by rfl) e12
              replace e13 := hE.eval 13 (by rfl) e13
              replace e14 := hE.eval 14 (by rfl) e14
              replace k := k.env hE
              clear hE
              refine then_n ?_
              refine wp_seq ?_
              refine wp_seq ?_
              refine wp_region_lit ?_   -- region 31
              have hE := Env.refl a334 [116, 117, 118, 119, 120, 121, 122, 123, 124, 125, 126, 127, 128, 129, 130, 131, 132, 133, 134, 135, 136, 137]
              apply sq_det 116 hE k rfl (by rfl) (by rfl) rfl
              case h =>   -- 0: t116 := Op.move (tmp 13)
                exact x_move rfl (hE.eval 13 (by rfl) e13)
              intro a335 hE e116 kp
              apply sq_det 117 hE k rfl (by rfl) (by rfl) rfl
              case h =>   -- 1: t117 := Op.binOp BinOp.neq 36 (tmp 116) (const (Value.int IntKind.i64 0)) 36
                exact x_dec (x_neq rfl e116 rfl) (decide_eq_false (by omega))
              intro a336 hE e117 kp
              apply sq_det 118 hE k rfl (by rfl) (by rfl) rfl
              case h =>   -- 2: t118 := Op.move (tmp 117)
                exact x_move rfl e117
              intro a337 hE e118 kp
              apply sq_detg 119 hE k rfl (by rfl) (by rfl) rfl rfl e118
              case h =>   -- 3: t119 := Op.move (tmp 12)
                exact x_move rfl (hE.eval 12 (by rfl) e12)
              intro a338 hE e119 kp
              replace e118 := (kp 118 rfl).trans e118
              apply sq_detg 120 hE k rfl (by rfl) (by rfl) rfl rfl e118
              case h =>   -- 4: t120 := Op.move (tmp 14)
                exact x_move rfl (hE.eval 14 (by rfl) e14)
              intro a339 hE e120 kp
              replace e118 := (kp 118 rfl).trans e118
              replace e119 := (kp 119 rfl).trans e119
              apply sq_detg 121 hE k rfl (by rfl) (by rfl) rfl rfl e118
              case h =>   -- 5: t121 := Op.binOp BinOp.neq 9 (tmp 119) (tmp 120) 9
                exact x_dec (x_nes (l := secB (ys.getD i 0)) (m := secB x) rfl e119 e120) (decide_eq_true heq)
              intro a340 hE e121 kp
              replace e118 := (kp 118 rfl).trans e118
              apply sq_detg 122 hE k rfl (by rfl) (by rfl) rfl rfl e118
              case h =>   -- 6: t122 := Op.move (tmp 121)
                exact x_move rfl e121
              intro a341 hE e122 kp
              replace e118 := (kp 118 rfl).trans e118
              apply sq_detg 123 hE k rfl (by rfl) (by rfl) rfl rfl e122
              case h =>   -- 7: t123 := Op.move (tmp 15)
                exact x_move rfl (hE.eval 15 (by rfl) e15)
              intro a342 hE e123 kp
              replace e118 := (kp 118 rfl).trans e118
              replace e122 := (kp 122 rfl).trans e122
              apply sq_detg 124 hE k rfl (by rfl) (by rfl) rfl rfl e122
              case h =>   -- 8: t124 := Op.unOp UnOp.not 4 (tmp 123)
                exact x_not rfl e123
              intro a343 hE e124 kp
              replace e118 := (kp 118 rfl).trans e118
              replace e122 := (kp 122 rfl).trans e122
              apply sq_detg 125 hE k rfl (by rfl) (by rfl) rfl rfl e118
              case h =>   -- 9: t125 := Op.pick (tmp 122) (tmp 124) (const (Value.bool false))
                exact x_pick_t rfl e122 e124
              intro a344 hE e125 kp
              replace e118 := (kp 118 rfl).trans e118
              apply sq_det 126 hE k rfl (by rfl) (by rfl) rfl
              case h =>   -- 10: t126 := Op.pick (tmp 118) (const (Value.bool true)) (tmp 125)
                exact x_pick_f rfl e118 e125
              intro a345 hE e126 kp
              apply sq_det 127 hE k rfl (by rfl) (by rfl) rfl
              case h =>   -- 11: t127 := Op.move (tmp 126)
                exact x_move rfl e126
              intro a346 hE e127 kp
              apply sq_detg 128 hE k rfl (by rfl) (by rfl) rfl rfl e127
              case h =>   -- 12: t128 := Op.move (tmp 11)
                exact x_move rfl (hE.eval 11 (by rfl) e11)
              intro a347 hE e128 kp
              replace e127 := (kp 127 rfl).trans e127
              apply sq_detg 129 hE k rfl (by rfl) (by rfl) rfl rfl e127
              case h =>   -- 13: t129 := Op.move (tmp 1)
                exact x_move rfl (hE.eval 1 (by rfl) e1)
              intro a348 hE e129 kp
              replace e127 := (kp 127 rfl).trans e127
              replace e128 := (kp 128 rfl).trans e128
              apply sq_detg 130 hE k rfl (by rfl) (by rfl) rfl rfl e127
              case h =>   -- 14: t130 := Op.call {callee := Callee.builtin Builtin.len, args := #[tmp 129], arg
                exact x_len Try.underlying66 rfl e129
              intro a349 hE e130 kp
              replace e127 := (kp 127 rfl).trans e127
              replace e128 := (kp 128 rfl).trans e128
              apply sq_detg 131 hE k rfl (by rfl) (by rfl) rfl rfl e127
              case h =>   -- 15: t131 := Op.binOp BinOp.geq 3 (tmp 128) (tmp 130) 3
                exact x_dec (x_geq rfl e128 e130) (decide_eq_false (by omega))
              intro a350 hE e131 kp
              replace e127 := (kp 127 rfl).trans e127
              apply sq_detg 132 hE k rfl (by rfl) (by rfl) rfl rfl e127
              case h =>   -- 16: t132 := Op.move (tmp 131)
                exact x_move rfl e131
              intro a351 hE e132 kp
              replace e127 := (kp 127 rfl).trans e127
              refine sq_skipg 133 hE k rfl (by rfl) (by rfl) rfl rfl (.inl e132) ?_
              intro a352 hE e133 kp
              replace e127 := (kp 127 rfl).trans e127
              replace e132 := (kp 132 rfl).trans e132
              refine sq_skipg 134 hE k rfl (by rfl) (by rfl) rfl rfl (.inl e132) ?_
              intro a353 hE e134 kp
              replace e127 := (kp 127 rfl).trans e127
              replace e132 := (kp 132 rfl).trans e132
              replace e133 := (kp 133 rfl).trans e133
              refine sq_skipg 135 hE k rfl (by rfl) (by rfl) rfl rfl (.inl e132) ?_
              intro a354 hE e135 kp
              replace e127 := (kp 127 rfl).trans e127
              replace e132 := (kp 132 rfl).trans e132
              apply sq_detg 136 hE k rfl (by rfl) (by rfl) rfl rfl e127
              case h =>   -- 20: t136 := Op.pick (tmp 132) (tmp 135) (const (Value.bool false))
                exact x_pick_f rfl e132 rfl
              intro a355 hE e136 kp
              replace e127 := (kp 127 rfl).trans e127
              apply sq_det 137 hE k rfl (by rfl) (by rfl) rfl
              case h =>   -- 21: t137 := Op.pick (tmp 127) (const (Value.bool true)) (tmp 136)
                exact x_pick_f rfl e127 e136
              intro a356 hE e137 kp
              refine wpList_nil ?_
              replace e0 := hE.eval 0 (by rfl) e0
              replace e1 := hE.eval 1 (by rfl) e1
              replace e2 := hE.eval 2 (by rfl) e2
              replace e8 := hE.eval 8 (by rfl) e8
              replace e11 := hE.eval 11 (by rfl) e11
              replace e12 := hE.eval 12 (by rfl) e12
              replace e14 := hE.eval 14 (by rfl) e14
              replace k := k.env hE
              clear hE e13 e15
              refine then_n ?_
              refine cond_f e137 rfl ?_
              refine wp_skip ?_
              refine then_n ?_
              refine wp_seq ?_
              refine wp_region_lit ?_   -- region 33
              have hE := Env.refl a356 [138, 139, 140, 141, 142, 143, 144]
              apply sq_det 138 hE k rfl (by rfl) (by rfl) rfl
              case h =>   -- 0: t138 := Op.move (tmp 2)
                exact x_move rfl (hE.eval 2 (by rfl) e2)
              intro a357 hE e138 kp
              apply sq_det 139 hE k rfl (by rfl) (by rfl) rfl
              case h =>   -- 1: t139 := Op.binOp BinOp.eql 9 (tmp 138) (const (Value.string {data := #[]})) 9
                exact x_dec (x_eqs (l := q) (m := []) rfl e138 rfl) (decide_eq_false hq)
              intro a358 hE e139 kp
              apply sq_det 140 hE k rfl (by rfl) (by rfl) rfl
              case h =>   -- 2: t140 := Op.move (tmp 139)
                exact x_move rfl e139
              intro a359 hE e140 kp
              refine sq_skipg 141 hE k rfl (by rfl) (by rfl) rfl rfl (.inl e140) ?_
              intro a360 hE e141 kp
              replace e140 := (kp 140 rfl).trans e140
              refine sq_skipg 142 hE k rfl (by rfl) (by rfl) rfl rfl (.inl e140) ?_
              intro a361 hE e142 kp
              replace e140 := (kp 140 rfl).trans e140
              replace e141 := (kp 141 rfl).trans e141
              refine sq_skipg 143 hE k rfl (by rfl) (by rfl) rfl rfl (.inl e140) ?_
              intro a362 hE e143 kp
              replace e140 := (kp 140 rfl).trans e140
              apply sq_det 144 hE k rfl (by rfl) (by rfl) rfl
              case h =>   -- 6: t144 := Op.pick (tmp 140) (tmp 143) (const (Value.bool false))
                exact x_pick_f rfl e140 rfl
              intro a363 hE e144 kp
              refine wpList_nil ?_
              replace e0 := hE.eval 0 (by rfl) e0
              replace e1 := hE.eval 1 (by rfl) e1
              replace e2 := hE.eval 2 (by rfl) e2
              replace e8 := hE.eval 8 (by rfl) e8
              replace e11 := hE.eval 11 (by rfl) e11
              replace k := k.env hE
              clear hE e12 e14 e137
              refine then_n ?_
              refine cond_f e144 rfl ?_
              refine wp_skip ?_
              refine block_n ?_
              refine then_n ?_
              refine wp_region_lit ?_   -- region 25
              have hE := Env.refl a363 [85, 86, 11]
              apply sq_det 85 hE k rfl (by rfl) (by rfl) rfl
              case h =>   -- 0: t85 := Op.move (tmp 11)
                exact x_move rfl e11
              intro a364 hE e85 kp
              replace e11 := (kp 11 rfl).trans e11
              apply sq_det 86 hE k rfl (by rfl) (by rfl) rfl
              case h =>   -- 1: t86 := Op.binOp BinOp.add 3 (tmp 85) (const (Value.int IntKind.i64 1)) 3
                exact x_add rfl e85 rfl (by omega)
              intro a365 hE e86 kp
              replace e11 := (kp 11 rfl).trans e11
              apply sq_det 11 hE k rfl (by rfl) (by rfl) rfl
              case h =>   -- 2: t11 := Op.assign (tmp 86)
                exact x_assign rfl e86
              intro a366 hE e11 kp
              refine wpList_nil ?_
              replace e0 := hE.eval 0 (by rfl) e0
              replace e1 := hE.eval 1 (by rfl) e1
              replace e2 := hE.eval 2 (by rfl) e2
              replace e8 := hE.eval 8 (by rfl) e8
              replace k := k.env hE
              clear hE e144
              refine then_n ?_
              refine ⟨⟨k, e0, e1, e2, e8, i + 1, e11, by omega, O⟩, ?_⟩
              rw [e11, mi]; simp only [intOf]; omega
        · have hxI : ¬ (i : Int) < (xs.length : Int) := by omega
          rw [if_neg hxl] at hcase
          refine cond_f e97 (congrArg Value.bool (decide_eq_false (by omega))) ?_
          clear e97
          refine wp_skip ?_
          refine then_n ?_
          rcases hcase with rfl | ⟨hq, hiy, rfl⟩
          · by_cases hy : i < ys.length
            · have hyI : (i : Int) < (ys.length : Int) := by omega
              obtain ⟨y, hyy⟩ : ∃ y, ys[i]? = some y := ⟨_, List.getElem?_eq_getElem hy⟩
              obtain ⟨b2, o2, rfl, cy⟩ := u8_at r2 O.below hyy
              refine wp_seq ?_
              refine wp_region_lit ?_   -- region 30
              have hE := Env.refl a152 [103, 104, 105, 106, 107, 108, 109, 110, 111, 112, 113, 114, 115, 15]
              apply sq_det 103 hE k rfl (by rfl) (by rfl) rfl
              case h =>   -- 0: t103 := Op.move (tmp 11)
                exact x_move rfl (hE.eval 11 (by rfl) e11)
              intro a367 hE e103 kp
              apply sq_det 104 hE k rfl (by rfl) (by rfl) rfl
              case h =>   -- 1: t104 := Op.move (tmp 1)
                exact x_move rfl (hE.eval 1 (by rfl) e1)
              intro a368 hE e104 kp
              replace e103 := (kp 103 rfl).trans e103
              apply sq_det 105 hE k rfl (by rfl) (by rfl) rfl
              case h =>   -- 2: t105 := Op.call {callee := Callee.builtin Builtin.len, args := #[tmp 104], arg
                exact x_len Try.underlying66 rfl e104
              intro a369 hE e105 kp
              replace e103 := (kp 103 rfl).trans e103
              apply sq_det 106 hE k rfl (by rfl) (by rfl) rfl
              case h =>   -- 3: t106 := Op.binOp BinOp.lss 3 (tmp 103) (tmp 105) 3
                exact x_dec (x_lss rfl e103 e105) (decide_eq_true (by omega))
              intro a370 hE e106 kp
              apply sq_det 107 hE k rfl (by rfl) (by rfl) rfl
              case h =>   -- 4: t107 := Op.move (tmp 106)
                exact x_move rfl e106
              intro a371 hE e107 kp
              apply sq_detg 108 hE k rfl (by rfl) (by rfl) rfl rfl e107
              case h =>   -- 5: t108 := Op.move (tmp 12)
                exact x_move rfl (hE.eval 12 (by rfl) e12)
              intro a372 hE e108 kp
              replace e107 := (kp 107 rfl).trans e107
              apply sq_detg 109 hE k rfl (by rfl) (by rfl) rfl rfl e107
              case h =>   -- 6: t109 := Op.move (tmp 1)
                exact x_move rfl (hE.eval 1 (by rfl) e1)
              intro a373 hE e109 kp
              replace e107 := (kp 107 rfl).trans e107
              replace e108 := (kp 108 rfl).trans e108
              apply sq_detg 110 hE k rfl (by rfl) (by rfl) rfl rfl e107
              case h =>   -- 7: t110 := Op.move (tmp 11)
                exact x_move rfl (hE.eval 11 (by rfl) e11)
              intro a374 hE e110 kp
              replace e107 := (kp 107 rfl).trans e107
              replace e108 := (kp 108 rfl).trans e108
              replace e109 := (kp 109 rfl).trans e109
              apply sq_detg 111 hE k rfl (by rfl) (by rfl) rfl rfl e107
              case h =>   -- 8: t111 := Op.indexAddr 66 (tmp 109) (tmp 110)
                simp [go_sem, BigFrame.eval_const, BigFrame.eval_global, BigFrame.eval_func, ↓IntWalk.iteOmega, ev e109, ev e110]
                with_reducible rfl
              intro a375 hE e111 kp
              replace e107 := (kp 107 rfl).trans e107
              replace e108 := (kp 108 rfl).trans e108
              apply sq_detg 112 hE k rfl (by rfl) (by rfl) rfl rfl e107
              case h =>   -- 9: t112 := Op.load 5 (tmp 111)
                simp [go_sem, BigFrame.eval_const, BigFrame.eval_global, BigFrame.eval_func, ↓IntWalk.iteOmega, ev e111, cy]
                with_reducible rfl
              intro a376 hE e112 kp
              replace e107 := (kp 107 rfl).trans e107
              replace e108 := (kp 108 rfl).trans e108
              apply sq_callg 113 hE k rfl (by rfl) (by rfl) rfl rfl e107
              case h =>   -- tierce/tiercelaw04.sector
                simp [go_sem, BigFrame.eval_const, BigFrame.eval_global, BigFrame.eval_func, ↓IntWalk.iteOmega, ev e112]
                with_reducible exact ⟨rfl, rfl⟩
              case hc => exact sector_any y _
              rintro e w378 ⟨rfl, R⟩
              replace O := OwnT.ext O R
              refine ⟨_, rfl, ?_⟩
              intro a377 hE e113 kp
              replace e107 := (kp 107 rfl).trans e107
              replace e108 := (kp 108 rfl).trans e108
              apply sq_detg 114 hE k rfl (by rfl) (by rfl) rfl rfl e107
              case h =>   -- 11: t114 := Op.binOp BinOp.eql 9 (tmp 108) (tmp 113) 9
                exact x_eqs (l := secB 0) (m := List.replicate 16 y) rfl e108 e113
              intro a379 hE e114 kp
              replace e107 := (kp 107 rfl).trans e107
              apply sq_det 115 hE k rfl (by rfl) (by rfl) rfl
              case h =>   -- 12: t115 := Op.pick (tmp 107) (tmp 114) (const (Value.bool false))
                exact x_pick_t rfl e107 e114
              intro a380 hE e115 kp
              apply sq_det 15 hE k rfl (by rfl) (by rfl) rfl
              case h =>   -- 13: t15 := Op.assign (tmp 115)
                exact x_assign rfl e115
              intro a381 hE e15 kp
              refine wpList_nil ?_
              replace e0 := hE.eval 0 (by rfl) e0
              replace e1 := hE.eval 1 (by rfl) e1
              replace e2 := hE.eval 2 (by rfl) e2
              replace e8 := hE.eval 8 (by rfl) e8
              replace e11 := hE.eval 11 (by rfl) e11
              replace e12 := hE.eval 12 (by rfl) e12
              replace e13 := hE.eval 13 (by rfl) e13
              replace e14 := hE.eval 14 (by rfl) e14
              replace k := k.env hE
              clear hE
              refine then_n ?_
              refine wp_seq ?_
              refine wp_seq ?_
              refine wp_region_lit ?_   -- region 31
              have hE := Env.refl a381 [116, 117, 118, 119, 120, 121, 122, 123, 124, 125, 126, 127, 128, 129, 130, 131, 132, 133, 134, 135, 136, 137]
              apply sq_det 116 hE k rfl (by rfl) (by rfl) rfl
              case h =>   -- 0: t116 := Op.move (tmp 13)
                exact x_move rfl (hE.eval 13 (by rfl) e13)
              intro a382 hE e116 kp
              apply sq_det 117 hE k rfl (by rfl) (by rfl) rfl
              case h =>   -- 1: t117 := Op.binOp BinOp.neq 36 (tmp 116) (const (Value.int IntKind.i64 0)) 36
                exact x_dec (x_neq rfl e116 rfl) (decide_eq_false (by omega))
              intro a383 hE e117 kp
              apply sq_det 118 hE k rfl (by rfl) (by rfl) rfl
              case h =>   -- 2: t118 := Op.move (tmp 117)
                exact x_move rfl e117
              intro a384 hE e118 kp
              apply sq_detg 119 hE k rfl (by rfl) (by rfl) rfl rfl e118
              case h =>   -- 3: t119 := Op.move (tmp 12)
                exact x_move rfl (hE.eval 12 (by rfl) e12)
              intro a385 hE e119 kp
              replace e118 := (kp 118 rfl).trans e118
              apply sq_detg 120 hE k rfl (by rfl) (by rfl) rfl rfl e118
              case h =>   -- 4: t120 := Op.move (tmp 14)
                exact x_move rfl (hE.eval 14 (by rfl) e14)
              intro a386 hE e120 kp
              replace e118 := (kp 118 rfl).trans e118
              replace e119 := (kp 119 rfl).trans e119
              apply sq_detg 121 hE k rfl (by rfl) (by rfl) rfl rfl e118
              case h =>   -- 5: t121 := Op.binOp BinOp.neq 9 (tmp 119) (tmp 120) 9
                exact x_dec (x_nes (l := secB 0) (m := secB 0) rfl e119 e120) (decide_eq_false (fun h => h rfl))
              intro a387 hE e121 kp
              replace e118 := (kp 118 rfl).trans e118
              apply sq_detg 122 hE k rfl (by rfl) (by rfl) rfl rfl e118
              case h =>   -- 6: t122 := Op.move (tmp 121)
                exact x_move rfl e121
              intro a388 hE e122 kp
              replace e118 := (kp 118 rfl).trans e118
              refine sq_skipg 123 hE k rfl (by rfl) (by rfl) rfl rfl (.inl e122) ?_
              intro a389 hE e123 kp
              replace e118 := (kp 118 rfl).trans e118
              replace e122 := (kp 122 rfl).trans e122
              refine sq_skipg 124 hE k rfl (by rfl) (by rfl) rfl rfl (.inl e122) ?_
              intro a390 hE e124 kp
              replace e118 := (kp 118 rfl).trans e118
              replace e122 := (kp 122 rfl).trans e122
              apply sq_detg 125 hE k rfl (by rfl) (by rfl) rfl rfl e118
              case h =>   -- 9: t125 := Op.pick (tmp 122) (tmp 124) (const (Value.bool false))
                exact x_pick_f rfl e122 rfl
              intro a391 hE e125 kp
              replace e118 := (kp 118 rfl).trans e118
              apply sq_det 126 hE k rfl (by rfl) (by rfl) rfl
              case h =>   -- 10: t126 := Op.pick (tmp 118) (const (Value.bool true)) (tmp 125)
                exact x_pick_f rfl e118 e125
              intro a392 hE e126 kp
              apply sq_det 127 hE k rfl (by rfl) (by rfl) rfl
              case h =>   -- 11: t127 := Op.move (tmp 126)
                exact x_move rfl e126
              intro a393 hE e127 kp
              apply sq_detg 128 hE k rfl (by rfl) (by rfl) rfl rfl e127
              case h =>   -- 12: t128 := Op.move (tmp 11)
                exact x_move rfl (hE.eval 11 (by rfl) e11)
              intro a394 hE e128 kp
              replace e127 := (kp 127 rfl).trans e127
              apply sq_detg 129 hE k rfl (by rfl) (by rfl) rfl rfl e127
              case h =>   -- 13: t129 := Op.move (tmp 1)
                exact x_move rfl (hE.eval 1 (by rfl) e1)
              intro a395 hE e129 kp
              replace e127 := (kp 127 rfl).trans e127
              replace e128 := (kp 128 rfl).trans e128
              apply sq_detg 130 hE k rfl (by rfl) (by rfl) rfl rfl e127
              case h =>   -- 14: t130 := Op.call {callee := Callee.builtin Builtin.len, args := #[tmp 129], arg
                exact x_len Try.underlying66 rfl e129
              intro a396 hE e130 kp
              replace e127 := (kp 127 rfl).trans e127
              replace e128 := (kp 128 rfl).trans e128
              apply sq_detg 131 hE k rfl (by rfl) (by rfl) rfl rfl e127
              case h =>   -- 15: t131 := Op.binOp BinOp.geq 3 (tmp 128) (tmp 130) 3
                exact x_dec (x_geq rfl e128 e130) (decide_eq_false (by omega))
              intro a397 hE e131 kp
              replace e127 := (kp 127 rfl).trans e127
              apply sq_detg 132 hE k rfl (by rfl) (by rfl) rfl rfl e127
              case h =>   -- 16: t132 := Op.move (tmp 131)
                exact x_move rfl e131
              intro a398 hE e132 kp
              replace e127 := (kp 127 rfl).trans e127
              refine sq_skipg 133 hE k rfl (by rfl) (by rfl) rfl rfl (.inl e132) ?_
              intro a399 hE e133 kp
              replace e127 := (kp 127 rfl).trans e127
              replace e132 := (kp 132 rfl).trans e132
              refine sq_skipg 134 hE k rfl (by rfl) (by rfl) rfl rfl (.inl e132) ?_
              intro a400 hE e134 kp
              replace e127 := (kp 127 rfl).trans e127
              replace e132 := (kp 132 rfl).trans e132
              replace e133 := (kp 133 rfl).trans e133
              refine sq_skipg 135 hE k rfl (by rfl) (by rfl) rfl rfl (.inl e132) ?_
              intro a401 hE e135 kp
              replace e127 := (kp 127 rfl).trans e127
              replace e132 := (kp 132 rfl).trans e132
              apply sq_detg 136 hE k rfl (by rfl) (by rfl) rfl rfl e127
              case h =>   -- 20: t136 := Op.pick (tmp 132) (tmp 135) (const (Value.bool false))
                exact x_pick_f rfl e132 rfl
              intro a402 hE e136 kp
              replace e127 := (kp 127 rfl).trans e127
              apply sq_det 137 hE k rfl (by rfl) (by rfl) rfl
              case h =>   -- 21: t137 := Op.pick (tmp 127) (const (Value.bool true)) (tmp 136)
                exact x_pick_f rfl e127 e136
              intro a403 hE e137 kp
              refine wpList_nil ?_
              replace e0 := hE.eval 0 (by rfl) e0
              replace e1 := hE.eval 1 (by rfl) e1
              replace e2 := hE.eval 2 (by rfl) e2
              replace e8 := hE.eval 8 (by rfl) e8
              replace e11 := hE.eval 11 (by rfl) e11
              replace e12 := hE.eval 12 (by rfl) e12
              replace e14 := hE.eval 14 (by rfl) e14
              replace k := k.env hE
              clear hE e13 e15
              refine then_n ?_
              refine cond_f e137 rfl ?_
              refine wp_skip ?_
              refine then_n ?_
              by_cases hq : q = []
              · skip
                refine wp_seq ?_
                refine wp_region_lit ?_   -- region 33
                have hE := Env.refl a403 [138, 139, 140, 141, 142, 143, 144]
                apply sq_det 138 hE k rfl (by rfl) (by rfl) rfl
                case h =>   -- 0: t138 := Op.move (tmp 2)
                  exact x_move rfl (hE.eval 2 (by rfl) e2)
                intro a404 hE e138 kp
                apply sq_det 139 hE k rfl (by rfl) (by rfl) rfl
                case h =>   -- 1: t139 := Op.binOp BinOp.eql 9 (tmp 138) (const (Value.string {data := #[]})) 9
                  exact x_dec (x_eqs (l := q) (m := []) rfl e138 rfl) (decide_eq_true hq)
                intro a405 hE e139 kp
                apply sq_det 140 hE k rfl (by rfl) (by rfl) rfl
                case h =>   -- 2: t140 := Op.move (tmp 139)
                  exact x_move rfl e139
                intro a406 hE e140 kp
                apply sq_detg 141 hE k rfl (by rfl) (by rfl) rfl rfl e140
                case h =>   -- 3: t141 := Op.move (tmp 12)
                  exact x_move rfl (hE.eval 12 (by rfl) e12)
                intro a407 hE e141 kp
                replace e140 := (kp 140 rfl).trans e140
                apply sq_detg 142 hE k rfl (by rfl) (by rfl) rfl rfl e140
                case h =>   -- 4: t142 := Op.move (tmp 14)
                  exact x_move rfl (hE.eval 14 (by rfl) e14)
                intro a408 hE e142 kp
                replace e140 := (kp 140 rfl).trans e140
                replace e141 := (kp 141 rfl).trans e141
                apply sq_detg 143 hE k rfl (by rfl) (by rfl) rfl rfl e140
                case h =>   -- 5: t143 := Op.binOp BinOp.neq 9 (tmp 141) (tmp 142) 9
                  exact x_dec (x_nes (l := secB 0) (m := secB 0) rfl e141 e142) (decide_eq_false (fun h => h rfl))
                intro a409 hE e143 kp
                replace e140 := (kp 140 rfl).trans e140
                apply sq_det 144 hE k rfl (by rfl) (by rfl) rfl
                case h =>   -- 6: t144 := Op.pick (tmp 140) (tmp 143) (const (Value.bool false))
                  exact x_pick_t rfl e140 e143
                intro a410 hE e144 kp
                refine wpList_nil ?_
                replace e0 := hE.eval 0 (by rfl) e0
                replace e1 := hE.eval 1 (by rfl) e1
                replace e2 := hE.eval 2 (by rfl) e2
                replace e8 := hE.eval 8 (by rfl) e8
                replace e11 := hE.eval 11 (by rfl) e11
                replace k := k.env hE
                clear hE e12 e14 e137
                refine then_n ?_
                refine cond_f e144 rfl ?_
                refine wp_skip ?_
                refine block_n ?_
                refine then_n ?_
                refine wp_region_lit ?_   -- region 25
                have hE := Env.refl a410 [85, 86, 11]
                apply sq_det 85 hE k rfl (by rfl) (by rfl) rfl
                case h =>   -- 0: t85 := Op.move (tmp 11)
                  exact x_move rfl e11
                intro a411 hE e85 kp
                replace e11 := (kp 11 rfl).trans e11
                apply sq_det 86 hE k rfl (by rfl) (by rfl) rfl
                case h =>   -- 1: t86 := Op.binOp BinOp.add 3 (tmp 85) (const (Value.int IntKind.i64 1)) 3
                  exact x_add rfl e85 rfl (by omega)
                intro a412 hE e86 kp
                replace e11 := (kp 11 rfl).trans e11
                apply sq_det 11 hE k rfl (by rfl) (by rfl) rfl
                case h =>   -- 2: t11 := Op.assign (tmp 86)
                  exact x_assign rfl e86
                intro a413 hE e11 kp
                refine wpList_nil ?_
                replace e0 := hE.eval 0 (by rfl) e0
                replace e1 := hE.eval 1 (by rfl) e1
                replace e2 := hE.eval 2 (by rfl) e2
                replace e8 := hE.eval 8 (by rfl) e8
                replace k := k.env hE
                clear hE e144
                refine then_n ?_
                refine ⟨⟨k, e0, e1, e2, e8, i + 1, e11, by omega, O⟩, ?_⟩
                rw [e11, mi]; simp only [intOf]; omega
              · skip
                refine wp_seq ?_
                refine wp_region_lit ?_   -- region 33
                have hE := Env.refl a403 [138, 139, 140, 141, 142, 143, 144]
                apply sq_det 138 hE k rfl (by rfl) (by rfl) rfl
                case h =>   -- 0: t138 := Op.move (tmp 2)
                  exact x_move rfl (hE.eval 2 (by rfl) e2)
                intro a414 hE e138 kp
                apply sq_det 139 hE k rfl (by rfl) (by rfl) rfl
                case h =>   -- 1: t139 := Op.binOp BinOp.eql 9 (tmp 138) (const (Value.string {data := #[]})) 9
                  exact x_dec (x_eqs (l := q) (m := []) rfl e138 rfl) (decide_eq_false hq)
                intro a415 hE e139 kp
                apply sq_det 140 hE k rfl (by rfl) (by rfl) rfl
                case h =>   -- 2: t140 := Op.move (tmp 139)
                  exact x_move rfl e139
                intro a416 hE e140 kp
                refine sq_skipg 141 hE k rfl (by rfl) (by rfl) rfl rfl (.inl e140) ?_
                intro a417 hE e141 kp
                replace e140 := (kp 140 rfl).trans e140
                refine sq_skipg 142 hE k rfl (by rfl) (by rfl) rfl rfl (.inl e140) ?_
                intro a418 hE e142 kp
                replace e140 := (kp 140 rfl).trans e140
                replace e141 := (kp 141 rfl).trans e141
                refine sq_skipg 143 hE k rfl (by rfl) (by rfl) rfl rfl (.inl e140) ?_
                intro a419 hE e143 kp
                replace e140 := (kp 140 rfl).trans e140
                apply sq_det 144 hE k rfl (by rfl) (by rfl) rfl
                case h =>   -- 6: t144 := Op.pick (tmp 140) (tmp 143) (const (Value.bool false))
                  exact x_pick_f rfl e140 rfl
                intro a420 hE e144 kp
                refine wpList_nil ?_
                replace e0 := hE.eval 0 (by rfl) e0
                replace e1 := hE.eval 1 (by rfl) e1
                replace e2 := hE.eval 2 (by rfl) e2
                replace e8 := hE.eval 8 (by rfl) e8
                replace e11 := hE.eval 11 (by rfl) e11
                replace k := k.env hE
                clear hE e12 e14 e137
                refine then_n ?_
                refine cond_f e144 rfl ?_
                refine wp_skip ?_
                refine block_n ?_
                refine then_n ?_
                refine wp_region_lit ?_   -- region 25
                have hE := Env.refl a420 [85, 86, 11]
                apply sq_det 85 hE k rfl (by rfl) (by rfl) rfl
                case h =>   -- 0: t85 := Op.move (tmp 11)
                  exact x_move rfl e11
                intro a421 hE e85 kp
                replace e11 := (kp 11 rfl).trans e11
                apply sq_det 86 hE k rfl (by rfl) (by rfl) rfl
                case h =>   -- 1: t86 := Op.binOp BinOp.add 3 (tmp 85) (const (Value.int IntKind.i64 1)) 3
                  exact x_add rfl e85 rfl (by omega)
                intro a422 hE e86 kp
                replace e11 := (kp 11 rfl).trans e11
                apply sq_det 11 hE k rfl (by rfl) (by rfl) rfl
                case h =>   -- 2: t11 := Op.assign (tmp 86)
                  exact x_assign rfl e86
                intro a423 hE e11 kp
                refine wpList_nil ?_
                replace e0 := hE.eval 0 (by rfl) e0
                replace e1 := hE.eval 1 (by rfl) e1
                replace e2 := hE.eval 2 (by rfl) e2
                replace e8 := hE.eval 8 (by rfl) e8
                replace k := k.env hE
                clear hE e144
                refine then_n ?_
                refine ⟨⟨k, e0, e1, e2, e8, i + 1, e11, by omega, O⟩, ?_⟩
                rw [e11, mi]; simp only [intOf]; omega
            · have hyI : ¬ (i : Int) < (ys.length : Int) := by omega
              refine wp_seq ?_
              refine wp_region_lit ?_   -- region 30
              have hE := Env.refl a152 [103, 104, 105, 106, 107, 108, 109, 110, 111, 112, 113, 114, 115, 15]
              apply sq_det 103 hE k rfl (by rfl) (by rfl) rfl
              case h =>   -- 0: t103 := Op.move (tmp 11)
                exact x_move rfl (hE.eval 11 (by rfl) e11)
              intro a424 hE e103 kp
              apply sq_det 104 hE k rfl (by rfl) (by rfl) rfl
              case h =>   -- 1: t104 := Op.move (tmp 1)
                exact x_move rfl (hE.eval 1 (by rfl) e1)
              intro a425 hE e104 kp
              replace e103 := (kp 103 rfl).trans e103
              apply sq_det 105 hE k rfl (by rfl) (by rfl) rfl
              case h =>   -- 2: t105 := Op.call {callee := Callee.builtin Builtin.len, args := #[tmp 104], arg
                exact x_len Try.underlying66 rfl e104
              intro a426 hE e105 kp
              replace e103 := (kp 103 rfl).trans e103
              apply sq_det 106 hE k rfl (by rfl) (by rfl) rfl
              case h =>   -- 3: t106 := Op.binOp BinOp.lss 3 (tmp 103) (tmp 105) 3
                exact x_dec (x_lss rfl e103 e105) (decide_eq_false (by omega))
              intro a427 hE e106 kp
              apply sq_det 107 hE k rfl (by rfl) (by rfl) rfl
              case h =>   -- 4: t107 := Op.move (tmp 106)
                exact x_move rfl e106
              intro a428 hE e107 kp
              refine sq_skipg 108 hE k rfl (by rfl) (by rfl) rfl rfl (.inl e107) ?_
              intro a429 hE e108 kp
              replace e107 := (kp 107 rfl).trans e107
              refine sq_skipg 109 hE k rfl (by rfl) (by rfl) rfl rfl (.inl e107) ?_
              intro a430 hE e109 kp
              replace e107 := (kp 107 rfl).trans e107
              replace e108 := (kp 108 rfl).trans e108
              refine sq_skipg 110 hE k rfl (by rfl) (by rfl) rfl rfl (.inl e107) ?_
              intro a431 hE e110 kp
              replace e107 := (kp 107 rfl).trans e107
              replace e108 := (kp 108 rfl).trans e108
              replace e109 := (kp 109 rfl).trans e109
              refine sq_skipg 111 hE k rfl (by rfl) (by rfl) rfl rfl (.inl e107) ?_
              intro a432 hE e111 kp
              replace e107 := (kp 107 rfl).trans e107
              replace e108 := (kp 108 rfl).trans e108
              refine sq_skipg 112 hE k rfl (by rfl) (by rfl) rfl rfl (.inl e107) ?_
              intro a433 hE e112 kp
              replace e107 := (kp 107 rfl).trans e107
              replace e108 := (kp 108 rfl).trans e108
              refine sq_skipg 113 hE k rfl (by rfl) (by rfl) rfl rfl (.inl e107) ?_
              intro a434 hE e113 kp
              replace e107 := (kp 107 rfl).trans e107
              replace e108 := (kp 108 rfl).trans e108
              refine sq_skipg 114 hE k rfl (by rfl) (by rfl) rfl rfl (.inl e107) ?_
              intro a435 hE e114 kp
              replace e107 := (kp 107 rfl).trans e107
              apply sq_det 115 hE k rfl (by rfl) (by rfl) rfl
              case h =>   -- 12: t115 := Op.pick (tmp 107) (tmp 114) (const (Value.bool false))
                exact x_pick_f rfl e107 rfl
              intro a436 hE e115 kp
              apply sq_det 15 hE k rfl (by rfl) (by rfl) rfl
              case h =>   -- 13: t15 := Op.assign (tmp 115)
                exact x_assign rfl e115
              intro a437 hE e15 kp
              refine wpList_nil ?_
              replace e0 := hE.eval 0 (by rfl) e0
              replace e1 := hE.eval 1 (by rfl) e1
              replace e2 := hE.eval 2 (by rfl) e2
              replace e8 := hE.eval 8 (by rfl) e8
              replace e11 := hE.eval 11 (by rfl) e11
              replace e12 := hE.eval 12 (by rfl) e12
              replace e13 := hE.eval 13 (by rfl) e13
              replace e14 := hE.eval 14 (by rfl) e14
              replace k := k.env hE
              clear hE
              refine then_n ?_
              refine wp_seq ?_
              refine wp_seq ?_
              refine wp_region_lit ?_   -- region 31
              have hE := Env.refl a437 [116, 117, 118, 119, 120, 121, 122, 123, 124, 125, 126, 127, 128, 129, 130, 131, 132, 133, 134, 135, 136, 137]
              apply sq_det 116 hE k rfl (by rfl) (by rfl) rfl
              case h =>   -- 0: t116 := Op.move (tmp 13)
                exact x_move rfl (hE.eval 13 (by rfl) e13)
              intro a438 hE e116 kp
              apply sq_det 117 hE k rfl (by rfl) (by rfl) rfl
              case h =>   -- 1: t117 := Op.binOp BinOp.neq 36 (tmp 116) (const (Value.int IntKind.i64 0)) 36
                exact x_dec (x_neq rfl e116 rfl) (decide_eq_false (by omega))
              intro a439 hE e117 kp
              apply sq_det 118 hE k rfl (by rfl) (by rfl) rfl
              case h =>   -- 2: t118 := Op.move (tmp 117)
                exact x_move rfl e117
              intro a440 hE e118 kp
              apply sq_detg 119 hE k rfl (by rfl) (by rfl) rfl rfl e118
              case h =>   -- 3: t119 := Op.move (tmp 12)
                exact x_move rfl (hE.eval 12 (by rfl) e12)
              intro a441 hE e119 kp
              replace e118 := (kp 118 rfl).trans e118
              apply sq_detg 120 hE k rfl (by rfl) (by rfl) rfl rfl e118
              case h =>   -- 4: t120 := Op.move (tmp 14)
                exact x_move rfl (hE.eval 14 (by rfl) e14)
              intro a442 hE e120 kp
              replace e118 := (kp 118 rfl).trans e118
              replace e119 := (kp 119 rfl).trans e119
              apply sq_detg 121 hE k rfl (by rfl) (by rfl) rfl rfl e118
              case h =>   -- 5: t121 := Op.binOp BinOp.neq 9 (tmp 119) (tmp 120) 9
                exact x_dec (x_nes (l := secB 0) (m := secB 0) rfl e119 e120) (decide_eq_false (fun h => h rfl))
              intro a443 hE e121 kp
              replace e118 := (kp 118 rfl).trans e118
              apply sq_detg 122 hE k rfl (by rfl) (by rfl) rfl rfl e118
              case h =>   -- 6: t122 := Op.move (tmp 121)
                exact x_move rfl e121
              intro a444 hE e122 kp
              replace e118 := (kp 118 rfl).trans e118
              refine sq_skipg 123 hE k rfl (by rfl) (by rfl) rfl rfl (.inl e122) ?_
              intro a445 hE e123 kp
              replace e118 := (kp 118 rfl).trans e118
              replace e122 := (kp 122 rfl).trans e122
              refine sq_skipg 124 hE k rfl (by rfl) (by rfl) rfl rfl (.inl e122) ?_
              intro a446 hE e124 kp
              replace e118 := (kp 118 rfl).trans e118
              replace e122 := (kp 122 rfl).trans e122
              apply sq_detg 125 hE k rfl (by rfl) (by rfl) rfl rfl e118
              case h =>   -- 9: t125 := Op.pick (tmp 122) (tmp 124) (const (Value.bool false))
                exact x_pick_f rfl e122 rfl
              intro a447 hE e125 kp
              replace e118 := (kp 118 rfl).trans e118
              apply sq_det 126 hE k rfl (by rfl) (by rfl) rfl
              case h =>   -- 10: t126 := Op.pick (tmp 118) (const (Value.bool true)) (tmp 125)
                exact x_pick_f rfl e118 e125
              intro a448 hE e126 kp
              apply sq_det 127 hE k rfl (by rfl) (by rfl) rfl
              case h =>   -- 11: t127 := Op.move (tmp 126)
                exact x_move rfl e126
              intro a449 hE e127 kp
              apply sq_detg 128 hE k rfl (by rfl) (by rfl) rfl rfl e127
              case h =>   -- 12: t128 := Op.move (tmp 11)
                exact x_move rfl (hE.eval 11 (by rfl) e11)
              intro a450 hE e128 kp
              replace e127 := (kp 127 rfl).trans e127
              apply sq_detg 129 hE k rfl (by rfl) (by rfl) rfl rfl e127
              case h =>   -- 13: t129 := Op.move (tmp 1)
                exact x_move rfl (hE.eval 1 (by rfl) e1)
              intro a451 hE e129 kp
              replace e127 := (kp 127 rfl).trans e127
              replace e128 := (kp 128 rfl).trans e128
              apply sq_detg 130 hE k rfl (by rfl) (by rfl) rfl rfl e127
              case h =>   -- 14: t130 := Op.call {callee := Callee.builtin Builtin.len, args := #[tmp 129], arg
                exact x_len Try.underlying66 rfl e129
              intro a452 hE e130 kp
              replace e127 := (kp 127 rfl).trans e127
              replace e128 := (kp 128 rfl).trans e128
              apply sq_detg 131 hE k rfl (by rfl) (by rfl) rfl rfl e127
              case h =>   -- 15: t131 := Op.binOp BinOp.geq 3 (tmp 128) (tmp 130) 3
                exact x_dec (x_geq rfl e128 e130) (decide_eq_true (by omega))
              intro a453 hE e131 kp
              replace e127 := (kp 127 rfl).trans e127
              apply sq_detg 132 hE k rfl (by rfl) (by rfl) rfl rfl e127
              case h =>   -- 16: t132 := Op.move (tmp 131)
                exact x_move rfl e131
              intro a454 hE e132 kp
              replace e127 := (kp 127 rfl).trans e127
              apply sq_detg 133 hE k rfl (by rfl) (by rfl) rfl rfl e132
              case h =>   -- 17: t133 := Op.move (tmp 12)
                exact x_move rfl (hE.eval 12 (by rfl) e12)
              intro a455 hE e133 kp
              replace e127 := (kp 127 rfl).trans e127
              replace e132 := (kp 132 rfl).trans e132
              apply sq_detg 134 hE k rfl (by rfl) (by rfl) rfl rfl e132
              case h =>   -- 18: t134 := Op.move (tmp 14)
                exact x_move rfl (hE.eval 14 (by rfl) e14)
              intro a456 hE e134 kp
              replace e127 := (kp 127 rfl).trans e127
              replace e132 := (kp 132 rfl).trans e132
              replace e133 := (kp 133 rfl).trans e133
              apply sq_detg 135 hE k rfl (by rfl) (by rfl) rfl rfl e132
              case h =>   -- 19: t135 := Op.binOp BinOp.neq 9 (tmp 133) (tmp 134) 9
                exact x_dec (x_nes (l := secB 0) (m := secB 0) rfl e133 e134) (decide_eq_false (fun h => h rfl))
              intro a457 hE e135 kp
              replace e127 := (kp 127 rfl).trans e127
              replace e132 := (kp 132 rfl).trans e132
              apply sq_detg 136 hE k rfl (by rfl) (by rfl) rfl rfl e127
              case h =>   -- 20: t136 := Op.pick (tmp 132) (tmp 135) (const (Value.bool false))
                exact x_pick_t rfl e132 e135
              intro a458 hE e136 kp
              replace e127 := (kp 127 rfl).trans e127
              apply sq_det 137 hE k rfl (by rfl) (by rfl) rfl
              case h =>   -- 21: t137 := Op.pick (tmp 127) (const (Value.bool true)) (tmp 136)
                exact x_pick_f rfl e127 e136
              intro a459 hE e137 kp
              refine wpList_nil ?_
              replace e0 := hE.eval 0 (by rfl) e0
              replace e1 := hE.eval 1 (by rfl) e1
              replace e2 := hE.eval 2 (by rfl) e2
              replace e8 := hE.eval 8 (by rfl) e8
              replace e11 := hE.eval 11 (by rfl) e11
              replace e12 := hE.eval 12 (by rfl) e12
              replace e14 := hE.eval 14 (by rfl) e14
              replace k := k.env hE
              clear hE e13 e15
              refine then_n ?_
              refine cond_f e137 rfl ?_
              refine wp_skip ?_
              refine then_n ?_
              by_cases hq : q = []
              · skip
                refine wp_seq ?_
                refine wp_region_lit ?_   -- region 33
                have hE := Env.refl a459 [138, 139, 140, 141, 142, 143, 144]
                apply sq_det 138 hE k rfl (by rfl) (by rfl) rfl
                case h =>   -- 0: t138 := Op.move (tmp 2)
                  exact x_move rfl (hE.eval 2 (by rfl) e2)
                intro a460 hE e138 kp
                apply sq_det 139 hE k rfl (by rfl) (by rfl) rfl
                case h =>   -- 1: t139 := Op.binOp BinOp.eql 9 (tmp 138) (const (Value.string {data := #[]})) 9
                  exact x_dec (x_eqs (l := q) (m := []) rfl e138 rfl) (decide_eq_true hq)
                intro a461 hE e139 kp
                apply sq_det 140 hE k rfl (by rfl) (by rfl) rfl
                case h =>   -- 2: t140 := Op.move (tmp 139)
                  exact x_move rfl e139
                intro a462 hE e140 kp
                apply sq_detg 141 hE k rfl (by rfl) (by rfl) rfl rfl e140
                case h =>   -- 3: t141 := Op.move (tmp 12)
                  exact x_move rfl (hE.eval 12 (by rfl) e12)
                intro a463 hE e141 kp
                replace e140 := (kp 140 rfl).trans e140
                apply sq_detg 142 hE k rfl (by rfl) (by rfl) rfl rfl e140
                case h =>   -- 4: t142 := Op.move (tmp 14)
                  exact x_move rfl (hE.eval 14 (by rfl) e14)
                intro a464 hE e142 kp
                replace e140 := (kp 140 rfl).trans e140
                replace e141 := (kp 141 rfl).trans e141
                apply sq_detg 143 hE k rfl (by rfl) (by rfl) rfl rfl e140
                case h =>   -- 5: t143 := Op.binOp BinOp.neq 9 (tmp 141) (tmp 142) 9
                  exact x_dec (x_nes (l := secB 0) (m := secB 0) rfl e141 e142) (decide_eq_false (fun h => h rfl))
                intro a465 hE e143 kp
                replace e140 := (kp 140 rfl).trans e140
                apply sq_det 144 hE k rfl (by rfl) (by rfl) rfl
                case h =>   -- 6: t144 := Op.pick (tmp 140) (tmp 143) (const (Value.bool false))
                  exact x_pick_t rfl e140 e143
                intro a466 hE e144 kp
                refine wpList_nil ?_
                replace e0 := hE.eval 0 (by rfl) e0
                replace e1 := hE.eval 1 (by rfl) e1
                replace e2 := hE.eval 2 (by rfl) e2
                replace e8 := hE.eval 8 (by rfl) e8
                replace e11 := hE.eval 11 (by rfl) e11
                replace k := k.env hE
                clear hE e12 e14 e137
                refine then_n ?_
                refine cond_f e144 rfl ?_
                refine wp_skip ?_
                refine block_n ?_
                refine then_n ?_
                refine wp_region_lit ?_   -- region 25
                have hE := Env.refl a466 [85, 86, 11]
                apply sq_det 85 hE k rfl (by rfl) (by rfl) rfl
                case h =>   -- 0: t85 := Op.move (tmp 11)
                  exact x_move rfl e11
                intro a467 hE e85 kp
                replace e11 := (kp 11 rfl).trans e11
                apply sq_det 86 hE k rfl (by rfl) (by rfl) rfl
                case h =>   -- 1: t86 := Op.binOp BinOp.add 3 (tmp 85) (const (Value.int IntKind.i64 1)) 3
                  exact x_add rfl e85 rfl (by omega)
                intro a468 hE e86 kp
                replace e11 := (kp 11 rfl).trans e11
                apply sq_det 11 hE k rfl (by rfl) (by rfl) rfl
                case h =>   -- 2: t11 := Op.assign (tmp 86)
                  exact x_assign rfl e86
                intro a469 hE e11 kp
                refine wpList_nil ?_
                replace e0 := hE.eval 0 (by rfl) e0
                replace e1 := hE.eval 1 (by rfl) e1
                replace e2 := hE.eval 2 (by rfl) e2
                replace e8 := hE.eval 8 (by rfl) e8
                replace k := k.env hE
                clear hE e144
                refine then_n ?_
                refine ⟨⟨k, e0, e1, e2, e8, i + 1, e11, by omega, O⟩, ?_⟩
                rw [e11, mi]; simp only [intOf]; omega
              · skip
                refine wp_seq ?_
                refine wp_region_lit ?_   -- region 33
                have hE := Env.refl a459 [138, 139, 140, 141, 142, 143, 144]
                apply sq_det 138 hE k rfl (by rfl) (by rfl) rfl
                case h =>   -- 0: t138 := Op.move (tmp 2)
                  exact x_move rfl (hE.eval 2 (by rfl) e2)
                intro a470 hE e138 kp
                apply sq_det 139 hE k rfl (by rfl) (by rfl) rfl
                case h =>   -- 1: t139 := Op.binOp BinOp.eql 9 (tmp 138) (const (Value.string {data := #[]})) 9
                  exact x_dec (x_eqs (l := q) (m := []) rfl e138 rfl) (decide_eq_false hq)
                intro a471 hE e139 kp
                apply sq_det 140 hE k rfl (by rfl) (by rfl) rfl
                case h =>   -- 2: t140 := Op.move (tmp 139)
                  exact x_move rfl e139
                intro a472 hE e140 kp
                refine sq_skipg 141 hE k rfl (by rfl) (by rfl) rfl rfl (.inl e140) ?_
                intro a473 hE e141 kp
                replace e140 := (kp 140 rfl).trans e140
                refine sq_skipg 142 hE k rfl (by rfl) (by rfl) rfl rfl (.inl e140) ?_
                intro a474 hE e142 kp
                replace e140 := (kp 140 rfl).trans e140
                replace e141 := (kp 141 rfl).trans e141
                refine sq_skipg 143 hE k rfl (by rfl) (by rfl) rfl rfl (.inl e140) ?_
                intro a475 hE e143 kp
                replace e140 := (kp 140 rfl).trans e140
                apply sq_det 144 hE k rfl (by rfl) (by rfl) rfl
                case h =>   -- 6: t144 := Op.pick (tmp 140) (tmp 143) (const (Value.bool false))
                  exact x_pick_f rfl e140 rfl
                intro a476 hE e144 kp
                refine wpList_nil ?_
                replace e0 := hE.eval 0 (by rfl) e0
                replace e1 := hE.eval 1 (by rfl) e1
                replace e2 := hE.eval 2 (by rfl) e2
                replace e8 := hE.eval 8 (by rfl) e8
                replace e11 := hE.eval 11 (by rfl) e11
                replace k := k.env hE
                clear hE e12 e14 e137
                refine then_n ?_
                refine cond_f e144 rfl ?_
                refine wp_skip ?_
                refine block_n ?_
                refine then_n ?_
                refine wp_region_lit ?_   -- region 25
                have hE := Env.refl a476 [85, 86, 11]
                apply sq_det 85 hE k rfl (by rfl) (by rfl) rfl
                case h =>   -- 0: t85 := Op.move (tmp 11)
                  exact x_move rfl e11
                intro a477 hE e85 kp
                replace e11 := (kp 11 rfl).trans e11
                apply sq_det 86 hE k rfl (by rfl) (by rfl) rfl
                case h =>   -- 1: t86 := Op.binOp BinOp.add 3 (tmp 85) (const (Value.int IntKind.i64 1)) 3
                  exact x_add rfl e85 rfl (by omega)
                intro a478 hE e86 kp
                replace e11 := (kp 11 rfl).trans e11
                apply sq_det 11 hE k rfl (by rfl) (by rfl) rfl
                case h =>   -- 2: t11 := Op.assign (tmp 86)
                  exact x_assign rfl e86
                intro a479 hE e11 kp
                refine wpList_nil ?_
                replace e0 := hE.eval 0 (by rfl) e0
                replace e1 := hE.eval 1 (by rfl) e1
                replace e2 := hE.eval 2 (by rfl) e2
                replace e8 := hE.eval 8 (by rfl) e8
                replace k := k.env hE
                clear hE e144
                refine then_n ?_
                refine ⟨⟨k, e0, e1, e2, e8, i + 1, e11, by omega, O⟩, ?_⟩
                rw [e11, mi]; simp only [intOf]; omega
          · have hy := hiy
            by_cases heq : secB (ys.getD i 0) = secB 0
            · skip
              obtain ⟨y, hyy⟩ : ∃ y, ys[i]? = some y := ⟨_, List.getElem?_eq_getElem hy⟩
              obtain ⟨b2, o2, rfl, cy⟩ := u8_at r2 O.below hyy
              refine wp_seq ?_
              refine wp_region_lit ?_   -- region 30
              have hE := Env.refl a152 [103, 104, 105, 106, 107, 108, 109, 110, 111, 112, 113, 114, 115, 15]
              apply sq_det 103 hE k rfl (by rfl) (by rfl) rfl
              case h =>   -- 0: t103 := Op.move (tmp 11)
                exact x_move rfl (hE.eval 11 (by rfl) e11)
              intro a480 hE e103 kp
              apply sq_det 104 hE k rfl (by rfl) (by rfl) rfl
              case h =>   -- 1: t104 := Op.move (tmp 1)
                exact x_move rfl (hE.eval 1 (by rfl) e1)
              intro a481 hE e104 kp
              replace e103 := (kp 103 rfl).trans e103
              apply sq_det 105 hE k rfl (by rfl) (by rfl) rfl
              case h =>   -- 2: t105 := Op.call {callee := Callee.builtin Builtin.len, args := #[tmp 104], arg
                exact x_len Try.underlying66 rfl e104
              intro a482 hE e105 kp
              replace e103 := (kp 103 rfl).trans e103
              apply sq_det 106 hE k rfl (by rfl) (by rfl) rfl
              case h =>   -- 3: t106 := Op.binOp BinOp.lss 3 (tmp 103) (tmp 105) 3
                exact x_dec (x_lss rfl e103 e105) (decide_eq_true (by omega))
              intro a483 hE e106 kp
              apply sq_det 107 hE k rfl (by rfl) (by rfl) rfl
              case h =>   -- 4: t107 := Op.move (tmp 106)
                exact x_move rfl e106
              intro a484 hE e107 kp
              apply sq_detg 108 hE k rfl (by rfl) (by rfl) rfl rfl e107
              case h =>   -- 5: t108 := Op.move (tmp 12)
                exact x_move rfl (hE.eval 12 (by rfl) e12)
              intro a485 hE e108 kp
              replace e107 := (kp 107 rfl).trans e107
              apply sq_detg 109 hE k rfl (by rfl) (by rfl) rfl rfl e107
              case h =>   -- 6: t109 := Op.move (tmp 1)
                exact x_move rfl (hE.eval 1 (by rfl) e1)
              intro a486 hE e109 kp
              replace e107 := (kp 107 rfl).trans e107
              replace e108 := (kp 108 rfl).trans e108
              apply sq_detg 110 hE k rfl (by rfl) (by rfl) rfl rfl e107
              case h =>   -- 7: t110 := Op.move (tmp 11)
                exact x_move rfl (hE.eval 11 (by rfl) e11)
              intro a487 hE e110 kp
              replace e107 := (kp 107 rfl).trans e107
              replace e108 := (kp 108 rfl).trans e108
              replace e109 := (kp 109 rfl).trans e109
              apply sq_detg 111 hE k rfl (by rfl) (by rfl) rfl rfl e107
              case h =>   -- 8: t111 := Op.indexAddr 66 (tmp 109) (tmp 110)
                simp [go_sem, BigFrame.eval_const, BigFrame.eval_global, BigFrame.eval_func, ↓IntWalk.iteOmega, ev e109, ev e110]
                with_reducible rfl
              intro a488 hE e111 kp
              replace e107 := (kp 107 rfl).trans e107
              replace e108 := (kp 108 rfl).trans e108
              apply sq_detg 112 hE k rfl (by rfl) (by rfl) rfl rfl e107
              case h =>   -- 9: t112 := Op.load 5 (tmp 111)
                simp [go_sem, BigFrame.eval_const, BigFrame.eval_global, BigFrame.eval_func, ↓IntWalk.iteOmega, ev e111, cy]
                with_reducible rfl
              intro a489 hE e112 kp
              replace e107 := (kp 107 rfl).trans e107
              replace e108 := (kp 108 rfl).trans e108
              apply sq_callg 113 hE k rfl (by rfl) (by rfl) rfl rfl e107
              case h =>   -- tierce/tiercelaw04.sector
                simp [go_sem, BigFrame.eval_const, BigFrame.eval_global, BigFrame.eval_func, ↓IntWalk.iteOmega, ev e112]
                with_reducible exact ⟨rfl, rfl⟩
              case hc => exact sector_any y _
              rintro e w491 ⟨rfl, R⟩
              replace O := OwnT.ext O R
              refine ⟨_, rfl, ?_⟩
              intro a490 hE e113 kp
              replace e107 := (kp 107 rfl).trans e107
              replace e108 := (kp 108 rfl).trans e108
              apply sq_detg 114 hE k rfl (by rfl) (by rfl) rfl rfl e107
              case h =>   -- 11: t114 := Op.binOp BinOp.eql 9 (tmp 108) (tmp 113) 9
                exact x_eqs (l := secB (ys.getD i 0)) (m := List.replicate 16 y) rfl e108 e113
              intro a492 hE e114 kp
              replace e107 := (kp 107 rfl).trans e107
              apply sq_det 115 hE k rfl (by rfl) (by rfl) rfl
              case h =>   -- 12: t115 := Op.pick (tmp 107) (tmp 114) (const (Value.bool false))
                exact x_pick_t rfl e107 e114
              intro a493 hE e115 kp
              apply sq_det 15 hE k rfl (by rfl) (by rfl) rfl
              case h =>   -- 13: t15 := Op.assign (tmp 115)
                exact x_assign rfl e115
              intro a494 hE e15 kp
              refine wpList_nil ?_
              replace e0 := hE.eval 0 (by rfl) e0
              replace e1 := hE.eval 1 (by rfl) e1
              replace e2 := hE.eval 2 (by rfl) e2
              replace e8 := hE.eval 8 (by rfl) e8
              replace e11 := hE.eval 11 (by rfl) e11
              replace e12 := hE.eval 12 (by rfl) e12
              replace e13 := hE.eval 13 (by rfl) e13
              replace e14 := hE.eval 14 (by rfl) e14
              replace k := k.env hE
              clear hE
              refine then_n ?_
              refine wp_seq ?_
              refine wp_seq ?_
              refine wp_region_lit ?_   -- region 31
              have hE := Env.refl a494 [116, 117, 118, 119, 120, 121, 122, 123, 124, 125, 126, 127, 128, 129, 130, 131, 132, 133, 134, 135, 136, 137]
              apply sq_det 116 hE k rfl (by rfl) (by rfl) rfl
              case h =>   -- 0: t116 := Op.move (tmp 13)
                exact x_move rfl (hE.eval 13 (by rfl) e13)
              intro a495 hE e116 kp
              apply sq_det 117 hE k rfl (by rfl) (by rfl) rfl
              case h =>   -- 1: t117 := Op.binOp BinOp.neq 36 (tmp 116) (const (Value.int IntKind.i64 0)) 36
                exact x_dec (x_neq rfl e116 rfl) (decide_eq_false (by omega))
              intro a496 hE e117 kp
              apply sq_det 118 hE k rfl (by rfl) (by rfl) rfl
              case h =>   -- 2: t118 := Op.move (tmp 117)
                exact x_move rfl e117
              intro a497 hE e118 kp
              apply sq_detg 119 hE k rfl (by rfl) (by rfl) rfl rfl e118
              case h =>   -- 3: t119 := Op.move (tmp 12)
                exact x_move rfl (hE.eval 12 (by rfl) e12)
              intro a498 hE e119 kp
              replace e118 := (kp 118 rfl).trans e118
              apply sq_detg 120 hE k rfl (by rfl) (by rfl) rfl rfl e118
              case h =>   -- 4: t120 := Op.move (tmp 14)
                exact x_move rfl (hE.eval 14 (by rfl) e14)
              intro a499 hE e120 kp
              replace e118 := (kp 118 rfl).trans e118
              replace e119 := (kp 119 rfl).trans e119
              apply sq_detg 121 hE k rfl (by rfl) (by rfl) rfl rfl e118
              case h =>   -- 5: t121 := Op.binOp BinOp.neq 9 (tmp 119) (tmp 120) 9
                exact x_dec (x_nes (l := secB (ys.getD i 0)) (m := secB 0) rfl e119 e120) (decide_eq_false (fun h => h heq))
              intro a500 hE e121 kp
              replace e118 := (kp 118 rfl).trans e118
              apply sq_detg 122 hE k rfl (by rfl) (by rfl) rfl rfl e118
              case h =>   -- 6: t122 := Op.move (tmp 121)
                exact x_move rfl e121
              intro a501 hE e122 kp
              replace e118 := (kp 118 rfl).trans e118
              refine sq_skipg 123 hE k rfl (by rfl) (by rfl) rfl rfl (.inl e122) ?_
              intro a502 hE e123 kp
              replace e118 := (kp 118 rfl).trans e118
              replace e122 := (kp 122 rfl).trans e122
              refine sq_skipg 124 hE k rfl (by rfl) (by rfl) rfl rfl (.inl e122) ?_
              intro a503 hE e124 kp
              replace e118 := (kp 118 rfl).trans e118
              replace e122 := (kp 122 rfl).trans e122
              apply sq_detg 125 hE k rfl (by rfl) (by rfl) rfl rfl e118
              case h =>   -- 9: t125 := Op.pick (tmp 122) (tmp 124) (const (Value.bool false))
                exact x_pick_f rfl e122 rfl
              intro a504 hE e125 kp
              replace e118 := (kp 118 rfl).trans e118
              apply sq_det 126 hE k rfl (by rfl) (by rfl) rfl
              case h =>   -- 10: t126 := Op.pick (tmp 118) (const (Value.bool true)) (tmp 125)
                exact x_pick_f rfl e118 e125
              intro a505 hE e126 kp
              apply sq_det 127 hE k rfl (by rfl) (by rfl) rfl
              case h =>   -- 11: t127 := Op.move (tmp 126)
                exact x_move rfl e126
              intro a506 hE e127 kp
              apply sq_detg 128 hE k rfl (by rfl) (by rfl) rfl rfl e127
              case h =>   -- 12: t128 := Op.move (tmp 11)
                exact x_move rfl (hE.eval 11 (by rfl) e11)
              intro a507 hE e128 kp
              replace e127 := (kp 127 rfl).trans e127
              apply sq_detg 129 hE k rfl (by rfl) (by rfl) rfl rfl e127
              case h =>   -- 13: t129 := Op.move (tmp 1)
                exact x_move rfl (hE.eval 1 (by rfl) e1)
              intro a508 hE e129 kp
              replace e127 := (kp 127 rfl).trans e127
              replace e128 := (kp 128 rfl).trans e128
              apply sq_detg 130 hE k rfl (by rfl) (by rfl) rfl rfl e127
              case h =>   -- 14: t130 := Op.call {callee := Callee.builtin Builtin.len, args := #[tmp 129], arg
                exact x_len Try.underlying66 rfl e129
              intro a509 hE e130 kp
              replace e127 := (kp 127 rfl).trans e127
              replace e128 := (kp 128 rfl).trans e128
              apply sq_detg 131 hE k rfl (by rfl) (by rfl) rfl rfl e127
              case h =>   -- 15: t131 := Op.binOp BinOp.geq 3 (tmp 128) (tmp 130) 3
                exact x_dec (x_geq rfl e128 e130) (decide_eq_false (by omega))
              intro a510 hE e131 kp
              replace e127 := (kp 127 rfl).trans e127
              apply sq_detg 132 hE k rfl (by rfl) (by rfl) rfl rfl e127
              case h =>   -- 16: t132 := Op.move (tmp 131)
                exact x_move rfl e131
              intro a511 hE e132 kp
              replace e127 := (kp 127 rfl).trans e127
              refine sq_skipg 133 hE k rfl (by rfl) (by rfl) rfl rfl (.inl e132) ?_
              intro a512 hE e133 kp
              replace e127 := (kp 127 rfl).trans e127
              replace e132 := (kp 132 rfl).trans e132
              refine sq_skipg 134 hE k rfl (by rfl) (by rfl) rfl rfl (.inl e132) ?_
              intro a513 hE e134 kp
              replace e127 := (kp 127 rfl).trans e127
              replace e132 := (kp 132 rfl).trans e132
              replace e133 := (kp 133 rfl).trans e133
              refine sq_skipg 135 hE k rfl (by rfl) (by rfl) rfl rfl (.inl e132) ?_
              intro a514 hE e135 kp
              replace e127 := (kp 127 rfl).trans e127
              replace e132 := (kp 132 rfl).trans e132
              apply sq_detg 136 hE k rfl (by rfl) (by rfl) rfl rfl e127
              case h =>   -- 20: t136 := Op.pick (tmp 132) (tmp 135) (const (Value.bool false))
                exact x_pick_f rfl e132 rfl
              intro a515 hE e136 kp
              replace e127 := (kp 127 rfl).trans e127
              apply sq_det 137 hE k rfl (by rfl) (by rfl) rfl
              case h =>   -- 21: t137 := Op.pick (tmp 127) (const (Value.bool true)) (tmp 136)
                exact x_pick_f rfl e127 e136
              intro a516 hE e137 kp
              refine wpList_nil ?_
              replace e0 := hE.eval 0 (by rfl) e0
              replace e1 := hE.eval 1 (by rfl) e1
              replace e2 := hE.eval 2 (by rfl) e2
              replace e8 := hE.eval 8 (by rfl) e8
              replace e11 := hE.eval 11 (by rfl) e11
              replace e12 := hE.eval 12 (by rfl) e12
              replace e14 := hE.eval 14 (by rfl) e14
              replace k := k.env hE
              clear hE e13 e15
              refine then_n ?_
              refine cond_f e137 rfl ?_
              refine wp_skip ?_
              refine then_n ?_
              refine wp_seq ?_
              refine wp_region_lit ?_   -- region 33
              have hE := Env.refl a516 [138, 139, 140, 141, 142, 143, 144]
              apply sq_det 138 hE k rfl (by rfl) (by rfl) rfl
              case h =>   -- 0: t138 := Op.move (tmp 2)
                exact x_move rfl (hE.eval 2 (by rfl) e2)
              intro a517 hE e138 kp
              apply sq_det 139 hE k rfl (by rfl) (by rfl) rfl
              case h =>   -- 1: t139 := Op.binOp BinOp.eql 9 (tmp 138) (const (Value.string {data := #[]})) 9
                exact x_dec (x_eqs (l := q) (m := []) rfl e138 rfl) (decide_eq_false hq)
              intro a518 hE e139 kp
              apply sq_det 140 hE k rfl (by rfl) (by rfl) rfl
              case h =>   -- 2: t140 := Op.move (tmp 139)
                exact x_move rfl e139
              intro a519 hE e140 kp
              refine sq_skipg 141 hE k rfl (by rfl) (by rfl) rfl rfl (.inl e140) ?_
              intro a520 hE e141 kp
              replace e140 := (kp 140 rfl).trans e140
              refine sq_skipg 142 hE k rfl (by rfl) (by rfl) rfl rfl (.inl e140) ?_
              intro a521 hE e142 kp
              replace e140 := (kp 140 rfl).trans e140
              replace e141 := (kp 141 rfl).trans e141
              refine sq_skipg 143 hE k rfl (by rfl) (by rfl) rfl rfl (.inl e140) ?_
              intro a522 hE e143 kp
              replace e140 := (kp 140 rfl).trans e140
              apply sq_det 144 hE k rfl (by rfl) (by rfl) rfl
              case h =>   -- 6: t144 := Op.pick (tmp 140) (tmp 143) (const (Value.bool false))
                exact x_pick_f rfl e140 rfl
              intro a523 hE e144 kp
              refine wpList_nil ?_
              replace e0 := hE.eval 0 (by rfl) e0
              replace e1 := hE.eval 1 (by rfl) e1
              replace e2 := hE.eval 2 (by rfl) e2
              replace e8 := hE.eval 8 (by rfl) e8
              replace e11 := hE.eval 11 (by rfl) e11
              replace k := k.env hE
              clear hE e12 e14 e137
              refine then_n ?_
              refine cond_f e144 rfl ?_
              refine wp_skip ?_
              refine block_n ?_
              refine then_n ?_
              refine wp_region_lit ?_   -- region 25
              have hE := Env.refl a523 [85, 86, 11]
              apply sq_det 85 hE k rfl (by rfl) (by rfl) rfl
              case h =>   -- 0: t85 := Op.move (tmp 11)
                exact x_move rfl e11
              intro a524 hE e85 kp
              replace e11 := (kp 11 rfl).trans e11
              apply sq_det 86 hE k rfl (by rfl) (by rfl) rfl
              case h =>   -- 1: t86 := Op.binOp BinOp.add 3 (tmp 85) (const (Value.int IntKind.i64 1)) 3
                exact x_add rfl e85 rfl (by omega)
              intro a525 hE e86 kp
              replace e11 := (kp 11 rfl).trans e11
              apply sq_det 11 hE k rfl (by rfl) (by rfl) rfl
              case h =>   -- 2: t11 := Op.assign (tmp 86)
                exact x_assign rfl e86
              intro a526 hE e11 kp
              refine wpList_nil ?_
              replace e0 := hE.eval 0 (by rfl) e0
              replace e1 := hE.eval 1 (by rfl) e1
              replace e2 := hE.eval 2 (by rfl) e2
              replace e8 := hE.eval 8 (by rfl) e8
              replace k := k.env hE
              clear hE e144
              refine then_n ?_
              refine ⟨⟨k, e0, e1, e2, e8, i + 1, e11, by omega, O⟩, ?_⟩
              rw [e11, mi]; simp only [intOf]; omega
            · skip
              obtain ⟨y, hyy⟩ : ∃ y, ys[i]? = some y := ⟨_, List.getElem?_eq_getElem hy⟩
              obtain ⟨b2, o2, rfl, cy⟩ := u8_at r2 O.below hyy
              refine wp_seq ?_
              refine wp_region_lit ?_   -- region 30
              have hE := Env.refl a152 [103, 104, 105, 106, 107, 108, 109, 110, 111, 112, 113, 114, 115, 15]
              apply sq_det 103 hE k rfl (by rfl) (by rfl) rfl
              case h =>   -- 0: t103 := Op.move (tmp 11)
                exact x_move rfl (hE.eval 11 (by rfl) e11)
              intro a527 hE e103 kp
              apply sq_det 104 hE k rfl (by rfl) (by rfl) rfl
              case h =>   -- 1: t104 := Op.move (tmp 1)
                exact x_move rfl (hE.eval 1 (by rfl) e1)
              intro a528 hE e104 kp
              replace e103 := (kp 103 rfl).trans e103
              apply sq_det 105 hE k rfl (by rfl) (by rfl) rfl
              case h =>   -- 2: t105 := Op.call {callee := Callee.builtin Builtin.len, args := #[tmp 104], arg
                exact x_len Try.underlying66 rfl e104
              intro a529 hE e105 kp
              replace e103 := (kp 103 rfl).trans e103
              apply sq_det 106 hE k rfl (by rfl) (by rfl) rfl
              case h =>   -- 3: t106 := Op.binOp BinOp.lss 3 (tmp 103) (tmp 105) 3
                exact x_dec (x_lss rfl e103 e105) (decide_eq_true (by omega))
              intro a530 hE e106 kp
              apply sq_det 107 hE k rfl (by rfl) (by rfl) rfl
              case h =>   -- 4: t107 := Op.move (tmp 106)
                exact x_move rfl e106
              intro a531 hE e107 kp
              apply sq_detg 108 hE k rfl (by rfl) (by rfl) rfl rfl e107
              case h =>   -- 5: t108 := Op.move (tmp 12)
                exact x_move rfl (hE.eval 12 (by rfl) e12)
              intro a532 hE e108 kp
              replace e107 := (kp 107 rfl).trans e107
              apply sq_detg 109 hE k rfl (by rfl) (by rfl) rfl rfl e107
              case h =>   -- 6: t109 := Op.move (tmp 1)
                exact x_move rfl (hE.eval 1 (by rfl) e1)
              intro a533 hE e109 kp
              replace e107 := (kp 107 rfl).trans e107
              replace e108 := (kp 108 rfl).trans e108
              apply sq_detg 110 hE k rfl (by rfl) (by rfl) rfl rfl e107
              case h =>   -- 7: t110 := Op.move (tmp 11)
                exact x_move rfl (hE.eval 11 (by rfl) e11)
              intro a534 hE e110 kp
              replace e107 := (kp 107 rfl).trans e107
              replace e108 := (kp 108 rfl).trans e108
              replace e109 := (kp 109 rfl).trans e109
              apply sq_detg 111 hE k rfl (by rfl) (by rfl) rfl rfl e107
              case h =>   -- 8: t111 := Op.indexAddr 66 (tmp 109) (tmp 110)
                simp [go_sem, BigFrame.eval_const, BigFrame.eval_global, BigFrame.eval_func, ↓IntWalk.iteOmega, ev e109, ev e110]
                with_reducible rfl
              intro a535 hE e111 kp
              replace e107 := (kp 107 rfl).trans e107
              replace e108 := (kp 108 rfl).trans e108
              apply sq_detg 112 hE k rfl (by rfl) (by rfl) rfl rfl e107
              case h =>   -- 9: t112 := Op.load 5 (tmp 111)
                simp [go_sem, BigFrame.eval_const, BigFrame.eval_global, BigFrame.eval_func, ↓IntWalk.iteOmega, ev e111, cy]
                with_reducible rfl
              intro a536 hE e112 kp
              replace e107 := (kp 107 rfl).trans e107
              replace e108 := (kp 108 rfl).trans e108
              apply sq_callg 113 hE k rfl (by rfl) (by rfl) rfl rfl e107
              case h =>   -- tierce/tiercelaw04.sector
                simp [go_sem, BigFrame.eval_const, BigFrame.eval_global, BigFrame.eval_func, ↓IntWalk.iteOmega, ev e112]
                with_reducible exact ⟨rfl, rfl⟩
              case hc => exact sector_any y _
              rintro e w538 ⟨rfl, R⟩
              replace O := OwnT.ext O R
              refine ⟨_, rfl, ?_⟩
              intro a537 hE e113 kp
              replace e107 := (kp 107 rfl).trans e107
              replace e108 := (kp 108 rfl).trans e108
              apply sq_detg 114 hE k rfl (by rfl) (by rfl) rfl rfl e107
              case h =>   -- 11: t114 := Op.binOp BinOp.eql 9 (tmp 108) (tmp 113) 9
                exact x_dec (x_eqs (l := secB (ys.getD i 0)) (m := List.replicate 16 y) rfl e108 e113) (decide_eq_true (by rw [show ys.getD i 0 = y by simp [List.getD, hyy]]))
              intro a539 hE e114 kp
              replace e107 := (kp 107 rfl).trans e107
              apply sq_det 115 hE k rfl (by rfl) (by rfl) rfl
              case h =>   -- 12: t115 := Op.pick (tmp 107) (tmp 114) (const (Value.bool false))
                exact x_pick_t rfl e107 e114
              intro a540 hE e115 kp
              apply sq_det 15 hE k rfl (by rfl) (by rfl) rfl
              case h =>   -- 13: t15 := Op.assign (tmp 115)
                exact x_assign rfl e115
              intro a541 hE e15 kp
              refine wpList_nil ?_
              replace e0 := hE.eval 0 (by rfl) e0
              replace e1 := hE.eval 1 (by rfl) e1
              replace e2 := hE.eval 2 (by rfl) e2
              replace e8 := hE.eval 8 (by rfl) e8
              replace e11 := hE.eval 11 (by rfl) e11
              replace e12 := hE.eval 12 (by rfl) e12
              replace e13 := hE.eval 13 (by rfl) e13
              replace e14 := hE.eval 14 (by rfl) e14
              replace k := k.env hE
              clear hE
              refine then_n ?_
              refine wp_seq ?_
              refine wp_seq ?_
              refine wp_region_lit ?_   -- region 31
              have hE := Env.refl a541 [116, 117, 118, 119, 120, 121, 122, 123, 124, 125, 126, 127, 128, 129, 130, 131, 132, 133, 134, 135, 136, 137]
              apply sq_det 116 hE k rfl (by rfl) (by rfl) rfl
              case h =>   -- 0: t116 := Op.move (tmp 13)
                exact x_move rfl (hE.eval 13 (by rfl) e13)
              intro a542 hE e116 kp
              apply sq_det 117 hE k rfl (by rfl) (by rfl) rfl
              case h =>   -- 1: t117 := Op.binOp BinOp.neq 36 (tmp 116) (const (Value.int IntKind.i64 0)) 36
                exact x_dec (x_neq rfl e116 rfl) (decide_eq_false (by omega))
              intro a543 hE e117 kp
              apply sq_det 118 hE k rfl (by rfl) (by rfl) rfl
              case h =>   -- 2: t118 := Op.move (tmp 117)
                exact x_move rfl e117
              intro a544 hE e118 kp
              apply sq_detg 119 hE k rfl (by rfl) (by rfl) rfl rfl e118
              case h =>   -- 3: t119 := Op.move (tmp 12)
                exact x_move rfl (hE.eval 12 (by rfl) e12)
              intro a545 hE e119 kp
              replace e118 := (kp 118 rfl).trans e118
              apply sq_detg 120 hE k rfl (by rfl) (by rfl) rfl rfl e118
              case h =>   -- 4: t120 := Op.move (tmp 14)
                exact x_move rfl (hE.eval 14 (by rfl) e14)
              intro a546 hE e120 kp
              replace e118 := (kp 118 rfl).trans e118
              replace e119 := (kp 119 rfl).trans e119
              apply sq_detg 121 hE k rfl (by rfl) (by rfl) rfl rfl e118
              case h =>   -- 5: t121 := Op.binOp BinOp.neq 9 (tmp 119) (tmp 120) 9
                exact x_dec (x_nes (l := secB (ys.getD i 0)) (m := secB 0) rfl e119 e120) (decide_eq_true heq)
              intro a547 hE e121 kp
              replace e118 := (kp 118 rfl).trans e118
              apply sq_detg 122 hE k rfl (by rfl) (by rfl) rfl rfl e118
              case h =>   -- 6: t122 := Op.move (tmp 121)
                exact x_move rfl e121
              intro a548 hE e122 kp
              replace e118 := (kp 118 rfl).trans e118
              apply sq_detg 123 hE k rfl (by rfl) (by rfl) rfl rfl e122
              case h =>   -- 7: t123 := Op.move (tmp 15)
                exact x_move rfl (hE.eval 15 (by rfl) e15)
              intro a549 hE e123 kp
              replace e118 := (kp 118 rfl).trans e118
              replace e122 := (kp 122 rfl).trans e122
              apply sq_detg 124 hE k rfl (by rfl) (by rfl) rfl rfl e122
              case h =>   -- 8: t124 := Op.unOp UnOp.not 4 (tmp 123)
                exact x_not rfl e123
              intro a550 hE e124 kp
              replace e118 := (kp 118 rfl).trans e118
              replace e122 := (kp 122 rfl).trans e122
              apply sq_detg 125 hE k rfl (by rfl) (by rfl) rfl rfl e118
              case h =>   -- 9: t125 := Op.pick (tmp 122) (tmp 124) (const (Value.bool false))
                exact x_pick_t rfl e122 e124
              intro a551 hE e125 kp
              replace e118 := (kp 118 rfl).trans e118
              apply sq_det 126 hE k rfl (by rfl) (by rfl) rfl
              case h =>   -- 10: t126 := Op.pick (tmp 118) (const (Value.bool true)) (tmp 125)
                exact x_pick_f rfl e118 e125
              intro a552 hE e126 kp
              apply sq_det 127 hE k rfl (by rfl) (by rfl) rfl
              case h =>   -- 11: t127 := Op.move (tmp 126)
                exact x_move rfl e126
              intro a553 hE e127 kp
              apply sq_detg 128 hE k rfl (by rfl) (by rfl) rfl rfl e127
              case h =>   -- 12: t128 := Op.move (tmp 11)
                exact x_move rfl (hE.eval 11 (by rfl) e11)
              intro a554 hE e128 kp
              replace e127 := (kp 127 rfl).trans e127
              apply sq_detg 129 hE k rfl (by rfl) (by rfl) rfl rfl e127
              case h =>   -- 13: t129 := Op.move (tmp 1)
                exact x_move rfl (hE.eval 1 (by rfl) e1)
              intro a555 hE e129 kp
              replace e127 := (kp 127 rfl).trans e127
              replace e128 := (kp 128 rfl).trans e128
              apply sq_detg 130 hE k rfl (by rfl) (by rfl) rfl rfl e127
              case h =>   -- 14: t130 := Op.call {callee := Callee.builtin Builtin.len, args := #[tmp 129], arg
                exact x_len Try.underlying66 rfl e129
              intro a556 hE e130 kp
              replace e127 := (kp 127 rfl).trans e127
              replace e128 := (kp 128 rfl).trans e128
              apply sq_detg 131 hE k rfl (by rfl) (by rfl) rfl rfl e127
              case h =>   -- 15: t131 := Op.binOp BinOp.geq 3 (tmp 128) (tmp 130) 3
                exact x_dec (x_geq rfl e128 e130) (decide_eq_false (by omega))
              intro a557 hE e131 kp
              replace e127 := (kp 127 rfl).trans e127
              apply sq_detg 132 hE k rfl (by rfl) (by rfl) rfl rfl e127
              case h =>   -- 16: t132 := Op.move (tmp 131)
                exact x_move rfl e131
              intro a558 hE e132 kp
              replace e127 := (kp 127 rfl).trans e127
              refine sq_skipg 133 hE k rfl (by rfl) (by rfl) rfl rfl (.inl e132) ?_
              intro a559 hE e133 kp
              replace e127 := (kp 127 rfl).trans e127
              replace e132 := (kp 132 rfl).trans e132
              refine sq_skipg 134 hE k rfl (by rfl) (by rfl) rfl rfl (.inl e132) ?_
              intro a560 hE e134 kp
              replace e127 := (kp 127 rfl).trans e127
              replace e132 := (kp 132 rfl).trans e132
              replace e133 := (kp 133 rfl).trans e133
              refine sq_skipg 135 hE k rfl (by rfl) (by rfl) rfl rfl (.inl e132) ?_
              intro a561 hE e135 kp
              replace e127 := (kp 127 rfl).trans e127
              replace e132 := (kp 132 rfl).trans e132
              apply sq_detg 136 hE k rfl (by rfl) (by rfl) rfl rfl e127
              case h =>   -- 20: t136 := Op.pick (tmp 132) (tmp 135) (const (Value.bool false))
                exact x_pick_f rfl e132 rfl
              intro a562 hE e136 kp
              replace e127 := (kp 127 rfl).trans e127
              apply sq_det 137 hE k rfl (by rfl) (by rfl) rfl
              case h =>   -- 21: t137 := Op.pick (tmp 127) (const (Value.bool true)) (tmp 136)
                exact x_pick_f rfl e127 e136
              intro a563 hE e137 kp
              refine wpList_nil ?_
              replace e0 := hE.eval 0 (by rfl) e0
              replace e1 := hE.eval 1 (by rfl) e1
              replace e2 := hE.eval 2 (by rfl) e2
              replace e8 := hE.eval 8 (by rfl) e8
              replace e11 := hE.eval 11 (by rfl) e11
              replace e12 := hE.eval 12 (by rfl) e12
              replace e14 := hE.eval 14 (by rfl) e14
              replace k := k.env hE
              clear hE e13 e15
              refine then_n ?_
              refine cond_f e137 rfl ?_
              refine wp_skip ?_
              refine then_n ?_
              refine wp_seq ?_
              refine wp_region_lit ?_   -- region 33
              have hE := Env.refl a563 [138, 139, 140, 141, 142, 143, 144]
              apply sq_det 138 hE k rfl (by rfl) (by rfl) rfl
              case h =>   -- 0: t138 := Op.move (tmp 2)
                exact x_move rfl (hE.eval 2 (by rfl) e2)
              intro a564 hE e138 kp
              apply sq_det 139 hE k rfl (by rfl) (by rfl) rfl
              case h =>   -- 1: t139 := Op.binOp BinOp.eql 9 (tmp 138) (const (Value.string {data := #[]})) 9
                exact x_dec (x_eqs (l := q) (m := []) rfl e138 rfl) (decide_eq_false hq)
              intro a565 hE e139 kp
              apply sq_det 140 hE k rfl (by rfl) (by rfl) rfl
              case h =>   -- 2: t140 := Op.move (tmp 139)
                exact x_move rfl e139
              intro a566 hE e140 kp
              refine sq_skipg 141 hE k rfl (by rfl) (by rfl) rfl rfl (.inl e140) ?_
              intro a567 hE e141 kp
              replace e140 := (kp 140 rfl).trans e140
              refine sq_skipg 142 hE k rfl (by rfl) (by rfl) rfl rfl (.inl e140) ?_
              intro a568 hE e142 kp
              replace e140 := (kp 140 rfl).trans e140
              replace e141 := (kp 141 rfl).trans e141
              refine sq_skipg 143 hE k rfl (by rfl) (by rfl) rfl rfl (.inl e140) ?_
              intro a569 hE e143 kp
              replace e140 := (kp 140 rfl).trans e140
              apply sq_det 144 hE k rfl (by rfl) (by rfl) rfl
              case h =>   -- 6: t144 := Op.pick (tmp 140) (tmp 143) (const (Value.bool false))
                exact x_pick_f rfl e140 rfl
              intro a570 hE e144 kp
              refine wpList_nil ?_
              replace e0 := hE.eval 0 (by rfl) e0
              replace e1 := hE.eval 1 (by rfl) e1
              replace e2 := hE.eval 2 (by rfl) e2
              replace e8 := hE.eval 8 (by rfl) e8
              replace e11 := hE.eval 11 (by rfl) e11
              replace k := k.env hE
              clear hE e12 e14 e137
              refine then_n ?_
              refine cond_f e144 rfl ?_
              refine wp_skip ?_
              refine block_n ?_
              refine then_n ?_
              refine wp_region_lit ?_   -- region 25
              have hE := Env.refl a570 [85, 86, 11]
              apply sq_det 85 hE k rfl (by rfl) (by rfl) rfl
              case h =>   -- 0: t85 := Op.move (tmp 11)
                exact x_move rfl e11
              intro a571 hE e85 kp
              replace e11 := (kp 11 rfl).trans e11
              apply sq_det 86 hE k rfl (by rfl) (by rfl) rfl
              case h =>   -- 1: t86 := Op.binOp BinOp.add 3 (tmp 85) (const (Value.int IntKind.i64 1)) 3
                exact x_add rfl e85 rfl (by omega)
              intro a572 hE e86 kp
              replace e11 := (kp 11 rfl).trans e11
              apply sq_det 11 hE k rfl (by rfl) (by rfl) rfl
              case h =>   -- 2: t11 := Op.assign (tmp 86)
                exact x_assign rfl e86
              intro a573 hE e11 kp
              refine wpList_nil ?_
              replace e0 := hE.eval 0 (by rfl) e0
              replace e1 := hE.eval 1 (by rfl) e1
              replace e2 := hE.eval 2 (by rfl) e2
              replace e8 := hE.eval 8 (by rfl) e8
              replace k := k.env hE
              clear hE e144
              refine then_n ?_
              refine ⟨⟨k, e0, e1, e2, e8, i + 1, e11, by omega, O⟩, ?_⟩
              rw [e11, mi]; simp only [intOf]; omega
      · have hltI : ¬ (i : Int) < 40 := by omega
        refine wp_seq ?_
        refine wp_seq ?_
        refine wp_region_lit ?_   -- region 24
        have hE := Env.refl a133 [83, 84]
        apply sq_det 83 hE k rfl (by rfl) (by rfl) rfl
        case h =>   -- 0: t83 := Op.move (tmp 11)
          exact x_move rfl (hE.eval 11 (by rfl) e11)
        intro a574 hE e83 kp
        apply sq_det 84 hE k rfl (by rfl) (by rfl) rfl
        case h =>   -- 1: t84 := Op.binOp BinOp.lss 3 (tmp 83) (const (Value.int IntKind.i64 40)) 3
          exact x_dec (x_lss rfl e83 rfl) (decide_eq_false (by omega))
        intro a575 hE e84 kp
        refine wpList_nil ?_
        replace e0 := hE.eval 0 (by rfl) e0
        replace e1 := hE.eval 1 (by rfl) e1
        replace e2 := hE.eval 2 (by rfl) e2
        replace e8 := hE.eval 8 (by rfl) e8
        replace e11 := hE.eval 11 (by rfl) e11
        replace k := k.env hE
        clear hE
        refine then_n ?_
        refine cond_f e84 rfl ?_
        refine wp_exit ?_
        refine then_x ?_
        refine then_x ?_
        refine block_x ?_
        refine then_n ?_
        refine wp_seq ?_
        refine wp_region_lit ?_   -- region 35
        have hE := Env.refl a575 [146, 147, 145, 148, 149, 16, 17]
        apply sq_det 146 hE k rfl (by rfl) (by rfl) rfl
        case h =>   -- 0: t146 := Op.move (tmp 8)
          exact x_move rfl (hE.eval 8 (by rfl) e8)
        intro a576 hE e146 kp
        apply sq_call 147 hE k rfl (by rfl) (by rfl) rfl
        case h =>   -- (*tierce/disc.Disc).Read
          simp [go_sem, BigFrame.eval_const, BigFrame.eval_global, BigFrame.eval_func, ↓IntWalk.iteOmega, ev e146]
          with_reducible exact ⟨rfl, rfl⟩
        case hc => exact dread_ok 0 40 _ (OwnT.disc O) (OwnT.get O 1 rfl) (by omega) hF2.away
        rintro e w578 ⟨rfl, R⟩
        replace O := OwnT.ext O R
        refine ⟨_, by rw [readL_all hS40], ?_⟩
        intro a577 hE e147 kp
        apply sq_det 145 hE k rfl (by rfl) (by rfl) rfl
        case h =>   -- 2: t145 := Op.move (tmp 147)
          exact x_move rfl e147
        intro a579 hE e145 kp
        apply sq_det 148 hE k rfl (by rfl) (by rfl) rfl
        case h =>   -- 3: t148 := Op.extract (tmp 145) 0
          simp [go_sem, BigFrame.eval_const, BigFrame.eval_global, BigFrame.eval_func, ↓IntWalk.iteOmega, ev e145]
          with_reducible rfl
        intro a580 hE e148 kp
        replace e145 := (kp 145 rfl).trans e145
        apply sq_det 149 hE k rfl (by rfl) (by rfl) rfl
        case h =>   -- 4: t149 := Op.extract (tmp 145) 1
          simp [go_sem, BigFrame.eval_const, BigFrame.eval_global, BigFrame.eval_func, ↓IntWalk.iteOmega, ev e145]
          with_reducible rfl
        intro a581 hE e149 kp
        replace e148 := (kp 148 rfl).trans e148
        apply sq_det 16 hE k rfl (by rfl) (by rfl) rfl
        case h =>   -- 5: t16 := Op.assign (tmp 148)
          exact x_assign rfl e148
        intro a582 hE e16 kp
        replace e149 := (kp 149 rfl).trans e149
        apply sq_det 17 hE k rfl (by rfl) (by rfl) rfl
        case h =>   -- 6: t17 := Op.assign (tmp 149)
          exact x_assign rfl e149
        intro a583 hE e17 kp
        replace e16 := (kp 16 rfl).trans e16
        refine wpList_nil ?_
        replace e8 := hE.eval 8 (by rfl) e8
        replace k := k.env hE
        clear hE e0 e1 e2 e11 e84
        refine then_n ?_
        refine wp_seq ?_
        refine wp_region_lit ?_   -- region 36
        have hE := Env.refl a583 [150, 151, 152, 153, 154, 155, 156, 157, 158, 159, 160, 161, 162, 163, 6]
        apply sq_det 150 hE k rfl (by rfl) (by rfl) rfl
        case h =>   -- 0: t150 := Op.move (tmp 17)
          exact x_move rfl (hE.eval 17 (by rfl) e17)
        intro a584 hE e150 kp
        apply sq_det 151 hE k rfl (by rfl) (by rfl) rfl
        case h =>   -- 1: t151 := Op.binOp BinOp.eql 36 (tmp 150) (const (Value.int IntKind.i64 0)) 36
          exact x_eql rfl e150 rfl
        intro a585 hE e151 kp
        apply sq_det 152 hE k rfl (by rfl) (by rfl) rfl
        case h =>   -- 2: t152 := Op.move (tmp 151)
          exact x_move rfl e151
        intro a586 hE e152 kp
        apply sq_detg 153 hE k rfl (by rfl) (by rfl) rfl rfl e152
        case h =>   -- 3: t153 := Op.move (tmp 16)
          exact x_move rfl (hE.eval 16 (by rfl) e16)
        intro a587 hE e153 kp
        replace e152 := (kp 152 rfl).trans e152
        apply sq_detg 154 hE k rfl (by rfl) (by rfl) rfl rfl e152
        case h =>   -- 4: t154 := Op.move (tmp 8)
          exact x_move rfl (hE.eval 8 (by rfl) e8)
        intro a588 hE e154 kp
        replace e152 := (kp 152 rfl).trans e152
        replace e153 := (kp 153 rfl).trans e153
        apply sq_callg 155 hE k rfl (by rfl) (by rfl) rfl rfl e152
        case h =>   -- (*tierce/disc.Disc).Image
          simp [go_sem, BigFrame.eval_const, BigFrame.eval_global, BigFrame.eval_func, ↓IntWalk.iteOmega, ev e154]
          with_reducible exact ⟨rfl, rfl⟩
        case hc => exact dimage_any _ (OwnT.disc O)
        rintro e w590 ⟨rfl, R⟩
        replace O := OwnT.ext O R
        refine ⟨_, rfl, ?_⟩
        intro a589 hE e155 kp
        replace e152 := (kp 152 rfl).trans e152
        replace e153 := (kp 153 rfl).trans e153
        apply sq_detg 156 hE k rfl (by rfl) (by rfl) rfl rfl e152
        case h =>   -- 6: t156 := Op.binOp BinOp.eql 9 (tmp 153) (tmp 155) 9
          exact x_dec (x_eqs (l := (stS xs ys q).flatten) (m := (stS xs ys q).flatten) rfl e153 e155) (decide_eq_true rfl)
        intro a591 hE e156 kp
        replace e152 := (kp 152 rfl).trans e152
        apply sq_det 157 hE k rfl (by rfl) (by rfl) rfl
        case h =>   -- 7: t157 := Op.pick (tmp 152) (tmp 156) (const (Value.bool false))
          exact x_pick_t rfl e152 e156
        intro a592 hE e157 kp
        apply sq_det 158 hE k rfl (by rfl) (by rfl) rfl
        case h =>   -- 8: t158 := Op.move (tmp 157)
          exact x_move rfl e157
        intro a593 hE e158 kp
        apply sq_detg 159 hE k rfl (by rfl) (by rfl) rfl rfl e158
        case h =>   -- 9: t159 := Op.move (tmp 8)
          exact x_move rfl (hE.eval 8 (by rfl) e8)
        intro a594 hE e159 kp
        replace e158 := (kp 158 rfl).trans e158
        apply sq_callg 160 hE k rfl (by rfl) (by rfl) rfl rfl e158
        case h =>   -- (*tierce/disc.Disc).Loose
          simp [go_sem, BigFrame.eval_const, BigFrame.eval_global, BigFrame.eval_func, ↓IntWalk.iteOmega, ev e159]
          with_reducible exact ⟨rfl, rfl⟩
        case hc => exact dloose_any _ (OwnT.disc O)
        rintro e w596 ⟨Bx2, capx2, rfl, -, -, -, -, R⟩
        replace O := OwnT.ext O R
        refine ⟨_, rfl, ?_⟩
        intro a595 hE e160 kp
        replace e158 := (kp 158 rfl).trans e158
        apply sq_detg 161 hE k rfl (by rfl) (by rfl) rfl rfl e158
        case h =>   -- 11: t161 := Op.call {callee := Callee.builtin Builtin.len, args := #[tmp 160], arg
          exact x_len Try.underlying49 rfl e160
        intro a597 hE e161 kp
        replace e158 := (kp 158 rfl).trans e158
        apply sq_detg 162 hE k rfl (by rfl) (by rfl) rfl rfl e158
        case h =>   -- 12: t162 := Op.binOp BinOp.eql 3 (tmp 161) (const (Value.int IntKind.i64 0)) 3
          exact x_dec (x_eql rfl e161 rfl) (decide_eq_true (by rw [looL_none]; rfl))
        intro a598 hE e162 kp
        replace e158 := (kp 158 rfl).trans e158
        apply sq_det 163 hE k rfl (by rfl) (by rfl) rfl
        case h =>   -- 13: t163 := Op.pick (tmp 158) (tmp 162) (const (Value.bool false))
          exact x_pick_t rfl e158 e162
        intro a599 hE e163 kp
        apply sq_det 6 hE k rfl (by rfl) (by rfl) rfl
        case h =>   -- 14: t6 := Op.assign (tmp 163)
          exact x_assign rfl e163
        intro a600 hE e6 kp
        refine wpList_nil ?_
        replace k := k.env hE
        clear hE e8 e16 e17
        refine then_n ?_
        refine wp_ret ?_
        refine ret_F1 rfl k e6 ?_
        exact ⟨rfl, O.below⟩
theorem discFlushed_walk (w : World) (v0 v1 v2 : Value) (h0 : Arg Try.prog w 66 v0) (h1 : Arg Try.prog w 66 v1) (h2 : Arg Try.prog w 9 v2) :
    Calls Try.prog 7 #[v0, v1, v2] w fun e w' => e = .returned (.bool true) ∧ Below w.heap.size w w' := by
  obtain ⟨A1, c1, xs, rfl, _, r1⟩ := arg_u8s h0
  obtain ⟨A2, c2, ys, rfl, _, r2⟩ := arg_u8s h1
  obtain ⟨s, rfl, _⟩ := arg_string Try.underlying9 h2
  rw [← sB_of s]
  exact discFlushed_core A1 A2 c1 c2 xs ys _ w r1 r2
end Go.Proofs.Ytdpohbaeopidmaa
