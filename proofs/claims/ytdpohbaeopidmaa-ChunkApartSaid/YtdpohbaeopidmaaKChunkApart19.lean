/- chunk's law: ChunkDown (printed by XChunkDn.gen.py). -/
import Derived.Test.YtdpohbaeopidmaaKChunkApart18
namespace Go.Proofs.Ytdpohbaeopidmaa
set_option linter.unusedVariables false
set_option linter.unusedSimpArgs false
open Go.RowKit Go.Maps

/-- Ten flags. -/
def mtA (mt : Nat → Bool) : Array Value := #[.bool (mt 0), .bool (mt 1), .bool (mt 2), .bool (mt 3), .bool (mt 4), .bool (mt 5), .bool (mt 6), .bool (mt 7), .bool (mt 8), .bool (mt 9)]
def mtS (mt : Nat → Bool) (k : Nat) : Nat → Bool := fun i => i == k || mt i
theorem mtA_at (mt : Nat → Bool) {k : Nat} (h : k < 10) : (mtA mt)[k]? = some (.bool (mt k)) := by
  match k, h with
  | 0, _ => rfl
  | 1, _ => rfl
  | 2, _ => rfl
  | 3, _ => rfl
  | 4, _ => rfl
  | 5, _ => rfl
  | 6, _ => rfl
  | 7, _ => rfl
  | 8, _ => rfl
  | 9, _ => rfl
theorem mtA_set (mt : Nat → Bool) {k : Nat} (h : k < 10) : (mtA mt).setIfInBounds k (.bool true) = mtA (mtS mt k) := by
  match k, h with
  | 0, _ => rfl
  | 1, _ => rfl
  | 2, _ => rfl
  | 3, _ => rfl
  | 4, _ => rfl
  | 5, _ => rfl
  | 6, _ => rfl
  | 7, _ => rfl
  | 8, _ => rfl
  | 9, _ => rfl
theorem up_away {M : Mn} (h : M.away = true) : M.up = false := by unfold Mn.up; rw [h]; rfl
theorem use_away {M : Mn} (h : M.away = true) : M.use.away = true := (use_dn (up_away h)).2
theorem arg_is {w : World} {v : Value} (h : Arg Try.prog w 49 v) : ∃ A cap, ∃ xs : List Int, v = .slice A xs.length cap ∧ Row1 w A (Value.int .i64) xs := by
  obtain ⟨A, len, cap, xs, rfl, h1, h2, h3, h4, h5⟩ := arg_ints Try.underlying49 Try.underlying3 (by kernel_rfl) h
  exact ⟨A, cap, xs, by rw [h3], h5⟩
theorem i_at {w w' : World} {A : Option Addr} {xs : List Int} (h : Row1 w A (Value.int .i64) xs) (hb : Below w.heap.size w w') {i : Nat} {x : Int} (hx : xs[i]? = some x) : ∃ b o, A = some ⟨b, o, none⟩ ∧ w'.cell? ⟨b, o + i, none⟩ = some (.int .i64 x) := by
  obtain ⟨hi, rfl⟩ := List.getElem?_eq_some_iff.1 hx
  obtain ⟨b, o, h1, _, h2⟩ := h.in_ hb hi
  exact ⟨b, o, h1, h2⟩
section
variable {M : Mn} {H : Nat} {A0 : World} {R : List Thing} {Y : Thing} {p mb n cap bm db p2 sz : Nat} {B : Option Addr} {S : List Sec} {L : Int → Option Sec} {c : Int}
/-- A write without power. -/
theorem cwrite_dead0 (i x m : Nat) (l : List UInt8) (w : World) (O : OwnT H A0 (tDisc p mb B n cap bm S L :: tMn mb M :: Y :: tBlk db 149 #[.pointer (some ⟨p, 0, none⟩), .pointer (some ⟨p2, 0, none⟩), .int .i64 (sz : Nat)] :: R) w) (hs : 0 < sz) (hz : sz ≤ 1000) (hi : i < slN n sz) (hl : l.length = 16 * m) (hf : x + m ≤ sz) (hM : M.Ok c) (hc : c ≤ 100000000) (ha : M.away = true) (hm : 0 < m) :
    Calls Try.prog 51 #[.pointer (some ⟨db, 0, none⟩), .agg #[.int .i64 0, .int .i64 i], .int .i64 x, .string (sB l)] w fun e w' => ∃ r : Int, e = .returned (.int .i64 r) ∧ r = 4 ∧ ∃ M' : Mn, M'.away = true ∧ M'.Ok (c + (m + 1 : Nat)) ∧ OwnT H A0 (tDisc p mb B n cap bm S L :: tMn mb M' :: Y :: tBlk db 149 #[.pointer (some ⟨p, 0, none⟩), .pointer (some ⟨p2, 0, none⟩), .int .i64 (sz : Nat)] :: R) w' := by
  refine (cwrite_k0 i x m l w O hs hz hi hl hf hM hc).mono ?_
  rintro e w' ⟨j, M', rfl, hj, haw, -, h0, hM', hO⟩
  obtain rfl := h0 ha
  exact ⟨4, by rw [if_neg (by omega)], rfl, M', haw hm, hM', hO⟩
end
theorem wr_in {l : List UInt8} {k j : Nat} {L : Int → Option Sec} {mt : Nat → Bool} (hk : k < 10) (hj : j ≤ 2) (h : ∀ z s, L z = some s → (0 ≤ z ∧ z < 20) ∧ mt (z.toNat / 2) = true) :
    ∀ z s, wrS l ((k * 2 + 0 : Nat) : Int) L j z = some s → (0 ≤ z ∧ z < 20) ∧ mtS mt k (z.toNat / 2) = true := by
  intro z s hz
  rw [wrS_at] at hz
  unfold mtS
  split at hz
  · rename_i hr
    have : z.toNat / 2 = k := by omega
    exact ⟨by omega, by rw [this]; simp⟩
  · obtain ⟨h1, h2⟩ := h z s hz
    exact ⟨h1, by rw [h2]; simp⟩

set_option maxRecDepth 100000 in
set_option maxHeartbeats 4000000 in
theorem chunkDown_core (f : Int) (A1 : Option Addr) (c1 : Nat) (xs : List Int) (W0 : World) (r1 : Row1 W0 A1 (Value.int .i64) xs) : Calls Try.prog 9 #[.int .i64 f, .slice A1 xs.length c1] W0 fun e w' => e = .returned (.bool true) ∧ Below W0.heap.size W0 w' := by
  have O := OwnT.start W0
  refine calls_F Try.func9 rfl 116 rfl (by rfl) ?_
  intro a1 k hargs
  have e0 : a1.eval (.tmp 0) = .int .i64 f := hargs 0 _ rfl
  have e1 : a1.eval (.tmp 1) = .slice A1 xs.length c1 := hargs 1 _ rfl
  clear hargs
  refine wp_seq ?_
  refine wp_region_lit ?_
  have hE := Env.refl a1 [4]
  apply sq_det 4 hE k rfl (by rfl) (by rfl) rfl
  case h =>
    exact x_assign rfl rfl
  intro a2 hE e4 kp
  refine wpList_nil ?_
  replace e0 := hE.eval 0 (by rfl) e0
  replace e1 := hE.eval 1 (by rfl) e1
  replace k := k.env hE
  clear hE e4
  refine then_n ?_
  refine wp_seq ?_
  refine wp_seq ?_
  refine wp_region_lit ?_
  have hE := Env.refl a2 [17, 18]
  apply sq_call 17 hE k rfl (by rfl) (by rfl) rfl
  case h =>
    simp [go_sem, BigFrame.eval_const, BigFrame.eval_global, BigFrame.eval_func, ↓IntWalk.iteOmega]
    with_reducible exact ⟨rfl, rfl⟩
  case hc => exact awake18 _
  rintro e w4 ⟨rfl, R⟩
  replace O := OwnT.ext O R
  refine ⟨_, rfl, ?_⟩
  intro a3 hE e17 kp
  apply sq_det 18 hE k rfl (by rfl) (by rfl) rfl
  case h =>
    exact x_not rfl e17
  intro a5 hE e18 kp
  refine wpList_nil ?_
  replace e0 := hE.eval 0 (by rfl) e0
  replace e1 := hE.eval 1 (by rfl) e1
  replace k := k.env hE
  clear hE
  refine then_n ?_
  refine cond_f e18 rfl ?_
  refine wp_skip ?_
  refine then_n ?_
  by_cases hl : xs.length ≤ 30
  rotate_left
  · skip
    refine wp_seq ?_
    refine wp_seq ?_
    refine wp_region_lit ?_
    have hE := Env.refl a5 [19, 20, 21]
    apply sq_det 19 hE k rfl (by rfl) (by rfl) rfl
    case h =>
      exact x_move rfl (hE.eval 1 (by rfl) e1)
    intro a6 hE e19 kp
    apply sq_det 20 hE k rfl (by rfl) (by rfl) rfl
    case h =>
      exact x_len Try.underlying49 rfl e19
    intro a7 hE e20 kp
    apply sq_det 21 hE k rfl (by rfl) (by rfl) rfl
    case h =>
      exact x_dec (x_gtr rfl e20 rfl) (decide_eq_true (by omega))
    intro a8 hE e21 kp
    refine wpList_nil ?_
    replace e0 := hE.eval 0 (by rfl) e0
    replace e1 := hE.eval 1 (by rfl) e1
    replace k := k.env hE
    clear hE e18
    refine then_n ?_
    refine cond_t e21 rfl ?_
    refine wp_seq ?_
    refine wp_region_lit ?_
    have hE := Env.refl a8 [4]
    apply sq_det 4 hE k rfl (by rfl) (by rfl) rfl
    case h =>
      exact x_assign rfl rfl
    intro a9 hE e4 kp
    refine wpList_nil ?_
    replace k := k.env hE
    clear hE e0 e1 e21
    refine then_n ?_
    refine wp_ret ?_
    refine then_r ?_
    refine ret_F1 rfl k e4 ?_
    exact ⟨rfl, O.below⟩
  obtain ⟨fm, hfm⟩ : ∃ m, uN f % 40 = m := ⟨_, rfl⟩
  refine wp_seq ?_
  refine wp_seq ?_
  refine wp_region_lit ?_
  have hE := Env.refl a5 [19, 20, 21]
  apply sq_det 19 hE k rfl (by rfl) (by rfl) rfl
  case h =>
    exact x_move rfl (hE.eval 1 (by rfl) e1)
  intro a10 hE e19 kp
  apply sq_det 20 hE k rfl (by rfl) (by rfl) rfl
  case h =>
    exact x_len Try.underlying49 rfl e19
  intro a11 hE e20 kp
  apply sq_det 21 hE k rfl (by rfl) (by rfl) rfl
  case h =>
    exact x_dec (x_gtr rfl e20 rfl) (decide_eq_false (by omega))
  intro a12 hE e21 kp
  refine wpList_nil ?_
  replace e0 := hE.eval 0 (by rfl) e0
  replace e1 := hE.eval 1 (by rfl) e1
  replace k := k.env hE
  clear hE e18
  refine then_n ?_
  refine cond_f e21 rfl ?_
  refine wp_skip ?_
  refine then_n ?_
  refine wp_seq ?_
  refine wp_region_lit ?_
  have hE := Env.refl a12 [22, 5]
  apply sq_call 22 hE k rfl (by rfl) (by rfl) rfl
  case h =>
    simp [go_sem, BigFrame.eval_const, BigFrame.eval_global, BigFrame.eval_func, ↓IntWalk.iteOmega]
    with_reducible exact ⟨rfl, rfl⟩
  case hc => exact new_mn O
  clear O
  rintro e w14 ⟨mb, rfl, O⟩
  refine ⟨_, rfl, ?_⟩
  intro a13 hE e22 kp
  apply sq_det 5 hE k rfl (by rfl) (by rfl) rfl
  case h =>
    exact x_assign rfl e22
  intro a15 hE e5 kp
  refine wpList_nil ?_
  replace e0 := hE.eval 0 (by rfl) e0
  replace e1 := hE.eval 1 (by rfl) e1
  replace k := k.env hE
  clear hE e21
  refine then_n ?_
  refine wp_seq ?_
  refine wp_region_lit ?_
  have hE := Env.refl a15 [23, 24, 6]
  apply sq_det 23 hE k rfl (by rfl) (by rfl) rfl
  case h =>
    exact x_move rfl (hE.eval 5 (by rfl) e5)
  intro a16 hE e23 kp
  apply sq_call 24 hE k rfl (by rfl) (by rfl) rfl
  case h =>
    simp [go_sem, BigFrame.eval_const, BigFrame.eval_global, BigFrame.eval_func, ↓IntWalk.iteOmega, ev e23]
    with_reducible exact ⟨rfl, rfl⟩
  case hc => exact dnew_any 20 20 _ O (by decide)
  clear O
  rintro e w18 ⟨p, B, cap, bm, rfl, O⟩
  refine ⟨_, rfl, ?_⟩
  intro a17 hE e24 kp
  apply sq_det 6 hE k rfl (by rfl) (by rfl) rfl
  case h =>
    exact x_assign rfl e24
  intro a19 hE e6 kp
  refine wpList_nil ?_
  replace e0 := hE.eval 0 (by rfl) e0
  replace e1 := hE.eval 1 (by rfl) e1
  replace e5 := hE.eval 5 (by rfl) e5
  replace k := k.env hE
  clear hE
  refine then_n ?_
  refine wp_seq ?_
  refine wp_region_lit ?_
  have hE := Env.refl a19 [26, 27, 28, 29, 25, 30, 31, 7, 8]
  apply sq_det 26 hE k rfl (by rfl) (by rfl) rfl
  case h =>
    exact x_move rfl (hE.eval 6 (by rfl) e6)
  intro a20 hE e26 kp
  apply sq_det 27 hE k rfl (by rfl) (by rfl) rfl
  case h =>
    exact x_move rfl (hE.eval 5 (by rfl) e5)
  intro a21 hE e27 kp
  replace e26 := (kp 26 rfl).trans e26
  apply sq_call 28 hE k rfl (by rfl) (by rfl) rfl
  case h =>
    simp [go_sem, BigFrame.eval_const, BigFrame.eval_global, BigFrame.eval_func, ↓IntWalk.iteOmega, ev e27]
    with_reducible exact ⟨rfl, rfl⟩
  case hc => exact dnew_any 20 20 _ O (by decide)
  clear O
  rintro e w23 ⟨p2, B2, cap2, bm2, rfl, O⟩
  refine ⟨_, rfl, ?_⟩
  intro a22 hE e28 kp
  replace e26 := (kp 26 rfl).trans e26
  apply sq_call 29 hE k rfl (by rfl) (by rfl) rfl
  case h =>
    simp [go_sem, BigFrame.eval_const, BigFrame.eval_global, BigFrame.eval_func, ↓IntWalk.iteOmega, ev e26, ev e28]
    with_reducible exact ⟨rfl, rfl⟩
  case hc => exact cnew_ok 2 _ O (OwnT.discAt O 1 rfl) (OwnT.discAt O 0 rfl) (by decide)
  clear O
  rintro e w25 ⟨db, rfl, O⟩
  refine ⟨_, rfl, ?_⟩
  intro a24 hE e29 kp
  apply sq_det 25 hE k rfl (by rfl) (by rfl) rfl
  case h =>
    exact x_move rfl e29
  intro a26 hE e25 kp
  apply sq_det 30 hE k rfl (by rfl) (by rfl) rfl
  case h =>
    simp [go_sem, BigFrame.eval_const, BigFrame.eval_global, BigFrame.eval_func, ↓IntWalk.iteOmega, ev e25]
    with_reducible rfl
  intro a27 hE e30 kp
  replace e25 := (kp 25 rfl).trans e25
  apply sq_det 31 hE k rfl (by rfl) (by rfl) rfl
  case h =>
    simp [go_sem, BigFrame.eval_const, BigFrame.eval_global, BigFrame.eval_func, ↓IntWalk.iteOmega, ev e25]
    with_reducible rfl
  intro a28 hE e31 kp
  replace e30 := (kp 30 rfl).trans e30
  apply sq_det 7 hE k rfl (by rfl) (by rfl) rfl
  case h =>
    exact x_assign rfl e30
  intro a29 hE e7 kp
  replace e31 := (kp 31 rfl).trans e31
  apply sq_det 8 hE k rfl (by rfl) (by rfl) rfl
  case h =>
    exact x_assign rfl e31
  intro a30 hE e8 kp
  replace e7 := (kp 7 rfl).trans e7
  refine wpList_nil ?_
  replace e0 := hE.eval 0 (by rfl) e0
  replace e1 := hE.eval 1 (by rfl) e1
  replace e5 := hE.eval 5 (by rfl) e5
  replace e6 := hE.eval 6 (by rfl) e6
  replace k := k.env hE
  clear hE
  refine then_n ?_
  refine wp_seq ?_
  refine wp_seq ?_
  refine wp_region_lit ?_
  have hE := Env.refl a30 [32, 33]
  apply sq_det 32 hE k rfl (by rfl) (by rfl) rfl
  case h =>
    exact x_move rfl (hE.eval 8 (by rfl) e8)
  intro a31 hE e32 kp
  apply sq_det 33 hE k rfl (by rfl) (by rfl) rfl
  case h =>
    exact x_dec (x_neq rfl e32 rfl) (decide_eq_false (by omega))
  intro a32 hE e33 kp
  refine wpList_nil ?_
  replace e0 := hE.eval 0 (by rfl) e0
  replace e1 := hE.eval 1 (by rfl) e1
  replace e5 := hE.eval 5 (by rfl) e5
  replace e6 := hE.eval 6 (by rfl) e6
  replace e7 := hE.eval 7 (by rfl) e7
  replace k := k.env hE
  clear hE e8
  refine then_n ?_
  refine cond_f e33 rfl ?_
  refine wp_skip ?_
  refine then_n ?_
  replace O : OwnT _ _ ([tDisc p mb B 20 cap bm (List.replicate 20 zsec) (fun _ => none), tMn mb mn0, tDisc p2 mb B2 20 cap2 bm2 (List.replicate 20 zsec) (fun _ => none), tBlk db 149 #[.pointer (some ⟨p, 0, none⟩), .pointer (some ⟨p2, 0, none⟩), .int .i64 (↑(2 : Nat))]]) w25 := OwnT.pick O [2, 3, 1, 0] (by decide)
  refine wp_seq ?_
  refine wp_region_lit ?_
  have hE := Env.refl a32 [34, 35, 36, 37, 38, 39]
  apply sq_det 34 hE k rfl (by rfl) (by rfl) rfl
  case h =>
    exact x_move rfl (hE.eval 5 (by rfl) e5)
  intro a33 hE e34 kp
  apply sq_det 35 hE k rfl (by rfl) (by rfl) rfl
  case h =>
    exact x_move rfl (hE.eval 0 (by rfl) e0)
  intro a34 hE e35 kp
  replace e34 := (kp 34 rfl).trans e34
  apply sq_det 36 hE k rfl (by rfl) (by rfl) rfl
  case h =>
    exact x_conv rfl e35 (conv_uint f _)
  intro a35 hE e36 kp
  replace e34 := (kp 34 rfl).trans e34
  apply sq_det 37 hE k rfl (by rfl) (by rfl) rfl
  case h =>
    exact x_remU (m := uN f) (j := 40) rfl e36 rfl rfl (by decide)
  intro a36 hE e37 kp
  replace e34 := (kp 34 rfl).trans e34
  apply sq_det 38 hE k rfl (by rfl) (by rfl) rfl
  case h =>
    exact x_conv rfl e37 (conv_int _ _ (by omega))
  intro a37 hE e38 kp
  replace e34 := (kp 34 rfl).trans e34
  replace e38 := e38.trans (int_eq (show ((uN f % 40 : Nat) : Int) = (fm : Int) by rw [hfm]))
  apply sq_call 39 hE k rfl (by rfl) (by rfl) rfl
  case h =>
    simp [go_sem, BigFrame.eval_const, BigFrame.eval_global, BigFrame.eval_func, ↓IntWalk.iteOmega, ev e34, ev e38]
    with_reducible exact ⟨rfl, rfl⟩
  case hc => exact fuse_mn ↑fm (OwnT.perm O (.swap _ _ _))
  clear O
  rintro e w39 ⟨rfl, O⟩
  replace O := O.perm (.swap _ _ _)
  refine ⟨_, rfl, ?_⟩
  intro a38 hE e39 kp
  refine wpList_nil ?_
  replace e1 := hE.eval 1 (by rfl) e1
  replace e5 := hE.eval 5 (by rfl) e5
  replace e6 := hE.eval 6 (by rfl) e6
  replace e7 := hE.eval 7 (by rfl) e7
  replace k := k.env hE
  clear hE e0 e33 e39
  refine then_n ?_
  refine wp_seq ?_
  refine wp_region_lit ?_
  have hE := Env.refl a38 [40, 9]
  apply sq_det 40 hE k rfl (by rfl) (by rfl) rfl
  case h =>
    simp [go_sem, BigFrame.eval_const, BigFrame.eval_global, BigFrame.eval_func, ↓IntWalk.iteOmega]
    with_reducible rfl
  intro a40 hE e40 kp
  refine sq_new O (cs := #[.bool false, .bool false, .bool false, .bool false, .bool false, .bool false, .bool false, .bool false, .bool false, .bool false]) (t := 87) 9 hE k rfl (by rfl) (by rfl) rfl (by simp [go_sem, BigFrame.eval_const, BigFrame.eval_global, BigFrame.eval_func, ↓IntWalk.iteOmega]) ?_
  clear O
  intro gm a41 w42 O hE e9 kp
  replace e40 := (kp 40 rfl).trans e40
  have q0 : w42.cell? ⟨gm, 0, none⟩ = some (.bool false) := (OwnT.blk O 0 rfl).cell 0
  have z0 : w42.frozen? ⟨gm, 0, none⟩ = false := (OwnT.blk O 0 rfl).frozen 0
  have q1 : w42.cell? ⟨gm, 1, none⟩ = some (.bool false) := (OwnT.blk O 0 rfl).cell 1
  have z1 : w42.frozen? ⟨gm, 1, none⟩ = false := (OwnT.blk O 0 rfl).frozen 1
  have q2 : w42.cell? ⟨gm, 2, none⟩ = some (.bool false) := (OwnT.blk O 0 rfl).cell 2
  have z2 : w42.frozen? ⟨gm, 2, none⟩ = false := (OwnT.blk O 0 rfl).frozen 2
  have q3 : w42.cell? ⟨gm, 3, none⟩ = some (.bool false) := (OwnT.blk O 0 rfl).cell 3
  have z3 : w42.frozen? ⟨gm, 3, none⟩ = false := (OwnT.blk O 0 rfl).frozen 3
  have q4 : w42.cell? ⟨gm, 4, none⟩ = some (.bool false) := (OwnT.blk O 0 rfl).cell 4
  have z4 : w42.frozen? ⟨gm, 4, none⟩ = false := (OwnT.blk O 0 rfl).frozen 4
  have q5 : w42.cell? ⟨gm, 5, none⟩ = some (.bool false) := (OwnT.blk O 0 rfl).cell 5
  have z5 : w42.frozen? ⟨gm, 5, none⟩ = false := (OwnT.blk O 0 rfl).frozen 5
  have q6 : w42.cell? ⟨gm, 6, none⟩ = some (.bool false) := (OwnT.blk O 0 rfl).cell 6
  have z6 : w42.frozen? ⟨gm, 6, none⟩ = false := (OwnT.blk O 0 rfl).frozen 6
  have q7 : w42.cell? ⟨gm, 7, none⟩ = some (.bool false) := (OwnT.blk O 0 rfl).cell 7
  have z7 : w42.frozen? ⟨gm, 7, none⟩ = false := (OwnT.blk O 0 rfl).frozen 7
  have q8 : w42.cell? ⟨gm, 8, none⟩ = some (.bool false) := (OwnT.blk O 0 rfl).cell 8
  have z8 : w42.frozen? ⟨gm, 8, none⟩ = false := (OwnT.blk O 0 rfl).frozen 8
  have q9 : w42.cell? ⟨gm, 9, none⟩ = some (.bool false) := (OwnT.blk O 0 rfl).cell 9
  have z9 : w42.frozen? ⟨gm, 9, none⟩ = false := (OwnT.blk O 0 rfl).frozen 9
  refine sq_unit (w' := ((((((((((w42.setCell ⟨gm, 0, none⟩ (.bool false)).setCell ⟨gm, 1, none⟩ (.bool false)).setCell ⟨gm, 2, none⟩ (.bool false)).setCell ⟨gm, 3, none⟩ (.bool false)).setCell ⟨gm, 4, none⟩ (.bool false)).setCell ⟨gm, 5, none⟩ (.bool false)).setCell ⟨gm, 6, none⟩ (.bool false)).setCell ⟨gm, 7, none⟩ (.bool false)).setCell ⟨gm, 8, none⟩ (.bool false)).setCell ⟨gm, 9, none⟩ (.bool false))) hE rfl rfl (by simp [go_sem, BigFrame.eval_const, BigFrame.eval_global, BigFrame.eval_func, ↓IntWalk.iteOmega, ev e9, ev e40, q0, z0, q1, z1, q2, z2, q3, z3, q4, z4, q5, z5, q6, z6, q7, z7, q8, z8, q9, z9]) ?_
  replace O := OwnT.push 0 rfl (((((((((((OwnT.pull O 0 rfl).set 0 (.bool false)).set 1 (.bool false)).set 2 (.bool false)).set 3 (.bool false)).set 4 (.bool false)).set 5 (.bool false)).set 6 (.bool false)).set 7 (.bool false)).set 8 (.bool false)).set 9 (.bool false))
  clear q0 z0 q1 z1 q2 z2 q3 z3 q4 z4 q5 z5 q6 z6 q7 z7 q8 z8 q9 z9
  generalize ((((((((((w42.setCell ⟨gm, 0, none⟩ (.bool false)).setCell ⟨gm, 1, none⟩ (.bool false)).setCell ⟨gm, 2, none⟩ (.bool false)).setCell ⟨gm, 3, none⟩ (.bool false)).setCell ⟨gm, 4, none⟩ (.bool false)).setCell ⟨gm, 5, none⟩ (.bool false)).setCell ⟨gm, 6, none⟩ (.bool false)).setCell ⟨gm, 7, none⟩ (.bool false)).setCell ⟨gm, 8, none⟩ (.bool false)).setCell ⟨gm, 9, none⟩ (.bool false)) = w43 at O ⊢
  replace O : OwnT _ _ ([tBlk gm 87 #[.bool false, .bool false, .bool false, .bool false, .bool false, .bool false, .bool false, .bool false, .bool false, .bool false], tDisc p mb B 20 cap bm (List.replicate 20 zsec) (fun _ => none), tMn mb (mn0.fused ↑fm), tDisc p2 mb B2 20 cap2 bm2 (List.replicate 20 zsec) (fun _ => none), tBlk db 149 #[.pointer (some ⟨p, 0, none⟩), .pointer (some ⟨p2, 0, none⟩), .int .i64 (↑(2 : Nat))]]) w43 := O
  refine wpList_nil ?_
  replace e1 := hE.eval 1 (by rfl) e1
  replace e5 := hE.eval 5 (by rfl) e5
  replace e6 := hE.eval 6 (by rfl) e6
  replace e7 := hE.eval 7 (by rfl) e7
  replace k := k.env hE
  clear hE e40
  refine then_n ?_
  have hM0 : (mn0.fused (fm : Int)).Ok 2 := (mn0_ok.fused (by omega)).mono (by omega)
  replace O : OwnT _ _ ([tDisc p mb B 20 cap bm (List.replicate 20 zsec) (fun _ => none), tMn mb (mn0.fused ↑fm), tDisc p2 mb B2 20 cap2 bm2 (List.replicate 20 zsec) (fun _ => none), tBlk db 149 #[.pointer (some ⟨p, 0, none⟩), .pointer (some ⟨p2, 0, none⟩), .int .i64 (↑(2 : Nat))], tBlk gm 87 #[.bool false, .bool false, .bool false, .bool false, .bool false, .bool false, .bool false, .bool false, .bool false, .bool false]]) w43 := OwnT.pick O [1, 2, 3, 4, 0] (by decide)
  replace O : OwnT _ _ ([tDisc p mb B 20 cap bm (List.replicate 20 zsec) (fun _ => none), tMn mb (mn0.fused ↑fm), tDisc p2 mb B2 20 cap2 bm2 (List.replicate 20 zsec) (fun _ => none), tBlk db 149 #[.pointer (some ⟨p, 0, none⟩), .pointer (some ⟨p2, 0, none⟩), .int .i64 (↑(2 : Nat))], tBlk gm 87 (mtA (fun _ => false))]) w43 := O
  refine wp_seq ?_
  refine wp_seq ?_
  refine wp_region_lit ?_
  have hE := Env.refl a41 [10]
  apply sq_det 10 hE k rfl (by rfl) (by rfl) rfl
  case h =>
    exact x_assign rfl rfl
  intro a44 hE e10 kp
  refine wpList_nil ?_
  replace e1 := hE.eval 1 (by rfl) e1
  replace e5 := hE.eval 5 (by rfl) e5
  replace e6 := hE.eval 6 (by rfl) e6
  replace e7 := hE.eval 7 (by rfl) e7
  replace e9 := hE.eval 9 (by rfl) e9
  replace k := k.env hE
  clear hE
  refine then_n ?_
  refine wp_block ?_
  refine wp_loop (fun a w => Fr 116 a ∧ a.eval (.tmp 1) = .slice A1 xs.length c1 ∧ a.eval (.tmp 5) = .pointer (some ⟨mb, 0, none⟩) ∧ a.eval (.tmp 6) = .pointer (some ⟨p, 0, none⟩) ∧ a.eval (.tmp 7) = .pointer (some ⟨db, 0, none⟩) ∧ a.eval (.tmp 9) = .pointer (some ⟨gm, 0, none⟩) ∧ ∃ (i : Nat) (L : Int → Option Sec) (M : Mn) (mt : Nat → Bool), a.eval (.tmp 10) = .int .i64 ↑i ∧ i ≤ xs.length ∧ M.Ok (2 + 3 * (i : Int)) ∧ (∀ z s, L z = some s → (0 ≤ z ∧ z < 20) ∧ mt (z.toNat / 2) = true) ∧ OwnT W0.heap.size W0 [tDisc p mb B 20 cap bm (List.replicate 20 zsec) L, tMn mb M, tDisc p2 mb B2 20 cap2 bm2 (List.replicate 20 zsec) (fun _ => none), tBlk db 149 #[.pointer (some ⟨p, 0, none⟩), .pointer (some ⟨p2, 0, none⟩), .int .i64 (↑(2 : Nat))], tBlk gm 87 (mtA mt)] w) (fun a w => xs.length - (intOf (a.eval (.tmp 10))).toNat) ?_ ?_
  · exact ⟨k, e1, e5, e6, e7, e9, 0, _, _, _, e10, Nat.zero_le _, hM0.mono (by omega), (fun _ _ h => by cases h), O⟩
  intro a45 w46 hI
  clear k e1 e5 e6 e7 e9
  obtain ⟨k, e1, e5, e6, e7, e9, h_⟩ := hI
  clear O e10 hM0
  obtain ⟨i, L, M, mt, e10, hi, hM, hinv, O⟩ := h_
  have mi := e10
  refine wp_seq ?_
  refine wp_seq ?_
  refine wp_region_lit ?_
  have hE := Env.refl a45 [41, 42, 43, 44]
  apply sq_det 41 hE k rfl (by rfl) (by rfl) rfl
  case h =>
    exact x_move rfl (hE.eval 10 (by rfl) e10)
  intro a47 hE e41 kp
  apply sq_det 42 hE k rfl (by rfl) (by rfl) rfl
  case h =>
    exact x_move rfl (hE.eval 1 (by rfl) e1)
  intro a48 hE e42 kp
  replace e41 := (kp 41 rfl).trans e41
  apply sq_det 43 hE k rfl (by rfl) (by rfl) rfl
  case h =>
    exact x_len Try.underlying49 rfl e42
  intro a49 hE e43 kp
  replace e41 := (kp 41 rfl).trans e41
  apply sq_det 44 hE k rfl (by rfl) (by rfl) rfl
  case h =>
    exact x_lss rfl e41 e43
  intro a50 hE e44 kp
  refine wpList_nil ?_
  replace e1 := hE.eval 1 (by rfl) e1
  replace e5 := hE.eval 5 (by rfl) e5
  replace e6 := hE.eval 6 (by rfl) e6
  replace e7 := hE.eval 7 (by rfl) e7
  replace e9 := hE.eval 9 (by rfl) e9
  replace e10 := hE.eval 10 (by rfl) e10
  replace k := k.env hE
  clear hE
  refine then_n ?_
  by_cases hlt : i < xs.length
  · have hltI : (i : Int) < (xs.length : Int) := by omega
    refine cond_t e44 (congrArg Value.bool (decide_eq_true (by omega))) ?_
    clear e44
    obtain ⟨x, hx⟩ : ∃ x, xs[i]? = some x := ⟨_, List.getElem?_eq_getElem hlt⟩
    obtain ⟨b, o, rfl, cx⟩ := i_at r1 O.below hx
    obtain ⟨kk, hkk⟩ : ∃ m, uN x % 10 = m := ⟨_, rfl⟩
    have hk10 : kk < 10 := by omega
    refine wp_skip ?_
    refine then_n ?_
    refine wp_seq ?_
    refine wp_block ?_
    refine wp_seq ?_
    refine wp_region_lit ?_
    have hE := Env.refl a50 [47, 48, 49, 50, 51, 52, 53, 11]
    apply sq_det 47 hE k rfl (by rfl) (by rfl) rfl
    case h =>
      exact x_move rfl (hE.eval 1 (by rfl) e1)
    intro a51 hE e47 kp
    apply sq_det 48 hE k rfl (by rfl) (by rfl) rfl
    case h =>
      exact x_move rfl (hE.eval 10 (by rfl) e10)
    intro a52 hE e48 kp
    replace e47 := (kp 47 rfl).trans e47
    apply sq_det 49 hE k rfl (by rfl) (by rfl) rfl
    case h =>
      simp [go_sem, BigFrame.eval_const, BigFrame.eval_global, BigFrame.eval_func, ↓IntWalk.iteOmega, ev e47, ev e48]
      with_reducible rfl
    intro a53 hE e49 kp
    apply sq_det 50 hE k rfl (by rfl) (by rfl) rfl
    case h =>
      simp [go_sem, BigFrame.eval_const, BigFrame.eval_global, BigFrame.eval_func, ↓IntWalk.iteOmega, ev e49, cx]
      with_reducible rfl
    intro a54 hE e50 kp
    apply sq_det 51 hE k rfl (by rfl) (by rfl) rfl
    case h =>
      exact x_conv rfl e50 (conv_uint x _)
    intro a55 hE e51 kp
    apply sq_det 52 hE k rfl (by rfl) (by rfl) rfl
    case h =>
      exact x_remU (m := uN x) (j := 10) rfl e51 rfl rfl (by decide)
    intro a56 hE e52 kp
    apply sq_det 53 hE k rfl (by rfl) (by rfl) rfl
    case h =>
      exact x_conv rfl e52 (conv_int _ _ (by omega))
    intro a57 hE e53 kp
    replace e53 := e53.trans (int_eq (show ((uN x % 10 : Nat) : Int) = (kk : Int) by rw [hkk]))
    apply sq_det 11 hE k rfl (by rfl) (by rfl) rfl
    case h =>
      exact x_assign rfl e53
    intro a58 hE e11 kp
    refine wpList_nil ?_
    replace e1 := hE.eval 1 (by rfl) e1
    replace e5 := hE.eval 5 (by rfl) e5
    replace e6 := hE.eval 6 (by rfl) e6
    replace e7 := hE.eval 7 (by rfl) e7
    replace e9 := hE.eval 9 (by rfl) e9
    replace e10 := hE.eval 10 (by rfl) e10
    replace k := k.env hE
    clear hE
    refine then_n ?_
    have hcc : w46.cell? ⟨gm, kk, none⟩ = some (.bool (mt kk)) := ((OwnT.blk O 4 rfl).cell kk).trans (mtA_at mt hk10)
    have hfz : w46.frozen? ⟨gm, kk, none⟩ = false := (OwnT.blk O 4 rfl).frozen kk
    refine wp_seq ?_
    refine wp_region_lit ?_
    have hE := Env.refl a58 [54, 55]
    apply sq_det 54 hE k rfl (by rfl) (by rfl) rfl
    case h =>
      exact x_move rfl (hE.eval 11 (by rfl) e11)
    intro a59 hE e54 kp
    apply sq_det 55 hE k rfl (by rfl) (by rfl) rfl
    case h =>
      simp [go_sem, BigFrame.eval_const, BigFrame.eval_global, BigFrame.eval_func, ↓IntWalk.iteOmega, ev (hE.eval 9 (by rfl) e9), ev e54]
      with_reducible rfl
    intro a60 hE e55 kp
    refine sq_unit (w' := (w46.setCell ⟨gm, kk, none⟩ (.bool true))) hE rfl rfl ?_ ?_
    · simp [go_sem, BigFrame.eval_const, BigFrame.eval_global, BigFrame.eval_func, ↓IntWalk.iteOmega, ev e55, hcc, hfz]
    replace O := OwnT.push (L := [_, _, _, _, _]) 4 rfl ((OwnT.pull O 4 rfl).set kk (.bool true))
    clear hcc hfz
    rw [mtA_set mt hk10] at O
    generalize (w46.setCell ⟨gm, kk, none⟩ (.bool true)) = w61 at O ⊢
    refine wpList_nil ?_
    replace e1 := hE.eval 1 (by rfl) e1
    replace e5 := hE.eval 5 (by rfl) e5
    replace e6 := hE.eval 6 (by rfl) e6
    replace e7 := hE.eval 7 (by rfl) e7
    replace e9 := hE.eval 9 (by rfl) e9
    replace e10 := hE.eval 10 (by rfl) e10
    replace e11 := hE.eval 11 (by rfl) e11
    replace k := k.env hE
    clear hE e55
    refine then_n ?_
    refine wp_seq ?_
    refine wp_region_lit ?_
    have hE := Env.refl a60 [56, 57, 58, 59, 60, 12]
    apply sq_det 56 hE k rfl (by rfl) (by rfl) rfl
    case h =>
      exact x_move rfl (hE.eval 7 (by rfl) e7)
    intro a62 hE e56 kp
    apply sq_det 57 hE k rfl (by rfl) (by rfl) rfl
    case h =>
      exact x_move rfl (hE.eval 11 (by rfl) e11)
    intro a63 hE e57 kp
    replace e56 := (kp 56 rfl).trans e56
    apply sq_det 58 hE k rfl (by rfl) (by rfl) rfl
    case h =>
      simp [go_sem, BigFrame.eval_const, BigFrame.eval_global, BigFrame.eval_func, ↓IntWalk.iteOmega, ev e57]
      with_reducible rfl
    intro a64 hE e58 kp
    replace e56 := (kp 56 rfl).trans e56
    apply sq_call 59 hE k rfl (by rfl) (by rfl) rfl
    case h =>
      simp [go_sem, BigFrame.eval_const, BigFrame.eval_global, BigFrame.eval_func, ↓IntWalk.iteOmega]
      with_reducible exact ⟨rfl, rfl⟩
    case hc => exact fill18_any 97 2 (by decide) _
    rintro e w66 ⟨rfl, R⟩
    replace O := OwnT.ext O R
    refine ⟨_, rfl, ?_⟩
    intro a65 hE e59 kp
    replace e56 := (kp 56 rfl).trans e56
    replace e58 := (kp 58 rfl).trans e58
    apply sq_call 60 hE k rfl (by rfl) (by rfl) rfl
    case h =>
      simp [go_sem, BigFrame.eval_const, BigFrame.eval_global, BigFrame.eval_func, ↓IntWalk.iteOmega, ev e56, ev e58, ev e59]
      with_reducible exact ⟨rfl, rfl⟩
    case hc => exact cwrite_k0 kk 0 2 (List.replicate (16 * 2) 97) _ O (by decide) (by decide) (show kk < 10 from hk10) List.length_replicate (by decide) hM (by omega)
    clear O
    rintro e w68 ⟨j, M', rfl, hj, ha, -, -, hM', O⟩
    refine ⟨_, rfl, ?_⟩
    intro a67 hE e60 kp
    apply sq_det 12 hE k rfl (by rfl) (by rfl) rfl
    case h =>
      exact x_assign rfl e60
    intro a69 hE e12 kp
    refine wpList_nil ?_
    replace e1 := hE.eval 1 (by rfl) e1
    replace e5 := hE.eval 5 (by rfl) e5
    replace e6 := hE.eval 6 (by rfl) e6
    replace e7 := hE.eval 7 (by rfl) e7
    replace e9 := hE.eval 9 (by rfl) e9
    replace e10 := hE.eval 10 (by rfl) e10
    replace k := k.env hE
    clear hE e11
    refine then_n ?_
    replace hinv := wr_in (l := List.replicate (16 * 2) 97) hk10 hj hinv
    by_cases hj2 : j = 2
    · rw [if_pos hj2] at e12
      refine wp_seq ?_
      refine wp_region_lit ?_
      have hE := Env.refl a69 [61, 62, 63, 64, 65, 66, 67, 68, 69, 70]
      apply sq_det 61 hE k rfl (by rfl) (by rfl) rfl
      case h =>
        exact x_move rfl (hE.eval 12 (by rfl) e12)
      intro a70 hE e61 kp
      apply sq_det 62 hE k rfl (by rfl) (by rfl) rfl
      case h =>
        exact x_neq rfl e61 rfl
      intro a71 hE e62 kp
      apply sq_det 63 hE k rfl (by rfl) (by rfl) rfl
      case h =>
        exact x_move rfl e62
      intro a72 hE e63 kp
      refine sq_skipg 64 hE k rfl (by rfl) (by rfl) rfl rfl (.inl e63) ?_
      intro a73 hE e64 kp
      replace e63 := (kp 63 rfl).trans e63
      refine sq_skipg 65 hE k rfl (by rfl) (by rfl) rfl rfl (.inl e63) ?_
      intro a74 hE e65 kp
      replace e63 := (kp 63 rfl).trans e63
      refine sq_skipg 66 hE k rfl (by rfl) (by rfl) rfl rfl (.inl e63) ?_
      intro a75 hE e66 kp
      replace e63 := (kp 63 rfl).trans e63
      refine sq_skipg 67 hE k rfl (by rfl) (by rfl) rfl rfl (.inr e66) ?_
      intro a76 hE e67 kp
      replace e63 := (kp 63 rfl).trans e63
      replace e66 := (kp 66 rfl).trans e66
      refine sq_skipg 68 hE k rfl (by rfl) (by rfl) rfl rfl (.inr e66) ?_
      intro a77 hE e68 kp
      replace e63 := (kp 63 rfl).trans e63
      replace e66 := (kp 66 rfl).trans e66
      refine sq_skipg 69 hE k rfl (by rfl) (by rfl) rfl rfl (.inl e63) ?_
      intro a78 hE e69 kp
      replace e63 := (kp 63 rfl).trans e63
      apply sq_det 70 hE k rfl (by rfl) (by rfl) rfl
      case h =>
        exact x_pick_f rfl e63 rfl
      intro a79 hE e70 kp
      refine wpList_nil ?_
      replace e1 := hE.eval 1 (by rfl) e1
      replace e5 := hE.eval 5 (by rfl) e5
      replace e6 := hE.eval 6 (by rfl) e6
      replace e7 := hE.eval 7 (by rfl) e7
      replace e9 := hE.eval 9 (by rfl) e9
      replace e10 := hE.eval 10 (by rfl) e10
      replace k := k.env hE
      clear hE e12
      refine then_n ?_
      refine cond_f e70 rfl ?_
      refine wp_skip ?_
      refine block_n ?_
      refine then_n ?_
      refine wp_region_lit ?_
      have hE := Env.refl a79 [45, 46, 10]
      apply sq_det 45 hE k rfl (by rfl) (by rfl) rfl
      case h =>
        exact x_move rfl e10
      intro a80 hE e45 kp
      replace e10 := (kp 10 rfl).trans e10
      apply sq_det 46 hE k rfl (by rfl) (by rfl) rfl
      case h =>
        exact x_add rfl e45 rfl (by omega)
      intro a81 hE e46 kp
      replace e10 := (kp 10 rfl).trans e10
      apply sq_det 10 hE k rfl (by rfl) (by rfl) rfl
      case h =>
        exact x_assign rfl e46
      intro a82 hE e10 kp
      refine wpList_nil ?_
      replace e1 := hE.eval 1 (by rfl) e1
      replace e5 := hE.eval 5 (by rfl) e5
      replace e6 := hE.eval 6 (by rfl) e6
      replace e7 := hE.eval 7 (by rfl) e7
      replace e9 := hE.eval 9 (by rfl) e9
      replace k := k.env hE
      clear hE e70
      refine then_n ?_
      refine ⟨⟨k, e1, e5, e6, e7, e9, i + 1, _, M', mtS mt kk, e10, by omega, hM'.mono (by omega), hinv, O⟩, ?_⟩
      rw [e10, mi]; simp only [intOf]; omega
    · rw [if_neg hj2] at e12
      have haw := ha (by omega)
      refine wp_seq ?_
      refine wp_region_lit ?_
      have hE := Env.refl a69 [61, 62, 63, 64, 65, 66, 67, 68, 69, 70]
      apply sq_det 61 hE k rfl (by rfl) (by rfl) rfl
      case h =>
        exact x_move rfl (hE.eval 12 (by rfl) e12)
      intro a83 hE e61 kp
      apply sq_det 62 hE k rfl (by rfl) (by rfl) rfl
      case h =>
        exact x_neq rfl e61 rfl
      intro a84 hE e62 kp
      apply sq_det 63 hE k rfl (by rfl) (by rfl) rfl
      case h =>
        exact x_move rfl e62
      intro a85 hE e63 kp
      apply sq_detg 64 hE k rfl (by rfl) (by rfl) rfl rfl e63
      case h =>
        exact x_move rfl (hE.eval 12 (by rfl) e12)
      intro a86 hE e64 kp
      replace e63 := (kp 63 rfl).trans e63
      apply sq_detg 65 hE k rfl (by rfl) (by rfl) rfl rfl e63
      case h =>
        exact x_neq rfl e64 rfl
      intro a87 hE e65 kp
      replace e63 := (kp 63 rfl).trans e63
      apply sq_detg 66 hE k rfl (by rfl) (by rfl) rfl rfl e63
      case h =>
        exact x_move rfl e65
      intro a88 hE e66 kp
      replace e63 := (kp 63 rfl).trans e63
      apply sq_detg 67 hE k rfl (by rfl) (by rfl) rfl rfl e66
      case h =>
        exact x_move rfl (hE.eval 5 (by rfl) e5)
      intro a89 hE e67 kp
      replace e63 := (kp 63 rfl).trans e63
      replace e66 := (kp 66 rfl).trans e66
      apply sq_callg 68 hE k rfl (by rfl) (by rfl) rfl rfl e66
      case h =>
        simp [go_sem, BigFrame.eval_const, BigFrame.eval_global, BigFrame.eval_func, ↓IntWalk.iteOmega, ev e67]
        with_reducible exact ⟨rfl, rfl⟩
      case hc => exact on_mn (OwnT.get O 1 rfl)
      rintro e _ ⟨rfl, rfl⟩
      refine ⟨_, congrArg (fun b => Ending.returned (.bool !b)) haw, ?_⟩
      intro a90 hE e68 kp
      replace e63 := (kp 63 rfl).trans e63
      replace e66 := (kp 66 rfl).trans e66
      apply sq_detg 69 hE k rfl (by rfl) (by rfl) rfl rfl e63
      case h =>
        exact x_pick_f rfl e66 e68
      intro a91 hE e69 kp
      replace e63 := (kp 63 rfl).trans e63
      apply sq_det 70 hE k rfl (by rfl) (by rfl) rfl
      case h =>
        exact x_pick_t rfl e63 e69
      intro a92 hE e70 kp
      refine wpList_nil ?_
      replace e1 := hE.eval 1 (by rfl) e1
      replace e5 := hE.eval 5 (by rfl) e5
      replace e6 := hE.eval 6 (by rfl) e6
      replace e7 := hE.eval 7 (by rfl) e7
      replace e9 := hE.eval 9 (by rfl) e9
      replace e10 := hE.eval 10 (by rfl) e10
      replace k := k.env hE
      clear hE e12
      refine then_n ?_
      refine cond_f e70 rfl ?_
      refine wp_skip ?_
      refine block_n ?_
      refine then_n ?_
      refine wp_region_lit ?_
      have hE := Env.refl a92 [45, 46, 10]
      apply sq_det 45 hE k rfl (by rfl) (by rfl) rfl
      case h =>
        exact x_move rfl e10
      intro a93 hE e45 kp
      replace e10 := (kp 10 rfl).trans e10
      apply sq_det 46 hE k rfl (by rfl) (by rfl) rfl
      case h =>
        exact x_add rfl e45 rfl (by omega)
      intro a94 hE e46 kp
      replace e10 := (kp 10 rfl).trans e10
      apply sq_det 10 hE k rfl (by rfl) (by rfl) rfl
      case h =>
        exact x_assign rfl e46
      intro a95 hE e10 kp
      refine wpList_nil ?_
      replace e1 := hE.eval 1 (by rfl) e1
      replace e5 := hE.eval 5 (by rfl) e5
      replace e6 := hE.eval 6 (by rfl) e6
      replace e7 := hE.eval 7 (by rfl) e7
      replace e9 := hE.eval 9 (by rfl) e9
      replace k := k.env hE
      clear hE e70
      refine then_n ?_
      refine ⟨⟨k, e1, e5, e6, e7, e9, i + 1, _, M', mtS mt kk, e10, by omega, hM'.mono (by omega), hinv, O⟩, ?_⟩
      rw [e10, mi]; simp only [intOf]; omega
  · have hltI : ¬ (i : Int) < (xs.length : Int) := by omega
    refine cond_f e44 (congrArg Value.bool (decide_eq_false (by omega))) ?_
    clear e1 e10 e44
    refine wp_exit ?_
    refine then_x ?_
    refine then_x ?_
    refine block_x ?_
    refine then_n ?_
    cases ha : M.away with
    | false =>
      refine wp_seq ?_
      refine wp_seq ?_
      refine wp_region_lit ?_
      have hE := Env.refl a50 [71, 72, 73]
      apply sq_det 71 hE k rfl (by rfl) (by rfl) rfl
      case h =>
        exact x_move rfl (hE.eval 5 (by rfl) e5)
      intro a96 hE e71 kp
      apply sq_call 72 hE k rfl (by rfl) (by rfl) rfl
      case h =>
        simp [go_sem, BigFrame.eval_const, BigFrame.eval_global, BigFrame.eval_func, ↓IntWalk.iteOmega, ev e71]
        with_reducible exact ⟨rfl, rfl⟩
      case hc => exact on_mn (OwnT.get O 1 rfl)
      rintro e _ ⟨rfl, rfl⟩
      refine ⟨_, congrArg (fun b => Ending.returned (.bool !b)) ha, ?_⟩
      intro a97 hE e72 kp
      apply sq_det 73 hE k rfl (by rfl) (by rfl) rfl
      case h =>
        exact x_not rfl e72
      intro a98 hE e73 kp
      refine wpList_nil ?_
      replace e6 := hE.eval 6 (by rfl) e6
      replace e7 := hE.eval 7 (by rfl) e7
      replace e9 := hE.eval 9 (by rfl) e9
      replace k := k.env hE
      clear hE e5
      refine then_n ?_
      refine cond_f e73 rfl ?_
      refine wp_skip ?_
      refine then_n ?_
      refine wp_seq ?_
      refine wp_region_lit ?_
      have hE := Env.refl a98 [100, 101, 15]
      apply sq_det 100 hE k rfl (by rfl) (by rfl) rfl
      case h =>
        exact x_move rfl (hE.eval 6 (by rfl) e6)
      intro a99 hE e100 kp
      apply sq_call 101 hE k rfl (by rfl) (by rfl) rfl
      case h =>
        simp [go_sem, BigFrame.eval_const, BigFrame.eval_global, BigFrame.eval_func, ↓IntWalk.iteOmega, ev e100]
        with_reducible exact ⟨rfl, rfl⟩
      case hc => exact dloose_any _ (OwnT.disc O)
      rintro e w101 ⟨Bl, cl, rfl, -, -, -, Rl, R⟩
      replace O := OwnT.ext O R
      refine ⟨_, rfl, ?_⟩
      intro a100 hE e101 kp
      apply sq_det 15 hE k rfl (by rfl) (by rfl) rfl
      case h =>
        exact x_assign rfl e101
      intro a102 hE e15 kp
      refine wpList_nil ?_
      replace e9 := hE.eval 9 (by rfl) e9
      replace k := k.env hE
      clear hE e6 e7 e73
      refine then_n ?_
      refine wp_seq ?_
      refine wp_seq ?_
      refine wp_region_lit ?_
      have hE := Env.refl a102 [16]
      apply sq_det 16 hE k rfl (by rfl) (by rfl) rfl
      case h =>
        exact x_assign rfl rfl
      intro a103 hE e16 kp
      refine wpList_nil ?_
      replace e9 := hE.eval 9 (by rfl) e9
      replace e15 := hE.eval 15 (by rfl) e15
      replace k := k.env hE
      clear hE
      refine then_n ?_
      refine wp_block ?_
      have hll : (looL 20 L).length ≤ 20 := riseN_le 20 _
      refine wp_loop (fun a w => Fr 116 a ∧ a.eval (.tmp 9) = .pointer (some ⟨gm, 0, none⟩) ∧ a.eval (.tmp 15) = .slice Bl ((looL 20 L).length) cl ∧ ∃ z : Nat, a.eval (.tmp 16) = .int .i64 ↑z ∧ z ≤ (looL 20 L).length ∧ OwnT W0.heap.size W0 [tDisc p mb B 20 cap bm (List.replicate 20 zsec) L, tMn mb M, tDisc p2 mb B2 20 cap2 bm2 (List.replicate 20 zsec) (fun _ => none), tBlk db 149 #[.pointer (some ⟨p, 0, none⟩), .pointer (some ⟨p2, 0, none⟩), .int .i64 (↑(2 : Nat))], tBlk gm 87 (mtA mt)] w ∧ Row w Bl 1 encI (looL 20 L)) (fun a w => (looL 20 L).length - (intOf (a.eval (.tmp 16))).toNat) ?_ ?_
      · exact ⟨k, e9, e15, 0, e16, Nat.zero_le _, O, Rl⟩
      intro a104 w105 hI
      clear k e9 e15
      obtain ⟨k, e9, e15, h_⟩ := hI
      clear O Rl e16
      obtain ⟨z, e16, hz, O, Rl⟩ := h_
      have mz := e16
      refine wp_seq ?_
      refine wp_seq ?_
      refine wp_region_lit ?_
      have hE := Env.refl a104 [102, 103, 104, 105]
      apply sq_det 102 hE k rfl (by rfl) (by rfl) rfl
      case h =>
        exact x_move rfl (hE.eval 16 (by rfl) e16)
      intro a106 hE e102 kp
      apply sq_det 103 hE k rfl (by rfl) (by rfl) rfl
      case h =>
        exact x_move rfl (hE.eval 15 (by rfl) e15)
      intro a107 hE e103 kp
      replace e102 := (kp 102 rfl).trans e102
      apply sq_det 104 hE k rfl (by rfl) (by rfl) rfl
      case h =>
        exact x_len Try.underlying49 rfl e103
      intro a108 hE e104 kp
      replace e102 := (kp 102 rfl).trans e102
      apply sq_det 105 hE k rfl (by rfl) (by rfl) rfl
      case h =>
        exact x_lss rfl e102 e104
      intro a109 hE e105 kp
      refine wpList_nil ?_
      replace e9 := hE.eval 9 (by rfl) e9
      replace e15 := hE.eval 15 (by rfl) e15
      replace e16 := hE.eval 16 (by rfl) e16
      replace k := k.env hE
      clear hE
      refine then_n ?_
      by_cases hzl : z < (looL 20 L).length
      · have hzI : (z : Int) < ((looL 20 L).length : Int) := by omega
        refine cond_t e105 (congrArg Value.bool (decide_eq_true (by omega))) ?_
        clear e105
        obtain ⟨y, hy⟩ : ∃ y, (looL 20 L)[z]? = some y := ⟨_, List.getElem?_eq_getElem hzl⟩
        obtain ⟨bl, ol, rfl, -, -⟩ := Rl z _ hy
        have hmem := mem_riseN.1 (List.mem_of_getElem? hy)
        obtain ⟨sy, hsy⟩ := Option.isSome_iff_exists.1 hmem.2
        obtain ⟨⟨hy0, hy20⟩, hmt⟩ := hinv y sy hsy
        obtain ⟨y, rfl⟩ := Int.eq_ofNat_of_zero_le hy0
        rw [Int.toNat_natCast] at hmt
        have cy := row_iN Rl (Ext.refl _) hy
        have cm : w105.cell? ⟨gm, y / 2, none⟩ = some (.bool true) := ((OwnT.blk O 4 rfl).cell (y / 2)).trans ((mtA_at mt (by omega)).trans (by rw [hmt]))
        obtain ⟨y2, hy2⟩ : ∃ y2, y / 2 = y2 := ⟨_, rfl⟩
        rw [hy2] at cm
        have hy2l : y2 < 10 := by omega
        
        refine wp_skip ?_
        refine then_n ?_
        refine wp_seq ?_
        refine wp_block ?_
        refine wp_seq ?_
        refine wp_region_lit ?_
        have hE := Env.refl a109 [108, 109, 110, 111, 112, 113, 114, 115]
        apply sq_det 108 hE k rfl (by rfl) (by rfl) rfl
        case h =>
          exact x_move rfl (hE.eval 15 (by rfl) e15)
        intro a110 hE e108 kp
        apply sq_det 109 hE k rfl (by rfl) (by rfl) rfl
        case h =>
          exact x_move rfl (hE.eval 16 (by rfl) e16)
        intro a111 hE e109 kp
        replace e108 := (kp 108 rfl).trans e108
        apply sq_det 110 hE k rfl (by rfl) (by rfl) rfl
        case h =>
          simp [go_sem, BigFrame.eval_const, BigFrame.eval_global, BigFrame.eval_func, ↓IntWalk.iteOmega, ev e108, ev e109]
          with_reducible rfl
        intro a112 hE e110 kp
        apply sq_det 111 hE k rfl (by rfl) (by rfl) rfl
        case h =>
          simp [go_sem, BigFrame.eval_const, BigFrame.eval_global, BigFrame.eval_func, ↓IntWalk.iteOmega, ev e110, cy]
          with_reducible rfl
        intro a113 hE e111 kp
        apply sq_det 112 hE k rfl (by rfl) (by rfl) rfl
        case h =>
          exact x_quoN (m := y) (j := 2) rfl e111 rfl rfl (by decide) (by omega)
        intro a114 hE e112 kp
        replace e112 := e112.trans (int_eq (show ((y / 2 : Nat) : Int) = (y2 : Int) by rw [hy2]))
        apply sq_det 113 hE k rfl (by rfl) (by rfl) rfl
        case h =>
          simp [go_sem, BigFrame.eval_const, BigFrame.eval_global, BigFrame.eval_func, ↓IntWalk.iteOmega, ev (hE.eval 9 (by rfl) e9), ev e112]
          with_reducible rfl
        intro a115 hE e113 kp
        apply sq_det 114 hE k rfl (by rfl) (by rfl) rfl
        case h =>
          simp [go_sem, BigFrame.eval_const, BigFrame.eval_global, BigFrame.eval_func, ↓IntWalk.iteOmega, ev e113, cm]
          with_reducible rfl
        intro a116 hE e114 kp
        apply sq_det 115 hE k rfl (by rfl) (by rfl) rfl
        case h =>
          exact x_not rfl e114
        intro a117 hE e115 kp
        refine wpList_nil ?_
        replace e9 := hE.eval 9 (by rfl) e9
        replace e15 := hE.eval 15 (by rfl) e15
        replace e16 := hE.eval 16 (by rfl) e16
        replace k := k.env hE
        clear hE
        refine then_n ?_
        refine cond_f e115 rfl ?_
        refine wp_skip ?_
        refine block_n ?_
        refine then_n ?_
        refine wp_region_lit ?_
        have hE := Env.refl a117 [106, 107, 16]
        apply sq_det 106 hE k rfl (by rfl) (by rfl) rfl
        case h =>
          exact x_move rfl e16
        intro a118 hE e106 kp
        replace e16 := (kp 16 rfl).trans e16
        apply sq_det 107 hE k rfl (by rfl) (by rfl) rfl
        case h =>
          exact x_add rfl e106 rfl (by omega)
        intro a119 hE e107 kp
        replace e16 := (kp 16 rfl).trans e16
        apply sq_det 16 hE k rfl (by rfl) (by rfl) rfl
        case h =>
          exact x_assign rfl e107
        intro a120 hE e16 kp
        refine wpList_nil ?_
        replace e9 := hE.eval 9 (by rfl) e9
        replace e15 := hE.eval 15 (by rfl) e15
        replace k := k.env hE
        clear hE e115
        refine then_n ?_
        refine ⟨⟨k, e9, e15, z + 1, e16, by omega, O, Rl⟩, ?_⟩
        rw [e16, mz]; simp only [intOf]; omega
      · have hzI : ¬ (z : Int) < ((looL 20 L).length : Int) := by omega
        refine cond_f e105 (congrArg Value.bool (decide_eq_false (by omega))) ?_
        clear e9 e15 e16 e105
        refine wp_exit ?_
        refine then_x ?_
        refine then_x ?_
        refine block_x ?_
        refine then_n ?_
        refine wp_seq ?_
        refine wp_region_lit ?_
        have hE := Env.refl a109 [4]
        apply sq_det 4 hE k rfl (by rfl) (by rfl) rfl
        case h =>
          exact x_assign rfl rfl
        intro a121 hE e4 kp
        refine wpList_nil ?_
        replace k := k.env hE
        clear hE
        refine then_n ?_
        refine wp_ret ?_
        refine ret_F1 rfl k e4 ?_
        exact ⟨rfl, O.below⟩
    | true =>
      refine wp_seq ?_
      refine wp_seq ?_
      refine wp_region_lit ?_
      have hE := Env.refl a50 [71, 72, 73]
      apply sq_det 71 hE k rfl (by rfl) (by rfl) rfl
      case h =>
        exact x_move rfl (hE.eval 5 (by rfl) e5)
      intro a122 hE e71 kp
      apply sq_call 72 hE k rfl (by rfl) (by rfl) rfl
      case h =>
        simp [go_sem, BigFrame.eval_const, BigFrame.eval_global, BigFrame.eval_func, ↓IntWalk.iteOmega, ev e71]
        with_reducible exact ⟨rfl, rfl⟩
      case hc => exact on_mn (OwnT.get O 1 rfl)
      rintro e _ ⟨rfl, rfl⟩
      refine ⟨_, congrArg (fun b => Ending.returned (.bool !b)) ha, ?_⟩
      intro a123 hE e72 kp
      apply sq_det 73 hE k rfl (by rfl) (by rfl) rfl
      case h =>
        exact x_not rfl e72
      intro a124 hE e73 kp
      refine wpList_nil ?_
      replace e6 := hE.eval 6 (by rfl) e6
      replace e7 := hE.eval 7 (by rfl) e7
      replace e9 := hE.eval 9 (by rfl) e9
      replace k := k.env hE
      clear hE e5
      refine then_n ?_
      refine cond_t e73 rfl ?_
      refine wp_seq ?_
      refine wp_region_lit ?_
      have hE := Env.refl a124 [75, 76, 77, 74, 78, 79, 13, 14]
      apply sq_det 75 hE k rfl (by rfl) (by rfl) rfl
      case h =>
        exact x_move rfl (hE.eval 7 (by rfl) e7)
      intro a125 hE e75 kp
      apply sq_det 76 hE k rfl (by rfl) (by rfl) rfl
      case h =>
        simp [go_sem, BigFrame.eval_const, BigFrame.eval_global, BigFrame.eval_func, ↓IntWalk.iteOmega]
        with_reducible rfl
      intro a126 hE e76 kp
      replace e75 := (kp 75 rfl).trans e75
      apply sq_call 77 hE k rfl (by rfl) (by rfl) rfl
      case h =>
        simp [go_sem, BigFrame.eval_const, BigFrame.eval_global, BigFrame.eval_func, ↓IntWalk.iteOmega, ev e75, ev e76]
        with_reducible exact ⟨rfl, rfl⟩
      case hc => exact cread_down0 0 0 1 _ (OwnT.disc O) (OwnT.get O 1 rfl) (OwnT.blk O 3 rfl) (by decide) (by decide) (by decide) (by decide) ha
      rintro e w128 ⟨rfl, R⟩
      replace O := OwnT.ext O R
      refine ⟨_, rfl, ?_⟩
      intro a127 hE e77 kp
      apply sq_det 74 hE k rfl (by rfl) (by rfl) rfl
      case h =>
        exact x_move rfl e77
      intro a129 hE e74 kp
      apply sq_det 78 hE k rfl (by rfl) (by rfl) rfl
      case h =>
        simp [go_sem, BigFrame.eval_const, BigFrame.eval_global, BigFrame.eval_func, ↓IntWalk.iteOmega, ev e74]
        with_reducible rfl
      intro a130 hE e78 kp
      replace e74 := (kp 74 rfl).trans e74
      apply sq_det 79 hE k rfl (by rfl) (by rfl) rfl
      case h =>
        simp [go_sem, BigFrame.eval_const, BigFrame.eval_global, BigFrame.eval_func, ↓IntWalk.iteOmega, ev e74]
        with_reducible rfl
      intro a131 hE e79 kp
      replace e78 := (kp 78 rfl).trans e78
      apply sq_det 13 hE k rfl (by rfl) (by rfl) rfl
      case h =>
        exact x_assign rfl e78
      intro a132 hE e13 kp
      replace e79 := (kp 79 rfl).trans e79
      apply sq_det 14 hE k rfl (by rfl) (by rfl) rfl
      case h =>
        exact x_assign rfl e79
      intro a133 hE e14 kp
      refine wpList_nil ?_
      replace e6 := hE.eval 6 (by rfl) e6
      replace e7 := hE.eval 7 (by rfl) e7
      replace e9 := hE.eval 9 (by rfl) e9
      replace k := k.env hE
      clear hE e73
      refine then_n ?_
      refine wp_seq ?_
      refine wp_region_lit ?_
      have hE := Env.refl a133 [80, 81, 82, 83, 84, 85, 86, 87, 88, 89, 90, 91, 92, 93, 94, 95, 96, 97, 98, 99]
      apply sq_det 80 hE k rfl (by rfl) (by rfl) rfl
      case h =>
        exact x_move rfl (hE.eval 14 (by rfl) e14)
      intro a134 hE e80 kp
      apply sq_det 81 hE k rfl (by rfl) (by rfl) rfl
      case h =>
        exact x_neq rfl e80 rfl
      intro a135 hE e81 kp
      apply sq_det 82 hE k rfl (by rfl) (by rfl) rfl
      case h =>
        exact x_move rfl e81
      intro a136 hE e82 kp
      apply sq_detg 83 hE k rfl (by rfl) (by rfl) rfl rfl e82
      case h =>
        exact x_move rfl (hE.eval 7 (by rfl) e7)
      intro a137 hE e83 kp
      replace e82 := (kp 82 rfl).trans e82
      apply sq_detg 84 hE k rfl (by rfl) (by rfl) rfl rfl e82
      case h =>
        simp [go_sem, BigFrame.eval_const, BigFrame.eval_global, BigFrame.eval_func, ↓IntWalk.iteOmega]
        with_reducible rfl
      intro a138 hE e84 kp
      replace e82 := (kp 82 rfl).trans e82
      replace e83 := (kp 83 rfl).trans e83
      apply sq_callg 85 hE k rfl (by rfl) (by rfl) rfl rfl e82
      case h =>
        simp [go_sem, BigFrame.eval_const, BigFrame.eval_global, BigFrame.eval_func, ↓IntWalk.iteOmega, ev e83, ev e84]
        with_reducible exact ⟨rfl, rfl⟩
      case hc => exact czero_go _ 2 0 ((0 : Nat) : Int) _ (by decide) (fun W hE => (csize_any W (OwnT.blk (OwnT.ext O hE) 3 rfl)).mono (fun e w' h => ⟨h.1, h.2 ▸ Ext.refl _⟩)) (fun W hE => cwrite_dead0 0 0 2 _ W (OwnT.ext O hE) (by decide) (by decide) (by decide) List.length_replicate (by decide) hM (by omega) ha (by decide))
      clear O
      rintro e w140 ⟨r, rfl, rfl, M2, ha2, hM2, O⟩
      refine ⟨_, rfl, ?_⟩
      intro a139 hE e85 kp
      replace e82 := (kp 82 rfl).trans e82
      apply sq_detg 86 hE k rfl (by rfl) (by rfl) rfl rfl e82
      case h =>
        exact x_neq rfl e85 rfl
      intro a141 hE e86 kp
      replace e82 := (kp 82 rfl).trans e82
      apply sq_det 87 hE k rfl (by rfl) (by rfl) rfl
      case h =>
        exact x_pick_f rfl e82 e86
      intro a142 hE e87 kp
      apply sq_det 88 hE k rfl (by rfl) (by rfl) rfl
      case h =>
        exact x_move rfl e87
      intro a143 hE e88 kp
      apply sq_detg 89 hE k rfl (by rfl) (by rfl) rfl rfl e88
      case h =>
        exact x_move rfl (hE.eval 7 (by rfl) e7)
      intro a144 hE e89 kp
      replace e88 := (kp 88 rfl).trans e88
      apply sq_callg 90 hE k rfl (by rfl) (by rfl) rfl rfl e88
      case h =>
        simp [go_sem, BigFrame.eval_const, BigFrame.eval_global, BigFrame.eval_func, ↓IntWalk.iteOmega, ev e89]
        with_reducible exact ⟨rfl, rfl⟩
      case hc => exact cflush_down0 _ O hM2 (by omega) (up_away ha2)
      clear O
      rintro e w146 ⟨rfl, O⟩
      refine ⟨_, rfl, ?_⟩
      intro a145 hE e90 kp
      replace e88 := (kp 88 rfl).trans e88
      apply sq_detg 91 hE k rfl (by rfl) (by rfl) rfl rfl e88
      case h =>
        exact x_neq rfl e90 rfl
      intro a147 hE e91 kp
      replace e88 := (kp 88 rfl).trans e88
      apply sq_det 92 hE k rfl (by rfl) (by rfl) rfl
      case h =>
        exact x_pick_f rfl e88 e91
      intro a148 hE e92 kp
      apply sq_det 93 hE k rfl (by rfl) (by rfl) rfl
      case h =>
        exact x_move rfl e92
      intro a149 hE e93 kp
      apply sq_detg 94 hE k rfl (by rfl) (by rfl) rfl rfl e93
      case h =>
        exact x_move rfl (hE.eval 7 (by rfl) e7)
      intro a150 hE e94 kp
      replace e93 := (kp 93 rfl).trans e93
      apply sq_detg 95 hE k rfl (by rfl) (by rfl) rfl rfl e93
      case h =>
        simp [go_sem, BigFrame.eval_const, BigFrame.eval_global, BigFrame.eval_func, ↓IntWalk.iteOmega]
        with_reducible rfl
      intro a151 hE e95 kp
      replace e93 := (kp 93 rfl).trans e93
      replace e94 := (kp 94 rfl).trans e94
      apply sq_detg 96 hE k rfl (by rfl) (by rfl) rfl rfl e93
      case h =>
        simp [go_sem, BigFrame.eval_const, BigFrame.eval_global, BigFrame.eval_func, ↓IntWalk.iteOmega]
        with_reducible rfl
      intro a152 hE e96 kp
      replace e93 := (kp 93 rfl).trans e93
      replace e94 := (kp 94 rfl).trans e94
      replace e95 := (kp 95 rfl).trans e95
      apply sq_callg 97 hE k rfl (by rfl) (by rfl) rfl rfl e93
      case h =>
        simp [go_sem, BigFrame.eval_const, BigFrame.eval_global, BigFrame.eval_func, ↓IntWalk.iteOmega, ev e94, ev e95, ev e96]
        with_reducible exact ⟨rfl, rfl⟩
      case hc => exact ccopy_from 0 ((0 : Nat) : Int) 0 ((1 : Nat) : Int) 4 _ [] _ (OwnT.blk O 3 rfl) (fun W hE => cspot_in0 1 W ((OwnT.disc O).ext hE) ((OwnT.blk O 3 rfl).ext hE) (by decide) (by decide)) (by decide) (fun W hE => cread_down0 0 0 2 W ((OwnT.disc O).ext hE) (Blk.ext (OwnT.get O 1 rfl) hE) ((OwnT.blk O 3 rfl).ext hE) (by decide) (by decide) (by decide) (by decide) (use_away ha2))
      rintro e w154 ⟨rfl, R⟩
      replace O := OwnT.ext O R
      refine ⟨_, rfl, ?_⟩
      intro a153 hE e97 kp
      replace e93 := (kp 93 rfl).trans e93
      apply sq_detg 98 hE k rfl (by rfl) (by rfl) rfl rfl e93
      case h =>
        exact x_neq rfl e97 rfl
      intro a155 hE e98 kp
      replace e93 := (kp 93 rfl).trans e93
      apply sq_det 99 hE k rfl (by rfl) (by rfl) rfl
      case h =>
        exact x_pick_f rfl e93 e98
      intro a156 hE e99 kp
      refine wpList_nil ?_
      replace e6 := hE.eval 6 (by rfl) e6
      replace e9 := hE.eval 9 (by rfl) e9
      replace k := k.env hE
      clear hE e7 e14
      refine then_n ?_
      refine cond_f e99 rfl ?_
      refine wp_skip ?_
      refine then_n ?_
      refine wp_seq ?_
      refine wp_region_lit ?_
      have hE := Env.refl a156 [100, 101, 15]
      apply sq_det 100 hE k rfl (by rfl) (by rfl) rfl
      case h =>
        exact x_move rfl (hE.eval 6 (by rfl) e6)
      intro a157 hE e100 kp
      apply sq_call 101 hE k rfl (by rfl) (by rfl) rfl
      case h =>
        simp [go_sem, BigFrame.eval_const, BigFrame.eval_global, BigFrame.eval_func, ↓IntWalk.iteOmega, ev e100]
        with_reducible exact ⟨rfl, rfl⟩
      case hc => exact dloose_any _ (OwnT.disc O)
      rintro e w159 ⟨Bl, cl, rfl, -, -, -, Rl, R⟩
      replace O := OwnT.ext O R
      refine ⟨_, rfl, ?_⟩
      intro a158 hE e101 kp
      apply sq_det 15 hE k rfl (by rfl) (by rfl) rfl
      case h =>
        exact x_assign rfl e101
      intro a160 hE e15 kp
      refine wpList_nil ?_
      replace e9 := hE.eval 9 (by rfl) e9
      replace k := k.env hE
      clear hE e6 e99
      refine then_n ?_
      refine wp_seq ?_
      refine wp_seq ?_
      refine wp_region_lit ?_
      have hE := Env.refl a160 [16]
      apply sq_det 16 hE k rfl (by rfl) (by rfl) rfl
      case h =>
        exact x_assign rfl rfl
      intro a161 hE e16 kp
      refine wpList_nil ?_
      replace e9 := hE.eval 9 (by rfl) e9
      replace e15 := hE.eval 15 (by rfl) e15
      replace k := k.env hE
      clear hE
      refine then_n ?_
      refine wp_block ?_
      have hll : (looL 20 L).length ≤ 20 := riseN_le 20 _
      refine wp_loop (fun a w => Fr 116 a ∧ a.eval (.tmp 9) = .pointer (some ⟨gm, 0, none⟩) ∧ a.eval (.tmp 15) = .slice Bl ((looL 20 L).length) cl ∧ ∃ z : Nat, a.eval (.tmp 16) = .int .i64 ↑z ∧ z ≤ (looL 20 L).length ∧ OwnT W0.heap.size W0 [tDisc p mb B 20 cap bm (List.replicate 20 zsec) L, tMn mb M2.use, tDisc p2 mb B2 20 cap2 bm2 (List.replicate 20 zsec) (fun _ => none), tBlk db 149 #[.pointer (some ⟨p, 0, none⟩), .pointer (some ⟨p2, 0, none⟩), .int .i64 (↑(2 : Nat))], tBlk gm 87 (mtA mt)] w ∧ Row w Bl 1 encI (looL 20 L)) (fun a w => (looL 20 L).length - (intOf (a.eval (.tmp 16))).toNat) ?_ ?_
      · exact ⟨k, e9, e15, 0, e16, Nat.zero_le _, O, Rl⟩
      intro a162 w163 hI
      clear k e9 e15
      obtain ⟨k, e9, e15, h_⟩ := hI
      clear O Rl e16
      obtain ⟨z, e16, hz, O, Rl⟩ := h_
      have mz := e16
      refine wp_seq ?_
      refine wp_seq ?_
      refine wp_region_lit ?_
      have hE := Env.refl a162 [102, 103, 104, 105]
      apply sq_det 102 hE k rfl (by rfl) (by rfl) rfl
      case h =>
        exact x_move rfl (hE.eval 16 (by rfl) e16)
      intro a164 hE e102 kp
      apply sq_det 103 hE k rfl (by rfl) (by rfl) rfl
      case h =>
        exact x_move rfl (hE.eval 15 (by rfl) e15)
      intro a165 hE e103 kp
      replace e102 := (kp 102 rfl).trans e102
      apply sq_det 104 hE k rfl (by rfl) (by rfl) rfl
      case h =>
        exact x_len Try.underlying49 rfl e103
      intro a166 hE e104 kp
      replace e102 := (kp 102 rfl).trans e102
      apply sq_det 105 hE k rfl (by rfl) (by rfl) rfl
      case h =>
        exact x_lss rfl e102 e104
      intro a167 hE e105 kp
      refine wpList_nil ?_
      replace e9 := hE.eval 9 (by rfl) e9
      replace e15 := hE.eval 15 (by rfl) e15
      replace e16 := hE.eval 16 (by rfl) e16
      replace k := k.env hE
      clear hE
      refine then_n ?_
      by_cases hzl : z < (looL 20 L).length
      · have hzI : (z : Int) < ((looL 20 L).length : Int) := by omega
        refine cond_t e105 (congrArg Value.bool (decide_eq_true (by omega))) ?_
        clear e105
        obtain ⟨y, hy⟩ : ∃ y, (looL 20 L)[z]? = some y := ⟨_, List.getElem?_eq_getElem hzl⟩
        obtain ⟨bl, ol, rfl, -, -⟩ := Rl z _ hy
        have hmem := mem_riseN.1 (List.mem_of_getElem? hy)
        obtain ⟨sy, hsy⟩ := Option.isSome_iff_exists.1 hmem.2
        obtain ⟨⟨hy0, hy20⟩, hmt⟩ := hinv y sy hsy
        obtain ⟨y, rfl⟩ := Int.eq_ofNat_of_zero_le hy0
        rw [Int.toNat_natCast] at hmt
        have cy := row_iN Rl (Ext.refl _) hy
        have cm : w163.cell? ⟨gm, y / 2, none⟩ = some (.bool true) := ((OwnT.blk O 4 rfl).cell (y / 2)).trans ((mtA_at mt (by omega)).trans (by rw [hmt]))
        obtain ⟨y2, hy2⟩ : ∃ y2, y / 2 = y2 := ⟨_, rfl⟩
        rw [hy2] at cm
        have hy2l : y2 < 10 := by omega
        
        refine wp_skip ?_
        refine then_n ?_
        refine wp_seq ?_
        refine wp_block ?_
        refine wp_seq ?_
        refine wp_region_lit ?_
        have hE := Env.refl a167 [108, 109, 110, 111, 112, 113, 114, 115]
        apply sq_det 108 hE k rfl (by rfl) (by rfl) rfl
        case h =>
          exact x_move rfl (hE.eval 15 (by rfl) e15)
        intro a168 hE e108 kp
        apply sq_det 109 hE k rfl (by rfl) (by rfl) rfl
        case h =>
          exact x_move rfl (hE.eval 16 (by rfl) e16)
        intro a169 hE e109 kp
        replace e108 := (kp 108 rfl).trans e108
        apply sq_det 110 hE k rfl (by rfl) (by rfl) rfl
        case h =>
          simp [go_sem, BigFrame.eval_const, BigFrame.eval_global, BigFrame.eval_func, ↓IntWalk.iteOmega, ev e108, ev e109]
          with_reducible rfl
        intro a170 hE e110 kp
        apply sq_det 111 hE k rfl (by rfl) (by rfl) rfl
        case h =>
          simp [go_sem, BigFrame.eval_const, BigFrame.eval_global, BigFrame.eval_func, ↓IntWalk.iteOmega, ev e110, cy]
          with_reducible rfl
        intro a171 hE e111 kp
        apply sq_det 112 hE k rfl (by rfl) (by rfl) rfl
        case h =>
          exact x_quoN (m := y) (j := 2) rfl e111 rfl rfl (by decide) (by omega)
        intro a172 hE e112 kp
        replace e112 := e112.trans (int_eq (show ((y / 2 : Nat) : Int) = (y2 : Int) by rw [hy2]))
        apply sq_det 113 hE k rfl (by rfl) (by rfl) rfl
        case h =>
          simp [go_sem, BigFrame.eval_const, BigFrame.eval_global, BigFrame.eval_func, ↓IntWalk.iteOmega, ev (hE.eval 9 (by rfl) e9), ev e112]
          with_reducible rfl
        intro a173 hE e113 kp
        apply sq_det 114 hE k rfl (by rfl) (by rfl) rfl
        case h =>
          simp [go_sem, BigFrame.eval_const, BigFrame.eval_global, BigFrame.eval_func, ↓IntWalk.iteOmega, ev e113, cm]
          with_reducible rfl
        intro a174 hE e114 kp
        apply sq_det 115 hE k rfl (by rfl) (by rfl) rfl
        case h =>
          exact x_not rfl e114
        intro a175 hE e115 kp
        refine wpList_nil ?_
        replace e9 := hE.eval 9 (by rfl) e9
        replace e15 := hE.eval 15 (by rfl) e15
        replace e16 := hE.eval 16 (by rfl) e16
        replace k := k.env hE
        clear hE
        refine then_n ?_
        refine cond_f e115 rfl ?_
        refine wp_skip ?_
        refine block_n ?_
        refine then_n ?_
        refine wp_region_lit ?_
        have hE := Env.refl a175 [106, 107, 16]
        apply sq_det 106 hE k rfl (by rfl) (by rfl) rfl
        case h =>
          exact x_move rfl e16
        intro a176 hE e106 kp
        replace e16 := (kp 16 rfl).trans e16
        apply sq_det 107 hE k rfl (by rfl) (by rfl) rfl
        case h =>
          exact x_add rfl e106 rfl (by omega)
        intro a177 hE e107 kp
        replace e16 := (kp 16 rfl).trans e16
        apply sq_det 16 hE k rfl (by rfl) (by rfl) rfl
        case h =>
          exact x_assign rfl e107
        intro a178 hE e16 kp
        refine wpList_nil ?_
        replace e9 := hE.eval 9 (by rfl) e9
        replace e15 := hE.eval 15 (by rfl) e15
        replace k := k.env hE
        clear hE e115
        refine then_n ?_
        refine ⟨⟨k, e9, e15, z + 1, e16, by omega, O, Rl⟩, ?_⟩
        rw [e16, mz]; simp only [intOf]; omega
      · have hzI : ¬ (z : Int) < ((looL 20 L).length : Int) := by omega
        refine cond_f e105 (congrArg Value.bool (decide_eq_false (by omega))) ?_
        clear e9 e15 e16 e105
        refine wp_exit ?_
        refine then_x ?_
        refine then_x ?_
        refine block_x ?_
        refine then_n ?_
        refine wp_seq ?_
        refine wp_region_lit ?_
        have hE := Env.refl a167 [4]
        apply sq_det 4 hE k rfl (by rfl) (by rfl) rfl
        case h =>
          exact x_assign rfl rfl
        intro a179 hE e4 kp
        refine wpList_nil ?_
        replace k := k.env hE
        clear hE
        refine then_n ?_
        refine wp_ret ?_
        refine ret_F1 rfl k e4 ?_
        exact ⟨rfl, O.below⟩
theorem chunkDown_walk (w : World) (v0 v1 : Value) (h0 : Arg Try.prog w 3 v0) (h1 : Arg Try.prog w 49 v1) :
    Calls Try.prog 9 #[v0, v1] w fun e w' => e = .returned (.bool true) ∧ Below w.heap.size w w' := by
  obtain ⟨f, rfl, _⟩ := arg_int Try.underlying3 h0
  obtain ⟨A, c, xs, rfl, hrow⟩ := arg_is h1
  exact chunkDown_core f A c xs w hrow
end Go.Proofs.Ytdpohbaeopidmaa
