/- chunk: the functions (printed by XChunkA.gen.py). -/
import Derived.Test.YtdpohbaeopidmaaKChunkExact14
import Derived.Test.YtdpohbaeopidmaaKChunkExact15
namespace Go.Proofs.Ytdpohbaeopidmaa
attribute [local simp] BigFrame.eval_const BigFrame.eval_global BigFrame.eval_func
set_option linter.unusedVariables false
set_option linter.unusedSimpArgs false
open Go.RowKit Go.Maps

def slN (n sz : Nat) : Nat := min (n / sz) 256
section
variable {H : Nat} {A w : World} {R : List Thing} {X Y Z : Thing}
theorem OwnT.swap13 (h : OwnT H A (X :: Y :: Z :: R) w) : OwnT H A (Z :: Y :: X :: R) w := h.perm (((List.Perm.swap _ _ _).trans ((List.Perm.swap _ _ _).cons _)).trans (List.Perm.swap _ _ _))
end
section
variable {M : Mn} {H : Nat} {A0 : World} {R : List Thing} {p mb n cap bm : Nat} {B : Option Addr} {S : List Sec} {L : Int → Option Sec} {c : Int}
theorem dwrite_kf (m : Nat) (x : Int) (l : List UInt8) (w : World) (O : OwnT H A0 (tDisc p mb B n cap bm S L :: tMn mb M :: R) w) (hl : l.length = 16 * m) (hm : m ≤ 100000) (hf : fitsB n x (m : Int) = true) (hM : M.Ok c) (hc : c ≤ 100000000) :
    Calls Try.prog 36 #[.pointer (some ⟨p, 0, none⟩), .int .i64 x, .string (sB l)] w fun e w' => ∃ (j : Nat) (M' : Mn), e = .returned (.int .i64 (if j = m then 0 else 4)) ∧ j ≤ m ∧ (j < m → M'.away = true) ∧ (M.Free → j = m ∧ M'.Free) ∧ (M.away = true → j = 0) ∧ M'.Ok (c + (m + 1 : Nat)) ∧ OwnT H A0 (tDisc p mb B n cap bm S (wrS l x L j) :: tMn mb M' :: R) w' := by
  have e1 : l.length / 16 = m := by omega
  have h := dwrite_go x l w O (by omega) (by omega) (by rw [e1]; exact hf) hM (by omega)
  rw [e1] at h
  refine h.mono ?_
  rintro e w' ⟨j, hj, hup, hor⟩
  have haw : M.away = true → j = 0 := fun ha => by
    rcases Nat.eq_zero_or_pos j with h0 | h0
    · exact h0
    · have h1 : M.up = true := hup 0 h0
      unfold Mn.up at h1
      rw [ha] at h1
      cases h1
  rcases hor with ⟨rfl, he, hO⟩ | ⟨hlt, hu, he, hO⟩
  · exact ⟨j, _, by rw [if_pos rfl]; exact he, Nat.le_refl _, fun h => absurd h (Nat.lt_irrefl _), fun h => ⟨rfl, h.useN j⟩, haw, (hM.useN j).mono (by omega), hO⟩
  · exact ⟨j, _, by rw [if_neg (by omega)]; exact he, hj, fun _ => (use_dn hu).2, fun (h : M.Free) => (by rw [(h.useN j).up] at hu; cases hu), haw, (hM.useN (j + 1)).mono (by omega), hO⟩
end
theorem OwnT.discAt {H : Nat} {A w : World} {Ts : List Thing} {p mb n cap bm : Nat} {B : Option Addr} {S : List Sec} {L : Int → Option Sec} (O : OwnT H A Ts w) (i : Nat) (hi : Ts[i]? = some (tDisc p mb B n cap bm S L)) : DiscR p mb B n cap bm S L w := Thing.disc (O.get i hi)
theorem slN_le {n sz i : Nat} (h : i < slN n sz) (hs : 0 < sz) : i * sz + sz ≤ n := by
  have h1 : i + 1 ≤ n / sz := by unfold slN at h; omega
  have h2 := Nat.mul_le_mul_right sz h1
  have h3 := Nat.div_mul_le_self n sz
  rw [Nat.succ_mul] at h2
  omega

theorem csize_nil (w : World) : Calls Try.prog 58 #[.pointer none] w fun e w' => e = .returned (.int .i64 0) ∧ w = w' := by
  refine calls_F Try.func58 rfl 9 rfl (by rfl) ?_
  intro a1 k hargs
  have e0 : a1.eval (.tmp 0) = .pointer none := hargs 0 _ rfl
  clear hargs
  refine wp_seq ?_
  refine wp_region_lit ?_
  have hE := Env.refl a1 [2]
  apply sq_det 2 hE k rfl (by rfl) (by rfl) rfl
  case h =>
    exact x_assign rfl rfl
  intro a2 hE e2 kp
  refine wpList_nil ?_
  replace e0 := hE.eval 0 (by rfl) e0
  replace k := k.env hE
  clear hE e2
  refine then_n ?_
  refine wp_seq ?_
  refine wp_seq ?_
  refine wp_region_lit ?_
  have hE := Env.refl a2 [3, 4]
  apply sq_det 3 hE k rfl (by rfl) (by rfl) rfl
  case h =>
    exact x_move rfl (hE.eval 0 (by rfl) e0)
  intro a3 hE e3 kp
  apply sq_det 4 hE k rfl (by rfl) (by rfl) rfl
  case h =>
    simp [go_sem, ↓IntWalk.iteOmega, ev e3]
    with_reducible rfl
  intro a4 hE e4 kp
  refine wpList_nil ?_
  replace e0 := hE.eval 0 (by rfl) e0
  replace k := k.env hE
  clear hE
  refine then_n ?_
  refine cond_t e4 rfl ?_
  refine wp_seq ?_
  refine wp_region_lit ?_
  have hE := Env.refl a4 [2]
  apply sq_det 2 hE k rfl (by rfl) (by rfl) rfl
  case h =>
    exact x_assign rfl rfl
  intro a5 hE e2 kp
  refine wpList_nil ?_
  replace k := k.env hE
  clear hE e0 e4
  refine then_n ?_
  refine wp_ret ?_
  refine then_r ?_
  refine ret_F1 rfl k e2 ?_
  exact ⟨rfl, rfl⟩
theorem csize_any {db sz : Nat} {u v : Value} (w : World) (h : Blk w db 149 #[u, v, .int .i64 sz]) : Calls Try.prog 58 #[.pointer (some ⟨db, 0, none⟩)] w fun e w' => e = .returned (.int .i64 sz) ∧ w = w' := by
  have c2 : w.cell? ⟨db, 2, none⟩ = some (.int .i64 sz) := h.cell 2
  refine calls_F Try.func58 rfl 9 rfl (by rfl) ?_
  intro a1 k hargs
  have e0 : a1.eval (.tmp 0) = .pointer (some ⟨db, 0, none⟩) := hargs 0 _ rfl
  clear hargs
  refine wp_seq ?_
  refine wp_region_lit ?_
  have hE := Env.refl a1 [2]
  apply sq_det 2 hE k rfl (by rfl) (by rfl) rfl
  case h =>
    exact x_assign rfl rfl
  intro a2 hE e2 kp
  refine wpList_nil ?_
  replace e0 := hE.eval 0 (by rfl) e0
  replace k := k.env hE
  clear hE e2
  refine then_n ?_
  refine wp_seq ?_
  refine wp_seq ?_
  refine wp_region_lit ?_
  have hE := Env.refl a2 [3, 4]
  apply sq_det 3 hE k rfl (by rfl) (by rfl) rfl
  case h =>
    exact x_move rfl (hE.eval 0 (by rfl) e0)
  intro a3 hE e3 kp
  apply sq_det 4 hE k rfl (by rfl) (by rfl) rfl
  case h =>
    simp [go_sem, ↓IntWalk.iteOmega, ev e3]
    with_reducible rfl
  intro a4 hE e4 kp
  refine wpList_nil ?_
  replace e0 := hE.eval 0 (by rfl) e0
  replace k := k.env hE
  clear hE
  refine then_n ?_
  refine cond_f e4 rfl ?_
  refine wp_skip ?_
  refine then_n ?_
  refine wp_seq ?_
  refine wp_region_lit ?_
  have hE := Env.refl a4 [5, 6, 7, 8, 2]
  apply sq_det 5 hE k rfl (by rfl) (by rfl) rfl
  case h =>
    exact x_move rfl (hE.eval 0 (by rfl) e0)
  intro a5 hE e5 kp
  apply sq_det 6 hE k rfl (by rfl) (by rfl) rfl
  case h =>
    exact x_nil rfl e5
  intro a6 hE e6 kp
  apply sq_det 7 hE k rfl (by rfl) (by rfl) rfl
  case h =>
    simp [go_sem, ↓IntWalk.iteOmega, ev e6]
    with_reducible rfl
  intro a7 hE e7 kp
  apply sq_det 8 hE k rfl (by rfl) (by rfl) rfl
  case h =>
    simp [go_sem, ↓IntWalk.iteOmega, ev e7, c2]
    with_reducible rfl
  intro a8 hE e8 kp
  apply sq_det 2 hE k rfl (by rfl) (by rfl) rfl
  case h =>
    exact x_assign rfl e8
  intro a9 hE e2 kp
  refine wpList_nil ?_
  replace k := k.env hE
  clear hE e0 e4
  refine then_n ?_
  refine wp_ret ?_
  refine ret_F1 rfl k e2 ?_
  exact ⟨rfl, rfl⟩
theorem chas_nil (t : Int) (w : World) : Calls Try.prog 93 #[.pointer none, .int .i64 t] w fun e w' => e = .returned (.bool false) ∧ w = w' := by
  refine calls_F Try.func93 rfl 15 rfl (by rfl) ?_
  intro a1 k hargs
  have e0 : a1.eval (.tmp 0) = .pointer none := hargs 0 _ rfl
  have e1 : a1.eval (.tmp 1) = .int .i64 t := hargs 1 _ rfl
  clear hargs
  refine wp_seq ?_
  refine wp_region_lit ?_
  have hE := Env.refl a1 [4]
  apply sq_det 4 hE k rfl (by rfl) (by rfl) rfl
  case h =>
    exact x_assign rfl rfl
  intro a2 hE e4 kp
  refine wpList_nil ?_
  replace e0 := hE.eval 0 (by rfl) e0
  replace e1 := hE.eval 1 (by rfl) e1
  replace k := k.env hE
  clear hE e4
  refine then_n ?_
  refine wp_seq ?_
  refine wp_region_lit ?_
  have hE := Env.refl a2 [5, 6, 7, 8, 9, 10, 11, 12, 13, 14, 4]
  apply sq_det 5 hE k rfl (by rfl) (by rfl) rfl
  case h =>
    exact x_move rfl (hE.eval 0 (by rfl) e0)
  intro a3 hE e5 kp
  apply sq_det 6 hE k rfl (by rfl) (by rfl) rfl
  case h =>
    simp [go_sem, ↓IntWalk.iteOmega, ev e5]
    with_reducible rfl
  intro a4 hE e6 kp
  apply sq_det 7 hE k rfl (by rfl) (by rfl) rfl
  case h =>
    exact x_move rfl e6
  intro a5 hE e7 kp
  refine sq_skipg 8 hE k rfl (by rfl) (by rfl) rfl rfl (.inl e7) ?_
  intro a6 hE e8 kp
  replace e7 := (kp 7 rfl).trans e7
  refine sq_skipg 9 hE k rfl (by rfl) (by rfl) rfl rfl (.inl e7) ?_
  intro a7 hE e9 kp
  replace e7 := (kp 7 rfl).trans e7
  refine sq_skipg 10 hE k rfl (by rfl) (by rfl) rfl rfl (.inl e7) ?_
  intro a8 hE e10 kp
  replace e7 := (kp 7 rfl).trans e7
  refine sq_skipg 11 hE k rfl (by rfl) (by rfl) rfl rfl (.inr e10) ?_
  intro a9 hE e11 kp
  replace e7 := (kp 7 rfl).trans e7
  replace e10 := (kp 10 rfl).trans e10
  refine sq_skipg 12 hE k rfl (by rfl) (by rfl) rfl rfl (.inr e10) ?_
  intro a10 hE e12 kp
  replace e7 := (kp 7 rfl).trans e7
  replace e10 := (kp 10 rfl).trans e10
  refine sq_skipg 13 hE k rfl (by rfl) (by rfl) rfl rfl (.inl e7) ?_
  intro a11 hE e13 kp
  replace e7 := (kp 7 rfl).trans e7
  apply sq_det 14 hE k rfl (by rfl) (by rfl) rfl
  case h =>
    exact x_pick_f rfl e7 rfl
  intro a12 hE e14 kp
  apply sq_det 4 hE k rfl (by rfl) (by rfl) rfl
  case h =>
    exact x_assign rfl e14
  intro a13 hE e4 kp
  refine wpList_nil ?_
  replace k := k.env hE
  clear hE e0 e1
  refine then_n ?_
  refine wp_ret ?_
  refine ret_F1 rfl k e4 ?_
  exact ⟨rfl, rfl⟩
theorem chas_0 (db : Nat) (w : World) : Calls Try.prog 93 #[.pointer (some ⟨db, 0, none⟩), .int .i64 0] w fun e w' => e = .returned (.bool true) ∧ w = w' := by
  refine calls_F Try.func93 rfl 15 rfl (by rfl) ?_
  intro a1 k hargs
  have e0 : a1.eval (.tmp 0) = .pointer (some ⟨db, 0, none⟩) := hargs 0 _ rfl
  have e1 : a1.eval (.tmp 1) = .int .i64 0 := hargs 1 _ rfl
  clear hargs
  refine wp_seq ?_
  refine wp_region_lit ?_
  have hE := Env.refl a1 [4]
  apply sq_det 4 hE k rfl (by rfl) (by rfl) rfl
  case h =>
    exact x_assign rfl rfl
  intro a2 hE e4 kp
  refine wpList_nil ?_
  replace e0 := hE.eval 0 (by rfl) e0
  replace e1 := hE.eval 1 (by rfl) e1
  replace k := k.env hE
  clear hE e4
  refine then_n ?_
  refine wp_seq ?_
  refine wp_region_lit ?_
  have hE := Env.refl a2 [5, 6, 7, 8, 9, 10, 11, 12, 13, 14, 4]
  apply sq_det 5 hE k rfl (by rfl) (by rfl) rfl
  case h =>
    exact x_move rfl (hE.eval 0 (by rfl) e0)
  intro a3 hE e5 kp
  apply sq_det 6 hE k rfl (by rfl) (by rfl) rfl
  case h =>
    simp [go_sem, ↓IntWalk.iteOmega, ev e5]
    with_reducible rfl
  intro a4 hE e6 kp
  apply sq_det 7 hE k rfl (by rfl) (by rfl) rfl
  case h =>
    exact x_move rfl e6
  intro a5 hE e7 kp
  apply sq_detg 8 hE k rfl (by rfl) (by rfl) rfl rfl e7
  case h =>
    exact x_move rfl (hE.eval 1 (by rfl) e1)
  intro a6 hE e8 kp
  replace e7 := (kp 7 rfl).trans e7
  apply sq_detg 9 hE k rfl (by rfl) (by rfl) rfl rfl e7
  case h =>
    exact x_eql rfl e8 rfl
  intro a7 hE e9 kp
  replace e7 := (kp 7 rfl).trans e7
  apply sq_detg 10 hE k rfl (by rfl) (by rfl) rfl rfl e7
  case h =>
    exact x_move rfl e9
  intro a8 hE e10 kp
  replace e7 := (kp 7 rfl).trans e7
  refine sq_skipg 11 hE k rfl (by rfl) (by rfl) rfl rfl (.inl e10) ?_
  intro a9 hE e11 kp
  replace e7 := (kp 7 rfl).trans e7
  replace e10 := (kp 10 rfl).trans e10
  refine sq_skipg 12 hE k rfl (by rfl) (by rfl) rfl rfl (.inl e10) ?_
  intro a10 hE e12 kp
  replace e7 := (kp 7 rfl).trans e7
  replace e10 := (kp 10 rfl).trans e10
  apply sq_detg 13 hE k rfl (by rfl) (by rfl) rfl rfl e7
  case h =>
    exact x_pick_t rfl e10 rfl
  intro a11 hE e13 kp
  replace e7 := (kp 7 rfl).trans e7
  apply sq_det 14 hE k rfl (by rfl) (by rfl) rfl
  case h =>
    exact x_pick_t rfl e7 e13
  intro a12 hE e14 kp
  apply sq_det 4 hE k rfl (by rfl) (by rfl) rfl
  case h =>
    exact x_assign rfl e14
  intro a13 hE e4 kp
  refine wpList_nil ?_
  replace k := k.env hE
  clear hE e0 e1
  refine then_n ?_
  refine wp_ret ?_
  refine ret_F1 rfl k e4 ?_
  exact ⟨rfl, rfl⟩
theorem chas_1 (db : Nat) (w : World) : Calls Try.prog 93 #[.pointer (some ⟨db, 0, none⟩), .int .i64 1] w fun e w' => e = .returned (.bool true) ∧ w = w' := by
  refine calls_F Try.func93 rfl 15 rfl (by rfl) ?_
  intro a1 k hargs
  have e0 : a1.eval (.tmp 0) = .pointer (some ⟨db, 0, none⟩) := hargs 0 _ rfl
  have e1 : a1.eval (.tmp 1) = .int .i64 1 := hargs 1 _ rfl
  clear hargs
  refine wp_seq ?_
  refine wp_region_lit ?_
  have hE := Env.refl a1 [4]
  apply sq_det 4 hE k rfl (by rfl) (by rfl) rfl
  case h =>
    exact x_assign rfl rfl
  intro a2 hE e4 kp
  refine wpList_nil ?_
  replace e0 := hE.eval 0 (by rfl) e0
  replace e1 := hE.eval 1 (by rfl) e1
  replace k := k.env hE
  clear hE e4
  refine then_n ?_
  refine wp_seq ?_
  refine wp_region_lit ?_
  have hE := Env.refl a2 [5, 6, 7, 8, 9, 10, 11, 12, 13, 14, 4]
  apply sq_det 5 hE k rfl (by rfl) (by rfl) rfl
  case h =>
    exact x_move rfl (hE.eval 0 (by rfl) e0)
  intro a3 hE e5 kp
  apply sq_det 6 hE k rfl (by rfl) (by rfl) rfl
  case h =>
    simp [go_sem, ↓IntWalk.iteOmega, ev e5]
    with_reducible rfl
  intro a4 hE e6 kp
  apply sq_det 7 hE k rfl (by rfl) (by rfl) rfl
  case h =>
    exact x_move rfl e6
  intro a5 hE e7 kp
  apply sq_detg 8 hE k rfl (by rfl) (by rfl) rfl rfl e7
  case h =>
    exact x_move rfl (hE.eval 1 (by rfl) e1)
  intro a6 hE e8 kp
  replace e7 := (kp 7 rfl).trans e7
  apply sq_detg 9 hE k rfl (by rfl) (by rfl) rfl rfl e7
  case h =>
    exact x_eql rfl e8 rfl
  intro a7 hE e9 kp
  replace e7 := (kp 7 rfl).trans e7
  apply sq_detg 10 hE k rfl (by rfl) (by rfl) rfl rfl e7
  case h =>
    exact x_move rfl e9
  intro a8 hE e10 kp
  replace e7 := (kp 7 rfl).trans e7
  apply sq_detg 11 hE k rfl (by rfl) (by rfl) rfl rfl e10
  case h =>
    exact x_move rfl (hE.eval 1 (by rfl) e1)
  intro a9 hE e11 kp
  replace e7 := (kp 7 rfl).trans e7
  replace e10 := (kp 10 rfl).trans e10
  apply sq_detg 12 hE k rfl (by rfl) (by rfl) rfl rfl e10
  case h =>
    exact x_eql rfl e11 rfl
  intro a10 hE e12 kp
  replace e7 := (kp 7 rfl).trans e7
  replace e10 := (kp 10 rfl).trans e10
  apply sq_detg 13 hE k rfl (by rfl) (by rfl) rfl rfl e7
  case h =>
    exact x_pick_f rfl e10 e12
  intro a11 hE e13 kp
  replace e7 := (kp 7 rfl).trans e7
  apply sq_det 14 hE k rfl (by rfl) (by rfl) rfl
  case h =>
    exact x_pick_t rfl e7 e13
  intro a12 hE e14 kp
  apply sq_det 4 hE k rfl (by rfl) (by rfl) rfl
  case h =>
    exact x_assign rfl e14
  intro a13 hE e4 kp
  refine wpList_nil ?_
  replace k := k.env hE
  clear hE e0 e1
  refine then_n ?_
  refine wp_ret ?_
  refine ret_F1 rfl k e4 ?_
  exact ⟨rfl, rfl⟩
theorem chas_bad (db : Nat) (t : Int) (w : World) (h0 : t ≠ 0) (h1 : t ≠ 1) : Calls Try.prog 93 #[.pointer (some ⟨db, 0, none⟩), .int .i64 t] w fun e w' => e = .returned (.bool false) ∧ w = w' := by
  refine calls_F Try.func93 rfl 15 rfl (by rfl) ?_
  intro a1 k hargs
  have e0 : a1.eval (.tmp 0) = .pointer (some ⟨db, 0, none⟩) := hargs 0 _ rfl
  have e1 : a1.eval (.tmp 1) = .int .i64 t := hargs 1 _ rfl
  clear hargs
  refine wp_seq ?_
  refine wp_region_lit ?_
  have hE := Env.refl a1 [4]
  apply sq_det 4 hE k rfl (by rfl) (by rfl) rfl
  case h =>
    exact x_assign rfl rfl
  intro a2 hE e4 kp
  refine wpList_nil ?_
  replace e0 := hE.eval 0 (by rfl) e0
  replace e1 := hE.eval 1 (by rfl) e1
  replace k := k.env hE
  clear hE e4
  refine then_n ?_
  refine wp_seq ?_
  refine wp_region_lit ?_
  have hE := Env.refl a2 [5, 6, 7, 8, 9, 10, 11, 12, 13, 14, 4]
  apply sq_det 5 hE k rfl (by rfl) (by rfl) rfl
  case h =>
    exact x_move rfl (hE.eval 0 (by rfl) e0)
  intro a3 hE e5 kp
  apply sq_det 6 hE k rfl (by rfl) (by rfl) rfl
  case h =>
    simp [go_sem, ↓IntWalk.iteOmega, ev e5]
    with_reducible rfl
  intro a4 hE e6 kp
  apply sq_det 7 hE k rfl (by rfl) (by rfl) rfl
  case h =>
    exact x_move rfl e6
  intro a5 hE e7 kp
  apply sq_detg 8 hE k rfl (by rfl) (by rfl) rfl rfl e7
  case h =>
    exact x_move rfl (hE.eval 1 (by rfl) e1)
  intro a6 hE e8 kp
  replace e7 := (kp 7 rfl).trans e7
  apply sq_detg 9 hE k rfl (by rfl) (by rfl) rfl rfl e7
  case h =>
    exact x_dec (x_eql rfl e8 rfl) (decide_eq_false h0)
  intro a7 hE e9 kp
  replace e7 := (kp 7 rfl).trans e7
  apply sq_detg 10 hE k rfl (by rfl) (by rfl) rfl rfl e7
  case h =>
    exact x_move rfl e9
  intro a8 hE e10 kp
  replace e7 := (kp 7 rfl).trans e7
  apply sq_detg 11 hE k rfl (by rfl) (by rfl) rfl rfl e10
  case h =>
    exact x_move rfl (hE.eval 1 (by rfl) e1)
  intro a9 hE e11 kp
  replace e7 := (kp 7 rfl).trans e7
  replace e10 := (kp 10 rfl).trans e10
  apply sq_detg 12 hE k rfl (by rfl) (by rfl) rfl rfl e10
  case h =>
    exact x_dec (x_eql rfl e11 rfl) (decide_eq_false h1)
  intro a10 hE e12 kp
  replace e7 := (kp 7 rfl).trans e7
  replace e10 := (kp 10 rfl).trans e10
  apply sq_detg 13 hE k rfl (by rfl) (by rfl) rfl rfl e7
  case h =>
    exact x_pick_f rfl e10 e12
  intro a11 hE e13 kp
  replace e7 := (kp 7 rfl).trans e7
  apply sq_det 14 hE k rfl (by rfl) (by rfl) rfl
  case h =>
    exact x_pick_t rfl e7 e13
  intro a12 hE e14 kp
  apply sq_det 4 hE k rfl (by rfl) (by rfl) rfl
  case h =>
    exact x_assign rfl e14
  intro a13 hE e4 kp
  refine wpList_nil ?_
  replace k := k.env hE
  clear hE e0 e1
  refine then_n ?_
  refine wp_ret ?_
  refine ret_F1 rfl k e4 ?_
  exact ⟨rfl, rfl⟩
theorem cslots_nil (t : Int) (w : World) : Calls Try.prog 64 #[.pointer none, .int .i64 t] w fun e w' => e = .returned (.int .i64 0) ∧ w = w' := by
  refine calls_F Try.func64 rfl 22 rfl (by rfl) ?_
  intro a1 k hargs
  have e0 : a1.eval (.tmp 0) = .pointer none := hargs 0 _ rfl
  have e1 : a1.eval (.tmp 1) = .int .i64 t := hargs 1 _ rfl
  clear hargs
  refine wp_seq ?_
  refine wp_region_lit ?_
  have hE := Env.refl a1 [4]
  apply sq_det 4 hE k rfl (by rfl) (by rfl) rfl
  case h =>
    exact x_assign rfl rfl
  intro a2 hE e4 kp
  refine wpList_nil ?_
  replace e0 := hE.eval 0 (by rfl) e0
  replace e1 := hE.eval 1 (by rfl) e1
  replace k := k.env hE
  clear hE e4
  refine then_n ?_
  refine wp_seq ?_
  refine wp_seq ?_
  refine wp_region_lit ?_
  have hE := Env.refl a2 [5, 6, 7, 8]
  apply sq_det 5 hE k rfl (by rfl) (by rfl) rfl
  case h =>
    exact x_move rfl (hE.eval 0 (by rfl) e0)
  intro a3 hE e5 kp
  apply sq_det 6 hE k rfl (by rfl) (by rfl) rfl
  case h =>
    exact x_move rfl (hE.eval 1 (by rfl) e1)
  intro a4 hE e6 kp
  replace e5 := (kp 5 rfl).trans e5
  apply sq_call 7 hE k rfl (by rfl) (by rfl) rfl
  case h =>
    simp [go_sem, ↓IntWalk.iteOmega, ev e5, ev e6]
    with_reducible exact ⟨rfl, rfl⟩
  case hc => exact chas_nil t _
  rintro e _ ⟨rfl, rfl⟩
  refine ⟨_, rfl, ?_⟩
  intro a5 hE e7 kp
  apply sq_det 8 hE k rfl (by rfl) (by rfl) rfl
  case h =>
    exact x_not rfl e7
  intro a6 hE e8 kp
  refine wpList_nil ?_
  replace e0 := hE.eval 0 (by rfl) e0
  replace e1 := hE.eval 1 (by rfl) e1
  replace k := k.env hE
  clear hE
  refine then_n ?_
  refine cond_t e8 rfl ?_
  refine wp_seq ?_
  refine wp_region_lit ?_
  have hE := Env.refl a6 [4]
  apply sq_det 4 hE k rfl (by rfl) (by rfl) rfl
  case h =>
    exact x_assign rfl rfl
  intro a7 hE e4 kp
  refine wpList_nil ?_
  replace k := k.env hE
  clear hE e0 e1 e8
  refine then_n ?_
  refine wp_ret ?_
  refine then_r ?_
  refine ret_F1 rfl k e4 ?_
  exact ⟨rfl, rfl⟩
theorem cloose_nil (t : Int) (w : World) : Calls Try.prog 63 #[.pointer none, .int .i64 t] w fun e w' => e = .returned (.int .i64 0) ∧ w = w' := by
  refine calls_F Try.func63 rfl 17 rfl (by rfl) ?_
  intro a1 k hargs
  have e0 : a1.eval (.tmp 0) = .pointer none := hargs 0 _ rfl
  have e1 : a1.eval (.tmp 1) = .int .i64 t := hargs 1 _ rfl
  clear hargs
  refine wp_seq ?_
  refine wp_region_lit ?_
  have hE := Env.refl a1 [4]
  apply sq_det 4 hE k rfl (by rfl) (by rfl) rfl
  case h =>
    exact x_assign rfl rfl
  intro a2 hE e4 kp
  refine wpList_nil ?_
  replace e0 := hE.eval 0 (by rfl) e0
  replace e1 := hE.eval 1 (by rfl) e1
  replace k := k.env hE
  clear hE e4
  refine then_n ?_
  refine wp_seq ?_
  refine wp_seq ?_
  refine wp_region_lit ?_
  have hE := Env.refl a2 [5, 6, 7, 8]
  apply sq_det 5 hE k rfl (by rfl) (by rfl) rfl
  case h =>
    exact x_move rfl (hE.eval 0 (by rfl) e0)
  intro a3 hE e5 kp
  apply sq_det 6 hE k rfl (by rfl) (by rfl) rfl
  case h =>
    exact x_move rfl (hE.eval 1 (by rfl) e1)
  intro a4 hE e6 kp
  replace e5 := (kp 5 rfl).trans e5
  apply sq_call 7 hE k rfl (by rfl) (by rfl) rfl
  case h =>
    simp [go_sem, ↓IntWalk.iteOmega, ev e5, ev e6]
    with_reducible exact ⟨rfl, rfl⟩
  case hc => exact chas_nil t _
  rintro e _ ⟨rfl, rfl⟩
  refine ⟨_, rfl, ?_⟩
  intro a5 hE e7 kp
  apply sq_det 8 hE k rfl (by rfl) (by rfl) rfl
  case h =>
    exact x_not rfl e7
  intro a6 hE e8 kp
  refine wpList_nil ?_
  replace e0 := hE.eval 0 (by rfl) e0
  replace e1 := hE.eval 1 (by rfl) e1
  replace k := k.env hE
  clear hE
  refine then_n ?_
  refine cond_t e8 rfl ?_
  refine wp_seq ?_
  refine wp_region_lit ?_
  have hE := Env.refl a6 [4]
  apply sq_det 4 hE k rfl (by rfl) (by rfl) rfl
  case h =>
    exact x_assign rfl rfl
  intro a7 hE e4 kp
  refine wpList_nil ?_
  replace k := k.env hE
  clear hE e0 e1 e8
  refine then_n ?_
  refine wp_ret ?_
  refine then_r ?_
  refine ret_F1 rfl k e4 ?_
  exact ⟨rfl, rfl⟩
theorem cslots_bad (db : Nat) (t : Int) (w : World) (h0 : t ≠ 0) (h1 : t ≠ 1) : Calls Try.prog 64 #[.pointer (some ⟨db, 0, none⟩), .int .i64 t] w fun e w' => e = .returned (.int .i64 0) ∧ w = w' := by
  refine calls_F Try.func64 rfl 22 rfl (by rfl) ?_
  intro a1 k hargs
  have e0 : a1.eval (.tmp 0) = .pointer (some ⟨db, 0, none⟩) := hargs 0 _ rfl
  have e1 : a1.eval (.tmp 1) = .int .i64 t := hargs 1 _ rfl
  clear hargs
  refine wp_seq ?_
  refine wp_region_lit ?_
  have hE := Env.refl a1 [4]
  apply sq_det 4 hE k rfl (by rfl) (by rfl) rfl
  case h =>
    exact x_assign rfl rfl
  intro a2 hE e4 kp
  refine wpList_nil ?_
  replace e0 := hE.eval 0 (by rfl) e0
  replace e1 := hE.eval 1 (by rfl) e1
  replace k := k.env hE
  clear hE e4
  refine then_n ?_
  refine wp_seq ?_
  refine wp_seq ?_
  refine wp_region_lit ?_
  have hE := Env.refl a2 [5, 6, 7, 8]
  apply sq_det 5 hE k rfl (by rfl) (by rfl) rfl
  case h =>
    exact x_move rfl (hE.eval 0 (by rfl) e0)
  intro a3 hE e5 kp
  apply sq_det 6 hE k rfl (by rfl) (by rfl) rfl
  case h =>
    exact x_move rfl (hE.eval 1 (by rfl) e1)
  intro a4 hE e6 kp
  replace e5 := (kp 5 rfl).trans e5
  apply sq_call 7 hE k rfl (by rfl) (by rfl) rfl
  case h =>
    simp [go_sem, ↓IntWalk.iteOmega, ev e5, ev e6]
    with_reducible exact ⟨rfl, rfl⟩
  case hc => exact chas_bad db t _ h0 h1
  rintro e _ ⟨rfl, rfl⟩
  refine ⟨_, rfl, ?_⟩
  intro a5 hE e7 kp
  apply sq_det 8 hE k rfl (by rfl) (by rfl) rfl
  case h =>
    exact x_not rfl e7
  intro a6 hE e8 kp
  refine wpList_nil ?_
  replace e0 := hE.eval 0 (by rfl) e0
  replace e1 := hE.eval 1 (by rfl) e1
  replace k := k.env hE
  clear hE
  refine then_n ?_
  refine cond_t e8 rfl ?_
  refine wp_seq ?_
  refine wp_region_lit ?_
  have hE := Env.refl a6 [4]
  apply sq_det 4 hE k rfl (by rfl) (by rfl) rfl
  case h =>
    exact x_assign rfl rfl
  intro a7 hE e4 kp
  refine wpList_nil ?_
  replace k := k.env hE
  clear hE e0 e1 e8
  refine then_n ?_
  refine wp_ret ?_
  refine then_r ?_
  refine ret_F1 rfl k e4 ?_
  exact ⟨rfl, rfl⟩
theorem cloose_bad (db : Nat) (t : Int) (w : World) (h0 : t ≠ 0) (h1 : t ≠ 1) : Calls Try.prog 63 #[.pointer (some ⟨db, 0, none⟩), .int .i64 t] w fun e w' => e = .returned (.int .i64 0) ∧ w = w' := by
  refine calls_F Try.func63 rfl 17 rfl (by rfl) ?_
  intro a1 k hargs
  have e0 : a1.eval (.tmp 0) = .pointer (some ⟨db, 0, none⟩) := hargs 0 _ rfl
  have e1 : a1.eval (.tmp 1) = .int .i64 t := hargs 1 _ rfl
  clear hargs
  refine wp_seq ?_
  refine wp_region_lit ?_
  have hE := Env.refl a1 [4]
  apply sq_det 4 hE k rfl (by rfl) (by rfl) rfl
  case h =>
    exact x_assign rfl rfl
  intro a2 hE e4 kp
  refine wpList_nil ?_
  replace e0 := hE.eval 0 (by rfl) e0
  replace e1 := hE.eval 1 (by rfl) e1
  replace k := k.env hE
  clear hE e4
  refine then_n ?_
  refine wp_seq ?_
  refine wp_seq ?_
  refine wp_region_lit ?_
  have hE := Env.refl a2 [5, 6, 7, 8]
  apply sq_det 5 hE k rfl (by rfl) (by rfl) rfl
  case h =>
    exact x_move rfl (hE.eval 0 (by rfl) e0)
  intro a3 hE e5 kp
  apply sq_det 6 hE k rfl (by rfl) (by rfl) rfl
  case h =>
    exact x_move rfl (hE.eval 1 (by rfl) e1)
  intro a4 hE e6 kp
  replace e5 := (kp 5 rfl).trans e5
  apply sq_call 7 hE k rfl (by rfl) (by rfl) rfl
  case h =>
    simp [go_sem, ↓IntWalk.iteOmega, ev e5, ev e6]
    with_reducible exact ⟨rfl, rfl⟩
  case hc => exact chas_bad db t _ h0 h1
  rintro e _ ⟨rfl, rfl⟩
  refine ⟨_, rfl, ?_⟩
  intro a5 hE e7 kp
  apply sq_det 8 hE k rfl (by rfl) (by rfl) rfl
  case h =>
    exact x_not rfl e7
  intro a6 hE e8 kp
  refine wpList_nil ?_
  replace e0 := hE.eval 0 (by rfl) e0
  replace e1 := hE.eval 1 (by rfl) e1
  replace k := k.env hE
  clear hE
  refine then_n ?_
  refine cond_t e8 rfl ?_
  refine wp_seq ?_
  refine wp_region_lit ?_
  have hE := Env.refl a6 [4]
  apply sq_det 4 hE k rfl (by rfl) (by rfl) rfl
  case h =>
    exact x_assign rfl rfl
  intro a7 hE e4 kp
  refine wpList_nil ?_
  replace k := k.env hE
  clear hE e0 e1 e8
  refine then_n ?_
  refine wp_ret ?_
  refine then_r ?_
  refine ret_F1 rfl k e4 ?_
  exact ⟨rfl, rfl⟩
set_option maxRecDepth 100000 in
set_option maxHeartbeats 4000000 in
theorem cslots_0 {p mb n cap bm db p2 sz : Nat} {B : Option Addr} {S : List Sec} {L : Int → Option Sec} (W0 : World) (h : DiscR p mb B n cap bm S L W0) (hd : Blk W0 db 149 #[.pointer (some ⟨p, 0, none⟩), .pointer (some ⟨p2, 0, none⟩), .int .i64 ↑sz]) (hs : 0 < sz) : Calls Try.prog 64 #[.pointer (some ⟨db, 0, none⟩), .int .i64 0] W0 fun e w' => e = .returned (.int .i64 (slN n sz : Nat)) ∧ Ext W0 w' := by
  have hn := h.ok.le
  have O := OwnT.start W0
  have dt : W0.cell? ⟨db, 0, none⟩ = some (.pointer (some ⟨p, 0, none⟩)) := hd.cell 0
  have d2 : W0.cell? ⟨db, 2, none⟩ = some (.int .i64 sz) := hd.cell 2
  refine calls_F Try.func64 rfl 22 rfl (by rfl) ?_
  intro a1 k hargs
  have e0 : a1.eval (.tmp 0) = .pointer (some ⟨db, 0, none⟩) := hargs 0 _ rfl
  have e1 : a1.eval (.tmp 1) = .int .i64 0 := hargs 1 _ rfl
  clear hargs
  refine wp_seq ?_
  refine wp_region_lit ?_
  have hE := Env.refl a1 [4]
  apply sq_det 4 hE k rfl (by rfl) (by rfl) rfl
  case h =>
    exact x_assign rfl rfl
  intro a2 hE e4 kp
  refine wpList_nil ?_
  replace e0 := hE.eval 0 (by rfl) e0
  replace e1 := hE.eval 1 (by rfl) e1
  replace k := k.env hE
  clear hE e4
  refine then_n ?_
  refine wp_seq ?_
  refine wp_seq ?_
  refine wp_region_lit ?_
  have hE := Env.refl a2 [5, 6, 7, 8]
  apply sq_det 5 hE k rfl (by rfl) (by rfl) rfl
  case h =>
    exact x_move rfl (hE.eval 0 (by rfl) e0)
  intro a3 hE e5 kp
  apply sq_det 6 hE k rfl (by rfl) (by rfl) rfl
  case h =>
    exact x_move rfl (hE.eval 1 (by rfl) e1)
  intro a4 hE e6 kp
  replace e5 := (kp 5 rfl).trans e5
  apply sq_call 7 hE k rfl (by rfl) (by rfl) rfl
  case h =>
    simp [go_sem, ↓IntWalk.iteOmega, ev e5, ev e6]
    with_reducible exact ⟨rfl, rfl⟩
  case hc => exact chas_0 db _
  rintro e _ ⟨rfl, rfl⟩
  refine ⟨_, rfl, ?_⟩
  intro a5 hE e7 kp
  apply sq_det 8 hE k rfl (by rfl) (by rfl) rfl
  case h =>
    exact x_not rfl e7
  intro a6 hE e8 kp
  refine wpList_nil ?_
  replace e0 := hE.eval 0 (by rfl) e0
  replace e1 := hE.eval 1 (by rfl) e1
  replace k := k.env hE
  clear hE
  refine then_n ?_
  refine cond_f e8 rfl ?_
  refine wp_skip ?_
  refine then_n ?_
  refine wp_seq ?_
  refine wp_typed (R := Ext) (w0 := W0) [[], [], [0], [0, 2], [0, 1, 2, 3], [0, 1, 2, 3, 4], [0, 1, 2, 3, 4, 5], [], [7], [7, 8], [7, 8, 9], [0, 1, 2, 3, 4, 5, 6, 7, 8, 9, 10], [0, 1, 2, 3, 4, 5, 6, 7, 8, 9, 10, 11], [0, 1, 2, 3, 4, 5, 6, 7, 8, 9, 10, 11, 12]] [9, 10, 11, 12, 13, 14, 15, 16, 17, 18, 19, 20, 21, 4] Ext.refl (fun _ _ _ => Ext.trans) (Ext.drew _) (by kernel_rfl) ?_
  apply Build.det 9 Ext.refl (by rfl) (by rw [k.size]; rfl) rfl
  case h =>
    intro ax wx hE hR hF
    exact x_move rfl (hE.eval 0 (by rfl) e0)
  apply Build.det 10 Ext.refl (by rfl) (by rw [k.size]; rfl) rfl
  case h =>
    intro ax wx hE hR hF
    exact x_move rfl (hE.eval 1 (by rfl) e1)
  apply Build.det 11 Ext.refl (by rfl) (by rw [k.size]; rfl) rfl
  case h =>
    intro ax wx hE hR hF
    have e9 : ax.eval (.tmp 9) = _ := hF 0 (det 9 _) (by decide) (.tail _ (.head _))
    exact x_nil rfl e9
  apply Build.det 12 Ext.refl (by rfl) (by rw [k.size]; rfl) rfl
  case h =>
    intro ax wx hE hR hF
    have e11 : ax.eval (.tmp 11) = _ := hF 2 (det 11 _) (by decide) (.head _)
    simp [go_sem, ↓IntWalk.iteOmega, ev e11]
    with_reducible rfl
  apply Build.det 13 Ext.refl (by rfl) (by rw [k.size]; rfl) rfl
  case h =>
    intro ax wx hE hR hF
    have e10 : ax.eval (.tmp 10) = _ := hF 1 (det 10 _) (by decide) (.tail _ (.tail _ (.head _)))
    have e12 : ax.eval (.tmp 12) = _ := hF 3 (det 12 _) (by decide) (.head _)
    simp [go_sem, ↓IntWalk.iteOmega, ev e10, ev e12]
    with_reducible rfl
  apply Build.det 14 Ext.refl (by rfl) (by rw [k.size]; rfl) rfl
  case h =>
    intro ax wx hE hR hF
    have e13 : ax.eval (.tmp 13) = _ := hF 4 (det 13 _) (by decide) (.head _)
    have dt' : wx.cell? ⟨db, 0, none⟩ = some (.pointer (some ⟨p, 0, none⟩)) := (hd.ext hR).cell 0
    simp [go_sem, ↓IntWalk.iteOmega, ev e13, dt']
    with_reducible rfl
  apply Build.call 15 Ext.refl (by rfl) (by rw [k.size]; rfl) rfl
  case h =>
    intro ax wx hE hR hF
    have e14 : ax.eval (.tmp 14) = _ := hF 5 (det 14 _) (by decide) (.head _)
    simp [go_sem, ↓IntWalk.iteOmega, ev e14]
    with_reducible exact ⟨rfl, rfl⟩
  case hc => intro wx hR; exact ((dlen_any wx (h.ext hR)).mono (fun e w' h => ⟨h.1, h.2 ▸ Ext.refl _⟩))
  apply Build.det 16 Ext.refl (by rfl) (by rw [k.size]; rfl) rfl
  case h =>
    intro ax wx hE hR hF
    exact x_move rfl (hE.eval 0 (by rfl) e0)
  apply Build.det 17 Ext.refl (by rfl) (by rw [k.size]; rfl) rfl
  case h =>
    intro ax wx hE hR hF
    have e16 : ax.eval (.tmp 16) = _ := hF 7 (det 16 _) (by decide) (.head _)
    exact x_nil rfl e16
  apply Build.det 18 Ext.refl (by rfl) (by rw [k.size]; rfl) rfl
  case h =>
    intro ax wx hE hR hF
    have e17 : ax.eval (.tmp 17) = _ := hF 8 (det 17 _) (by decide) (.head _)
    simp [go_sem, ↓IntWalk.iteOmega, ev e17]
    with_reducible rfl
  apply Build.det 19 Ext.refl (by rfl) (by rw [k.size]; rfl) rfl
  case h =>
    intro ax wx hE hR hF
    have e18 : ax.eval (.tmp 18) = _ := hF 9 (det 18 _) (by decide) (.head _)
    have d2' : wx.cell? ⟨db, 2, none⟩ = some (.int .i64 sz) := (hd.ext hR).cell 2
    simp [go_sem, ↓IntWalk.iteOmega, ev e18, d2']
    with_reducible rfl
  apply Build.det 20 Ext.refl (by rfl) (by rw [k.size]; rfl) rfl
  case h =>
    intro ax wx hE hR hF
    have e15 : ax.eval (.tmp 15) = _ := hF 6 (det 15 _) (by decide) (.tail _ (.tail _ (.tail _ (.tail _ (.head _)))))
    have e19 : ax.eval (.tmp 19) = _ := hF 10 (det 19 _) (by decide) (.head _)
    exact x_quoN (m := n) (j := sz) rfl e15 e19 rfl hs (by omega)
  apply Build.det 21 Ext.refl (by rfl) (by rw [k.size]; rfl) rfl
  case h =>
    intro ax wx hE hR hF
    have e20 : ax.eval (.tmp 20) = _ := hF 11 (det 20 _) (by decide) (.head _)
    exact x_val (v := .int .i64 ((slN n sz : Nat) : Int)) (x_min rfl e20 rfl) (int_eq (by unfold slN; omega))
  apply Build.det 4 Ext.refl (by rfl) (by rw [k.size]; rfl) rfl
  case h =>
    intro ax wx hE hR hF
    have e21 : ax.eval (.tmp 21) = _ := hF 12 (det 21 _) (by decide) (.head _)
    exact x_assign rfl e21
  apply Build.stop
  refine ⟨by kernel_rfl, .inl ⟨rfl, ?_⟩⟩
  intro a7 w8 hE R hF
  have e4 : a7.eval (.tmp 4) = _ := hF 13 (det 4 _) (.head _)
  clear hF
  replace O := OwnT.ext O R
  clear R
  replace k := k.env hE
  clear hE e0 e1 e8
  refine then_n ?_
  refine wp_ret ?_
  refine ret_F1 rfl k e4 ?_
  exact ⟨rfl, O.below⟩
set_option maxRecDepth 100000 in
set_option maxHeartbeats 4000000 in
theorem cloose_0 {p mb n cap bm db p2 sz : Nat} {B : Option Addr} {S : List Sec} {L : Int → Option Sec} (W0 : World) (h : DiscR p mb B n cap bm S L W0) (hd : Blk W0 db 149 #[.pointer (some ⟨p, 0, none⟩), .pointer (some ⟨p2, 0, none⟩), .int .i64 ↑sz]) : Calls Try.prog 63 #[.pointer (some ⟨db, 0, none⟩), .int .i64 0] W0 fun e w' => e = .returned (.int .i64 ((looL n L).length : Nat)) ∧ Ext W0 w' := by
  have O := OwnT.start W0
  have dt : W0.cell? ⟨db, 0, none⟩ = some (.pointer (some ⟨p, 0, none⟩)) := hd.cell 0
  refine calls_F Try.func63 rfl 17 rfl (by rfl) ?_
  intro a1 k hargs
  have e0 : a1.eval (.tmp 0) = .pointer (some ⟨db, 0, none⟩) := hargs 0 _ rfl
  have e1 : a1.eval (.tmp 1) = .int .i64 0 := hargs 1 _ rfl
  clear hargs
  refine wp_seq ?_
  refine wp_region_lit ?_
  have hE := Env.refl a1 [4]
  apply sq_det 4 hE k rfl (by rfl) (by rfl) rfl
  case h =>
    exact x_assign rfl rfl
  intro a2 hE e4 kp
  refine wpList_nil ?_
  replace e0 := hE.eval 0 (by rfl) e0
  replace e1 := hE.eval 1 (by rfl) e1
  replace k := k.env hE
  clear hE e4
  refine then_n ?_
  refine wp_seq ?_
  refine wp_seq ?_
  refine wp_region_lit ?_
  have hE := Env.refl a2 [5, 6, 7, 8]
  apply sq_det 5 hE k rfl (by rfl) (by rfl) rfl
  case h =>
    exact x_move rfl (hE.eval 0 (by rfl) e0)
  intro a3 hE e5 kp
  apply sq_det 6 hE k rfl (by rfl) (by rfl) rfl
  case h =>
    exact x_move rfl (hE.eval 1 (by rfl) e1)
  intro a4 hE e6 kp
  replace e5 := (kp 5 rfl).trans e5
  apply sq_call 7 hE k rfl (by rfl) (by rfl) rfl
  case h =>
    simp [go_sem, ↓IntWalk.iteOmega, ev e5, ev e6]
    with_reducible exact ⟨rfl, rfl⟩
  case hc => exact chas_0 db _
  rintro e _ ⟨rfl, rfl⟩
  refine ⟨_, rfl, ?_⟩
  intro a5 hE e7 kp
  apply sq_det 8 hE k rfl (by rfl) (by rfl) rfl
  case h =>
    exact x_not rfl e7
  intro a6 hE e8 kp
  refine wpList_nil ?_
  replace e0 := hE.eval 0 (by rfl) e0
  replace e1 := hE.eval 1 (by rfl) e1
  replace k := k.env hE
  clear hE
  refine then_n ?_
  refine cond_f e8 rfl ?_
  refine wp_skip ?_
  refine then_n ?_
  refine wp_seq ?_
  refine wp_region_lit ?_
  have hE := Env.refl a6 [9, 10, 11, 12, 13, 14, 15, 16, 4]
  apply sq_det 9 hE k rfl (by rfl) (by rfl) rfl
  case h =>
    exact x_move rfl (hE.eval 0 (by rfl) e0)
  intro a7 hE e9 kp
  apply sq_det 10 hE k rfl (by rfl) (by rfl) rfl
  case h =>
    exact x_move rfl (hE.eval 1 (by rfl) e1)
  intro a8 hE e10 kp
  replace e9 := (kp 9 rfl).trans e9
  apply sq_det 11 hE k rfl (by rfl) (by rfl) rfl
  case h =>
    exact x_nil rfl e9
  intro a9 hE e11 kp
  replace e10 := (kp 10 rfl).trans e10
  apply sq_det 12 hE k rfl (by rfl) (by rfl) rfl
  case h =>
    simp [go_sem, ↓IntWalk.iteOmega, ev e11]
    with_reducible rfl
  intro a10 hE e12 kp
  replace e10 := (kp 10 rfl).trans e10
  apply sq_det 13 hE k rfl (by rfl) (by rfl) rfl
  case h =>
    simp [go_sem, ↓IntWalk.iteOmega, ev e10, ev e12]
    with_reducible rfl
  intro a11 hE e13 kp
  apply sq_det 14 hE k rfl (by rfl) (by rfl) rfl
  case h =>
    simp [go_sem, ↓IntWalk.iteOmega, ev e13, dt]
    with_reducible rfl
  intro a12 hE e14 kp
  apply sq_call 15 hE k rfl (by rfl) (by rfl) rfl
  case h =>
    simp [go_sem, ↓IntWalk.iteOmega, ev e14]
    with_reducible exact ⟨rfl, rfl⟩
  case hc => exact dloose_any _ h
  rintro e w14 ⟨Bx, cx, rfl, -, -, -, -, R⟩
  replace O := OwnT.ext O R
  refine ⟨_, rfl, ?_⟩
  intro a13 hE e15 kp
  apply sq_det 16 hE k rfl (by rfl) (by rfl) rfl
  case h =>
    exact x_len Try.underlying49 rfl e15
  intro a15 hE e16 kp
  apply sq_det 4 hE k rfl (by rfl) (by rfl) rfl
  case h =>
    exact x_assign rfl e16
  intro a16 hE e4 kp
  refine wpList_nil ?_
  replace k := k.env hE
  clear hE e0 e1 e8
  refine then_n ?_
  refine wp_ret ?_
  refine ret_F1 rfl k e4 ?_
  exact ⟨rfl, O.below⟩
set_option maxRecDepth 100000 in
set_option maxHeartbeats 4000000 in
theorem cslots_1 {p mb n cap bm db p2 sz : Nat} {B : Option Addr} {S : List Sec} {L : Int → Option Sec} (W0 : World) (h : DiscR p mb B n cap bm S L W0) (hd : Blk W0 db 149 #[.pointer (some ⟨p2, 0, none⟩), .pointer (some ⟨p, 0, none⟩), .int .i64 ↑sz]) (hs : 0 < sz) : Calls Try.prog 64 #[.pointer (some ⟨db, 0, none⟩), .int .i64 1] W0 fun e w' => e = .returned (.int .i64 (slN n sz : Nat)) ∧ Ext W0 w' := by
  have hn := h.ok.le
  have O := OwnT.start W0
  have dt : W0.cell? ⟨db, 1, none⟩ = some (.pointer (some ⟨p, 0, none⟩)) := hd.cell 1
  have d2 : W0.cell? ⟨db, 2, none⟩ = some (.int .i64 sz) := hd.cell 2
  refine calls_F Try.func64 rfl 22 rfl (by rfl) ?_
  intro a1 k hargs
  have e0 : a1.eval (.tmp 0) = .pointer (some ⟨db, 0, none⟩) := hargs 0 _ rfl
  have e1 : a1.eval (.tmp 1) = .int .i64 1 := hargs 1 _ rfl
  clear hargs
  refine wp_seq ?_
  refine wp_region_lit ?_
  have hE := Env.refl a1 [4]
  apply sq_det 4 hE k rfl (by rfl) (by rfl) rfl
  case h =>
    exact x_assign rfl rfl
  intro a2 hE e4 kp
  refine wpList_nil ?_
  replace e0 := hE.eval 0 (by rfl) e0
  replace e1 := hE.eval 1 (by rfl) e1
  replace k := k.env hE
  clear hE e4
  refine then_n ?_
  refine wp_seq ?_
  refine wp_seq ?_
  refine wp_region_lit ?_
  have hE := Env.refl a2 [5, 6, 7, 8]
  apply sq_det 5 hE k rfl (by rfl) (by rfl) rfl
  case h =>
    exact x_move rfl (hE.eval 0 (by rfl) e0)
  intro a3 hE e5 kp
  apply sq_det 6 hE k rfl (by rfl) (by rfl) rfl
  case h =>
    exact x_move rfl (hE.eval 1 (by rfl) e1)
  intro a4 hE e6 kp
  replace e5 := (kp 5 rfl).trans e5
  apply sq_call 7 hE k rfl (by rfl) (by rfl) rfl
  case h =>
    simp [go_sem, ↓IntWalk.iteOmega, ev e5, ev e6]
    with_reducible exact ⟨rfl, rfl⟩
  case hc => exact chas_1 db _
  rintro e _ ⟨rfl, rfl⟩
  refine ⟨_, rfl, ?_⟩
  intro a5 hE e7 kp
  apply sq_det 8 hE k rfl (by rfl) (by rfl) rfl
  case h =>
    exact x_not rfl e7
  intro a6 hE e8 kp
  refine wpList_nil ?_
  replace e0 := hE.eval 0 (by rfl) e0
  replace e1 := hE.eval 1 (by rfl) e1
  replace k := k.env hE
  clear hE
  refine then_n ?_
  refine cond_f e8 rfl ?_
  refine wp_skip ?_
  refine then_n ?_
  refine wp_seq ?_
  refine wp_typed (R := Ext) (w0 := W0) [[], [], [0], [0, 2], [0, 1, 2, 3], [0, 1, 2, 3, 4], [0, 1, 2, 3, 4, 5], [], [7], [7, 8], [7, 8, 9], [0, 1, 2, 3, 4, 5, 6, 7, 8, 9, 10], [0, 1, 2, 3, 4, 5, 6, 7, 8, 9, 10, 11], [0, 1, 2, 3, 4, 5, 6, 7, 8, 9, 10, 11, 12]] [9, 10, 11, 12, 13, 14, 15, 16, 17, 18, 19, 20, 21, 4] Ext.refl (fun _ _ _ => Ext.trans) (Ext.drew _) (by kernel_rfl) ?_
  apply Build.det 9 Ext.refl (by rfl) (by rw [k.size]; rfl) rfl
  case h =>
    intro ax wx hE hR hF
    exact x_move rfl (hE.eval 0 (by rfl) e0)
  apply Build.det 10 Ext.refl (by rfl) (by rw [k.size]; rfl) rfl
  case h =>
    intro ax wx hE hR hF
    exact x_move rfl (hE.eval 1 (by rfl) e1)
  apply Build.det 11 Ext.refl (by rfl) (by rw [k.size]; rfl) rfl
  case h =>
    intro ax wx hE hR hF
    have e9 : ax.eval (.tmp 9) = _ := hF 0 (det 9 _) (by decide) (.tail _ (.head _))
    exact x_nil rfl e9
  apply Build.det 12 Ext.refl (by rfl) (by rw [k.size]; rfl) rfl
  case h =>
    intro ax wx hE hR hF
    have e11 : ax.eval (.tmp 11) = _ := hF 2 (det 11 _) (by decide) (.head _)
    simp [go_sem, ↓IntWalk.iteOmega, ev e11]
    with_reducible rfl
  apply Build.det 13 Ext.refl (by rfl) (by rw [k.size]; rfl) rfl
  case h =>
    intro ax wx hE hR hF
    have e10 : ax.eval (.tmp 10) = _ := hF 1 (det 10 _) (by decide) (.tail _ (.tail _ (.head _)))
    have e12 : ax.eval (.tmp 12) = _ := hF 3 (det 12 _) (by decide) (.head _)
    simp [go_sem, ↓IntWalk.iteOmega, ev e10, ev e12]
    with_reducible rfl
  apply Build.det 14 Ext.refl (by rfl) (by rw [k.size]; rfl) rfl
  case h =>
    intro ax wx hE hR hF
    have e13 : ax.eval (.tmp 13) = _ := hF 4 (det 13 _) (by decide) (.head _)
    have dt' : wx.cell? ⟨db, 1, none⟩ = some (.pointer (some ⟨p, 0, none⟩)) := (hd.ext hR).cell 1
    simp [go_sem, ↓IntWalk.iteOmega, ev e13, dt']
    with_reducible rfl
  apply Build.call 15 Ext.refl (by rfl) (by rw [k.size]; rfl) rfl
  case h =>
    intro ax wx hE hR hF
    have e14 : ax.eval (.tmp 14) = _ := hF 5 (det 14 _) (by decide) (.head _)
    simp [go_sem, ↓IntWalk.iteOmega, ev e14]
    with_reducible exact ⟨rfl, rfl⟩
  case hc => intro wx hR; exact ((dlen_any wx (h.ext hR)).mono (fun e w' h => ⟨h.1, h.2 ▸ Ext.refl _⟩))
  apply Build.det 16 Ext.refl (by rfl) (by rw [k.size]; rfl) rfl
  case h =>
    intro ax wx hE hR hF
    exact x_move rfl (hE.eval 0 (by rfl) e0)
  apply Build.det 17 Ext.refl (by rfl) (by rw [k.size]; rfl) rfl
  case h =>
    intro ax wx hE hR hF
    have e16 : ax.eval (.tmp 16) = _ := hF 7 (det 16 _) (by decide) (.head _)
    exact x_nil rfl e16
  apply Build.det 18 Ext.refl (by rfl) (by rw [k.size]; rfl) rfl
  case h =>
    intro ax wx hE hR hF
    have e17 : ax.eval (.tmp 17) = _ := hF 8 (det 17 _) (by decide) (.head _)
    simp [go_sem, ↓IntWalk.iteOmega, ev e17]
    with_reducible rfl
  apply Build.det 19 Ext.refl (by rfl) (by rw [k.size]; rfl) rfl
  case h =>
    intro ax wx hE hR hF
    have e18 : ax.eval (.tmp 18) = _ := hF 9 (det 18 _) (by decide) (.head _)
    have d2' : wx.cell? ⟨db, 2, none⟩ = some (.int .i64 sz) := (hd.ext hR).cell 2
    simp [go_sem, ↓IntWalk.iteOmega, ev e18, d2']
    with_reducible rfl
  apply Build.det 20 Ext.refl (by rfl) (by rw [k.size]; rfl) rfl
  case h =>
    intro ax wx hE hR hF
    have e15 : ax.eval (.tmp 15) = _ := hF 6 (det 15 _) (by decide) (.tail _ (.tail _ (.tail _ (.tail _ (.head _)))))
    have e19 : ax.eval (.tmp 19) = _ := hF 10 (det 19 _) (by decide) (.head _)
    exact x_quoN (m := n) (j := sz) rfl e15 e19 rfl hs (by omega)
  apply Build.det 21 Ext.refl (by rfl) (by rw [k.size]; rfl) rfl
  case h =>
    intro ax wx hE hR hF
    have e20 : ax.eval (.tmp 20) = _ := hF 11 (det 20 _) (by decide) (.head _)
    exact x_val (v := .int .i64 ((slN n sz : Nat) : Int)) (x_min rfl e20 rfl) (int_eq (by unfold slN; omega))
  apply Build.det 4 Ext.refl (by rfl) (by rw [k.size]; rfl) rfl
  case h =>
    intro ax wx hE hR hF
    have e21 : ax.eval (.tmp 21) = _ := hF 12 (det 21 _) (by decide) (.head _)
    exact x_assign rfl e21
  apply Build.stop
  refine ⟨by kernel_rfl, .inl ⟨rfl, ?_⟩⟩
  intro a7 w8 hE R hF
  have e4 : a7.eval (.tmp 4) = _ := hF 13 (det 4 _) (.head _)
  clear hF
  replace O := OwnT.ext O R
  clear R
  replace k := k.env hE
  clear hE e0 e1 e8
  refine then_n ?_
  refine wp_ret ?_
  refine ret_F1 rfl k e4 ?_
  exact ⟨rfl, O.below⟩
set_option maxRecDepth 100000 in
set_option maxHeartbeats 4000000 in
theorem cloose_1 {p mb n cap bm db p2 sz : Nat} {B : Option Addr} {S : List Sec} {L : Int → Option Sec} (W0 : World) (h : DiscR p mb B n cap bm S L W0) (hd : Blk W0 db 149 #[.pointer (some ⟨p2, 0, none⟩), .pointer (some ⟨p, 0, none⟩), .int .i64 ↑sz]) : Calls Try.prog 63 #[.pointer (some ⟨db, 0, none⟩), .int .i64 1] W0 fun e w' => e = .returned (.int .i64 ((looL n L).length : Nat)) ∧ Ext W0 w' := by
  have O := OwnT.start W0
  have dt : W0.cell? ⟨db, 1, none⟩ = some (.pointer (some ⟨p, 0, none⟩)) := hd.cell 1
  refine calls_F Try.func63 rfl 17 rfl (by rfl) ?_
  intro a1 k hargs
  have e0 : a1.eval (.tmp 0) = .pointer (some ⟨db, 0, none⟩) := hargs 0 _ rfl
  have e1 : a1.eval (.tmp 1) = .int .i64 1 := hargs 1 _ rfl
  clear hargs
  refine wp_seq ?_
  refine wp_region_lit ?_
  have hE := Env.refl a1 [4]
  apply sq_det 4 hE k rfl (by rfl) (by rfl) rfl
  case h =>
    exact x_assign rfl rfl
  intro a2 hE e4 kp
  refine wpList_nil ?_
  replace e0 := hE.eval 0 (by rfl) e0
  replace e1 := hE.eval 1 (by rfl) e1
  replace k := k.env hE
  clear hE e4
  refine then_n ?_
  refine wp_seq ?_
  refine wp_seq ?_
  refine wp_region_lit ?_
  have hE := Env.refl a2 [5, 6, 7, 8]
  apply sq_det 5 hE k rfl (by rfl) (by rfl) rfl
  case h =>
    exact x_move rfl (hE.eval 0 (by rfl) e0)
  intro a3 hE e5 kp
  apply sq_det 6 hE k rfl (by rfl) (by rfl) rfl
  case h =>
    exact x_move rfl (hE.eval 1 (by rfl) e1)
  intro a4 hE e6 kp
  replace e5 := (kp 5 rfl).trans e5
  apply sq_call 7 hE k rfl (by rfl) (by rfl) rfl
  case h =>
    simp [go_sem, ↓IntWalk.iteOmega, ev e5, ev e6]
    with_reducible exact ⟨rfl, rfl⟩
  case hc => exact chas_1 db _
  rintro e _ ⟨rfl, rfl⟩
  refine ⟨_, rfl, ?_⟩
  intro a5 hE e7 kp
  apply sq_det 8 hE k rfl (by rfl) (by rfl) rfl
  case h =>
    exact x_not rfl e7
  intro a6 hE e8 kp
  refine wpList_nil ?_
  replace e0 := hE.eval 0 (by rfl) e0
  replace e1 := hE.eval 1 (by rfl) e1
  replace k := k.env hE
  clear hE
  refine then_n ?_
  refine cond_f e8 rfl ?_
  refine wp_skip ?_
  refine then_n ?_
  refine wp_seq ?_
  refine wp_region_lit ?_
  have hE := Env.refl a6 [9, 10, 11, 12, 13, 14, 15, 16, 4]
  apply sq_det 9 hE k rfl (by rfl) (by rfl) rfl
  case h =>
    exact x_move rfl (hE.eval 0 (by rfl) e0)
  intro a7 hE e9 kp
  apply sq_det 10 hE k rfl (by rfl) (by rfl) rfl
  case h =>
    exact x_move rfl (hE.eval 1 (by rfl) e1)
  intro a8 hE e10 kp
  replace e9 := (kp 9 rfl).trans e9
  apply sq_det 11 hE k rfl (by rfl) (by rfl) rfl
  case h =>
    exact x_nil rfl e9
  intro a9 hE e11 kp
  replace e10 := (kp 10 rfl).trans e10
  apply sq_det 12 hE k rfl (by rfl) (by rfl) rfl
  case h =>
    simp [go_sem, ↓IntWalk.iteOmega, ev e11]
    with_reducible rfl
  intro a10 hE e12 kp
  replace e10 := (kp 10 rfl).trans e10
  apply sq_det 13 hE k rfl (by rfl) (by rfl) rfl
  case h =>
    simp [go_sem, ↓IntWalk.iteOmega, ev e10, ev e12]
    with_reducible rfl
  intro a11 hE e13 kp
  apply sq_det 14 hE k rfl (by rfl) (by rfl) rfl
  case h =>
    simp [go_sem, ↓IntWalk.iteOmega, ev e13, dt]
    with_reducible rfl
  intro a12 hE e14 kp
  apply sq_call 15 hE k rfl (by rfl) (by rfl) rfl
  case h =>
    simp [go_sem, ↓IntWalk.iteOmega, ev e14]
    with_reducible exact ⟨rfl, rfl⟩
  case hc => exact dloose_any _ h
  rintro e w14 ⟨Bx, cx, rfl, -, -, -, -, R⟩
  replace O := OwnT.ext O R
  refine ⟨_, rfl, ?_⟩
  intro a13 hE e15 kp
  apply sq_det 16 hE k rfl (by rfl) (by rfl) rfl
  case h =>
    exact x_len Try.underlying49 rfl e15
  intro a15 hE e16 kp
  apply sq_det 4 hE k rfl (by rfl) (by rfl) rfl
  case h =>
    exact x_assign rfl e16
  intro a16 hE e4 kp
  refine wpList_nil ?_
  replace k := k.env hE
  clear hE e0 e1 e8
  refine then_n ?_
  refine wp_ret ?_
  refine ret_F1 rfl k e4 ?_
  exact ⟨rfl, O.below⟩
theorem cspot_nil (t x : Int) (W0 : World) : Calls Try.prog 91 #[.pointer none, .agg #[.int .i64 t, .int .i64 x]] W0 fun e w' => e = .returned (.tuple #[.int .i64 0, .int .i64 2]) ∧ Ext W0 w' := by
  have O := OwnT.start W0
  refine calls_F Try.func91 rfl 29 rfl (by rfl) ?_
  intro a1 k hargs
  have e0 : a1.eval (.tmp 0) = .pointer none := hargs 0 _ rfl
  have e1 : a1.eval (.tmp 1) = .agg #[.int .i64 t, .int .i64 x] := hargs 1 _ rfl
  clear hargs
  refine wp_seq ?_
  refine wp_region_lit ?_
  have hE := Env.refl a1 [3, 4, 5]
  refine sq_new O (cs := #[.int .i64 t, .int .i64 x]) (t := 90) 3 hE k rfl (by rfl) (by rfl) rfl (by simp [go_sem, ↓IntWalk.iteOmega, ev (hE.eval 1 (by rfl) e1)]) ?_
  clear O
  intro sb a2 w3 O hE e3 kp
  apply sq_det 4 hE k rfl (by rfl) (by rfl) rfl
  case h =>
    exact x_assign rfl rfl
  intro a4 hE e4 kp
  replace e3 := (kp 3 rfl).trans e3
  apply sq_det 5 hE k rfl (by rfl) (by rfl) rfl
  case h =>
    exact x_assign rfl rfl
  intro a5 hE e5 kp
  replace e3 := (kp 3 rfl).trans e3
  refine wpList_nil ?_
  replace e0 := hE.eval 0 (by rfl) e0
  replace k := k.env hE
  clear hE e1 e5
  refine then_n ?_
  refine wp_seq ?_
  refine wp_block ?_
  refine wp_seq ?_
  refine wp_region_lit ?_
  have hE := Env.refl a5 [7, 8, 6]
  apply sq_det 7 hE k rfl (by rfl) (by rfl) rfl
  case h =>
    exact x_move rfl (hE.eval 0 (by rfl) e0)
  intro a6 hE e7 kp
  apply sq_det 8 hE k rfl (by rfl) (by rfl) rfl
  case h =>
    simp [go_sem, ↓IntWalk.iteOmega, ev e7]
    with_reducible rfl
  intro a7 hE e8 kp
  apply sq_det 6 hE k rfl (by rfl) (by rfl) rfl
  case h =>
    exact x_assign rfl e8
  intro a8 hE e6 kp
  refine wpList_nil ?_
  replace e0 := hE.eval 0 (by rfl) e0
  replace e3 := hE.eval 3 (by rfl) e3
  replace k := k.env hE
  clear hE
  refine then_n ?_
  refine cond_t e6 rfl ?_
  refine wp_seq ?_
  refine wp_region_lit ?_
  have hE := Env.refl a8 [4, 5]
  apply sq_det 4 hE k rfl (by rfl) (by rfl) rfl
  case h =>
    exact x_assign rfl rfl
  intro a9 hE e4 kp
  apply sq_det 5 hE k rfl (by rfl) (by rfl) rfl
  case h =>
    exact x_assign rfl rfl
  intro a10 hE e5 kp
  replace e4 := (kp 4 rfl).trans e4
  refine wpList_nil ?_
  replace k := k.env hE
  clear hE e0 e3 e6
  refine then_n ?_
  refine wp_ret ?_
  refine block_r ?_
  refine then_r ?_
  refine ret_F2 rfl k e4 e5 ?_
  exact ⟨rfl, O.below⟩
set_option maxRecDepth 100000 in
set_option maxHeartbeats 4000000 in
theorem cspot_bad (db : Nat) (t x : Int) (W0 : World) (h0 : t ≠ 0) (h1 : t ≠ 1) : Calls Try.prog 91 #[.pointer (some ⟨db, 0, none⟩), .agg #[.int .i64 t, .int .i64 x]] W0 fun e w' => e = .returned (.tuple #[.int .i64 0, .int .i64 1]) ∧ Ext W0 w' := by
  have O := OwnT.start W0
  refine calls_F Try.func91 rfl 29 rfl (by rfl) ?_
  intro a1 k hargs
  have e0 : a1.eval (.tmp 0) = .pointer (some ⟨db, 0, none⟩) := hargs 0 _ rfl
  have e1 : a1.eval (.tmp 1) = .agg #[.int .i64 t, .int .i64 x] := hargs 1 _ rfl
  clear hargs
  refine wp_seq ?_
  refine wp_region_lit ?_
  have hE := Env.refl a1 [3, 4, 5]
  refine sq_new O (cs := #[.int .i64 t, .int .i64 x]) (t := 90) 3 hE k rfl (by rfl) (by rfl) rfl (by simp [go_sem, ↓IntWalk.iteOmega, ev (hE.eval 1 (by rfl) e1)]) ?_
  clear O
  intro sb a2 w3 O hE e3 kp
  apply sq_det 4 hE k rfl (by rfl) (by rfl) rfl
  case h =>
    exact x_assign rfl rfl
  intro a4 hE e4 kp
  replace e3 := (kp 3 rfl).trans e3
  apply sq_det 5 hE k rfl (by rfl) (by rfl) rfl
  case h =>
    exact x_assign rfl rfl
  intro a5 hE e5 kp
  replace e3 := (kp 3 rfl).trans e3
  refine wpList_nil ?_
  replace e0 := hE.eval 0 (by rfl) e0
  replace k := k.env hE
  clear hE e1 e5
  refine then_n ?_
  refine wp_seq ?_
  refine wp_block ?_
  refine wp_seq ?_
  refine wp_region_lit ?_
  have hE := Env.refl a5 [7, 8, 6]
  apply sq_det 7 hE k rfl (by rfl) (by rfl) rfl
  case h =>
    exact x_move rfl (hE.eval 0 (by rfl) e0)
  intro a6 hE e7 kp
  apply sq_det 8 hE k rfl (by rfl) (by rfl) rfl
  case h =>
    simp [go_sem, ↓IntWalk.iteOmega, ev e7]
    with_reducible rfl
  intro a7 hE e8 kp
  apply sq_det 6 hE k rfl (by rfl) (by rfl) rfl
  case h =>
    exact x_assign rfl e8
  intro a8 hE e6 kp
  refine wpList_nil ?_
  replace e0 := hE.eval 0 (by rfl) e0
  replace e3 := hE.eval 3 (by rfl) e3
  replace k := k.env hE
  clear hE
  refine then_n ?_
  refine cond_f e6 rfl ?_
  by_cases hx : x < 0
  · skip
    refine wp_seq ?_
    refine wp_typed (R := Ext) (w0 := w3) [[], [0], [0, 1], [0, 1, 2], [0, 1, 2, 3], [0, 1, 2, 3, 4], [0, 1, 2, 3], [0, 1, 2, 3], [0, 1, 2, 3, 7], [0, 1, 2, 3, 6, 7, 8], [0, 1, 2, 3, 4, 5, 6, 7, 8, 9], [0, 1, 2, 3, 4, 5, 6, 7, 8, 9, 10], [0, 1, 2, 3, 4, 5, 6, 7, 8, 9, 10, 11]] [10, 11, 12, 13, 14, 15, 16, 17, 18, 19, 20, 21, 9] Ext.refl (fun _ _ _ => Ext.trans) (Ext.drew _) (by kernel_rfl) ?_
    apply Build.det 10 Ext.refl (by rfl) (by rw [k.size]; rfl) rfl
    case h =>
      intro ax wx hE hR hF
      simp [go_sem, ↓IntWalk.iteOmega, ev (hE.eval 3 (by rfl) e3)]
      with_reducible rfl
    apply Build.det 11 Ext.refl (by rfl) (by rw [k.size]; rfl) rfl
    case h =>
      intro ax wx hE hR hF
      have e10 : ax.eval (.tmp 10) = _ := hF 0 (det 10 _) (by decide) (.head _)
      have q0 : wx.cell? ⟨sb, 1, none⟩ = some (.int .i64 x) := (OwnT.blk (OwnT.ext O hR) 0 rfl).cell 1
      simp [go_sem, ↓IntWalk.iteOmega, ev e10, q0]
      with_reducible rfl
    apply Build.det 12 Ext.refl (by rfl) (by rw [k.size]; rfl) rfl
    case h =>
      intro ax wx hE hR hF
      have e11 : ax.eval (.tmp 11) = _ := hF 1 (det 11 _) (by decide) (.head _)
      exact x_dec (x_lss rfl e11 rfl) (decide_eq_true (by omega))
    apply Build.det 13 Ext.refl (by rfl) (by rw [k.size]; rfl) rfl
    case h =>
      intro ax wx hE hR hF
      have e12 : ax.eval (.tmp 12) = _ := hF 2 (det 12 _) (by decide) (.head _)
      exact x_move rfl e12
    refine Build.skip 14 (by rfl) (by rw [k.size]; rfl) rfl rfl ?_ ?_
    · intro ax wx hE hR hF
      have e13 : ax.eval (.tmp 13) = _ := hF 3 (det 13 _) (by decide) (.head _)
      exact e13
    refine Build.skip 15 (by rfl) (by rw [k.size]; rfl) rfl rfl ?_ ?_
    · intro ax wx hE hR hF
      have e13 : ax.eval (.tmp 13) = _ := hF 3 (det 13 _) (by decide) (.tail _ (.head _))
      exact e13
    refine Build.skip 16 (by rfl) (by rw [k.size]; rfl) rfl rfl ?_ ?_
    · intro ax wx hE hR hF
      have e13 : ax.eval (.tmp 13) = _ := hF 3 (det 13 _) (by decide) (.tail _ (.tail _ (.head _)))
      exact e13
    refine Build.skip 17 (by rfl) (by rw [k.size]; rfl) rfl rfl ?_ ?_
    · intro ax wx hE hR hF
      have e13 : ax.eval (.tmp 13) = _ := hF 3 (det 13 _) (by decide) (.tail _ (.tail _ (.tail _ (.head _))))
      exact e13
    refine Build.skip 18 (by rfl) (by rw [k.size]; rfl) rfl rfl ?_ ?_
    · intro ax wx hE hR hF
      have e13 : ax.eval (.tmp 13) = _ := hF 3 (det 13 _) (by decide) (.tail _ (.tail _ (.tail _ (.tail _ (.head _)))))
      exact e13
    refine Build.skip 19 (by rfl) (by rw [k.size]; rfl) rfl rfl ?_ ?_
    · intro ax wx hE hR hF
      have e13 : ax.eval (.tmp 13) = _ := hF 3 (det 13 _) (by decide) (.tail _ (.tail _ (.tail _ (.tail _ (.tail _ (.head _))))))
      exact e13
    refine Build.skip 20 (by rfl) (by rw [k.size]; rfl) rfl rfl ?_ ?_
    · intro ax wx hE hR hF
      have e13 : ax.eval (.tmp 13) = _ := hF 3 (det 13 _) (by decide) (.tail _ (.tail _ (.tail _ (.tail _ (.tail _ (.tail _ (.head _)))))))
      exact e13
    apply Build.det 21 Ext.refl (by rfl) (by rw [k.size]; rfl) rfl
    case h =>
      intro ax wx hE hR hF
      have e13 : ax.eval (.tmp 13) = _ := hF 3 (det 13 _) (by decide) (.tail _ (.tail _ (.tail _ (.tail _ (.tail _ (.tail _ (.tail _ (.head _))))))))
      have e20 : ax.eval (.tmp 20) = _ := hF 10 (det 20 _) (by decide) (.head _)
      exact x_pick_t rfl e13 rfl
    apply Build.det 9 Ext.refl (by rfl) (by rw [k.size]; rfl) rfl
    case h =>
      intro ax wx hE hR hF
      have e21 : ax.eval (.tmp 21) = _ := hF 11 (det 21 _) (by decide) (.head _)
      exact x_assign rfl e21
    apply Build.stop
    refine ⟨by kernel_rfl, .inl ⟨rfl, ?_⟩⟩
    intro a9 w10 hE R hF
    have e9 : a9.eval (.tmp 9) = _ := hF 12 (det 9 _) (.head _)
    clear hF
    replace O := OwnT.ext O R
    clear R
    replace e0 := hE.eval 0 (by rfl) e0
    replace e3 := hE.eval 3 (by rfl) e3
    replace k := k.env hE
    clear hE e6
    refine then_n ?_
    refine cond_t e9 rfl ?_
    refine wp_seq ?_
    refine wp_region_lit ?_
    have hE := Env.refl a9 [4, 5]
    apply sq_det 4 hE k rfl (by rfl) (by rfl) rfl
    case h =>
      exact x_assign rfl rfl
    intro a11 hE e4 kp
    apply sq_det 5 hE k rfl (by rfl) (by rfl) rfl
    case h =>
      exact x_assign rfl rfl
    intro a12 hE e5 kp
    replace e4 := (kp 4 rfl).trans e4
    refine wpList_nil ?_
    replace k := k.env hE
    clear hE e0 e3 e9
    refine then_n ?_
    refine wp_ret ?_
    refine block_r ?_
    refine then_r ?_
    refine ret_F2 rfl k e4 e5 ?_
    exact ⟨rfl, O.below⟩
  · skip
    refine wp_seq ?_
    refine wp_typed (R := Ext) (w0 := w3) [[], [0], [0, 1], [0, 1, 2], [0, 1, 2, 3], [0, 1, 2, 3, 4], [0, 1, 2, 3], [0, 1, 2, 3], [0, 1, 2, 3, 7], [0, 1, 2, 3, 6, 7, 8], [0, 1, 2, 3, 4, 5, 6, 7, 8, 9], [0, 1, 2, 3, 4, 5, 6, 7, 8, 9, 10], [0, 1, 2, 3, 4, 5, 6, 7, 8, 9, 10, 11]] [10, 11, 12, 13, 14, 15, 16, 17, 18, 19, 20, 21, 9] Ext.refl (fun _ _ _ => Ext.trans) (Ext.drew _) (by kernel_rfl) ?_
    apply Build.det 10 Ext.refl (by rfl) (by rw [k.size]; rfl) rfl
    case h =>
      intro ax wx hE hR hF
      simp [go_sem, ↓IntWalk.iteOmega, ev (hE.eval 3 (by rfl) e3)]
      with_reducible rfl
    apply Build.det 11 Ext.refl (by rfl) (by rw [k.size]; rfl) rfl
    case h =>
      intro ax wx hE hR hF
      have e10 : ax.eval (.tmp 10) = _ := hF 0 (det 10 _) (by decide) (.head _)
      have q0 : wx.cell? ⟨sb, 1, none⟩ = some (.int .i64 x) := (OwnT.blk (OwnT.ext O hR) 0 rfl).cell 1
      simp [go_sem, ↓IntWalk.iteOmega, ev e10, q0]
      with_reducible rfl
    apply Build.det 12 Ext.refl (by rfl) (by rw [k.size]; rfl) rfl
    case h =>
      intro ax wx hE hR hF
      have e11 : ax.eval (.tmp 11) = _ := hF 1 (det 11 _) (by decide) (.head _)
      exact x_dec (x_lss rfl e11 rfl) (decide_eq_false (by omega))
    apply Build.det 13 Ext.refl (by rfl) (by rw [k.size]; rfl) rfl
    case h =>
      intro ax wx hE hR hF
      have e12 : ax.eval (.tmp 12) = _ := hF 2 (det 12 _) (by decide) (.head _)
      exact x_move rfl e12
    apply Build.detg 14 Ext.refl (by rfl) (by rw [k.size]; rfl) rfl rfl
    case h =>
      intro ax wx hE hR hF
      have e13 : ax.eval (.tmp 13) = _ := hF 3 (det 13 _) (by decide) (.head _)
      refine ⟨e13, ?_⟩
      simp [go_sem, ↓IntWalk.iteOmega, ev (hE.eval 3 (by rfl) e3)]
      with_reducible rfl
    apply Build.detg 15 Ext.refl (by rfl) (by rw [k.size]; rfl) rfl rfl
    case h =>
      intro ax wx hE hR hF
      have e14 : ax.eval (.tmp 14) = _ := hF 4 (det 14 _) (by decide) (.head _)
      have e13 : ax.eval (.tmp 13) = _ := hF 3 (det 13 _) (by decide) (.tail _ (.head _))
      refine ⟨e13, ?_⟩
      have q0 : wx.cell? ⟨sb, 1, none⟩ = some (.int .i64 x) := (OwnT.blk (OwnT.ext O hR) 0 rfl).cell 1
      simp [go_sem, ↓IntWalk.iteOmega, ev e14, q0]
      with_reducible rfl
    apply Build.detg 16 Ext.refl (by rfl) (by rw [k.size]; rfl) rfl rfl
    case h =>
      intro ax wx hE hR hF
      have e13 : ax.eval (.tmp 13) = _ := hF 3 (det 13 _) (by decide) (.tail _ (.tail _ (.head _)))
      refine ⟨e13, ?_⟩
      exact x_move rfl (hE.eval 0 (by rfl) e0)
    apply Build.detg 17 Ext.refl (by rfl) (by rw [k.size]; rfl) rfl rfl
    case h =>
      intro ax wx hE hR hF
      have e13 : ax.eval (.tmp 13) = _ := hF 3 (det 13 _) (by decide) (.tail _ (.tail _ (.tail _ (.head _))))
      refine ⟨e13, ?_⟩
      simp [go_sem, ↓IntWalk.iteOmega, ev (hE.eval 3 (by rfl) e3)]
      with_reducible rfl
    apply Build.detg 18 Ext.refl (by rfl) (by rw [k.size]; rfl) rfl rfl
    case h =>
      intro ax wx hE hR hF
      have e17 : ax.eval (.tmp 17) = _ := hF 7 (det 17 _) (by decide) (.head _)
      have e13 : ax.eval (.tmp 13) = _ := hF 3 (det 13 _) (by decide) (.tail _ (.tail _ (.tail _ (.tail _ (.head _)))))
      refine ⟨e13, ?_⟩
      have q0 : wx.cell? ⟨sb, 0, none⟩ = some (.int .i64 t) := (OwnT.blk (OwnT.ext O hR) 0 rfl).cell 0
      simp [go_sem, ↓IntWalk.iteOmega, ev e17, q0]
      with_reducible rfl
    apply Build.callg 19 Ext.refl (by rfl) (by rw [k.size]; rfl) rfl rfl
    case h =>
      intro ax wx hE hR hF
      have e16 : ax.eval (.tmp 16) = _ := hF 6 (det 16 _) (by decide) (.tail _ (.tail _ (.head _)))
      have e18 : ax.eval (.tmp 18) = _ := hF 8 (det 18 _) (by decide) (.head _)
      have e13 : ax.eval (.tmp 13) = _ := hF 3 (det 13 _) (by decide) (.tail _ (.tail _ (.tail _ (.tail _ (.tail _ (.head _))))))
      refine ⟨e13, ?_⟩
      simp [go_sem, ↓IntWalk.iteOmega, ev e16, ev e18]
      with_reducible exact ⟨rfl, rfl⟩
    case hc => intro wx hR; exact ((cslots_bad db t wx h0 h1).mono (fun e w' h => ⟨h.1, h.2 ▸ Ext.refl _⟩))
    apply Build.detg 20 Ext.refl (by rfl) (by rw [k.size]; rfl) rfl rfl
    case h =>
      intro ax wx hE hR hF
      have e15 : ax.eval (.tmp 15) = _ := hF 5 (det 15 _) (by decide) (.tail _ (.tail _ (.tail _ (.tail _ (.head _)))))
      have e19 : ax.eval (.tmp 19) = _ := hF 9 (det 19 _) (by decide) (.head _)
      have e13 : ax.eval (.tmp 13) = _ := hF 3 (det 13 _) (by decide) (.tail _ (.tail _ (.tail _ (.tail _ (.tail _ (.tail _ (.head _)))))))
      refine ⟨e13, ?_⟩
      exact x_dec (x_geq rfl e15 e19) (decide_eq_true (by omega))
    apply Build.det 21 Ext.refl (by rfl) (by rw [k.size]; rfl) rfl
    case h =>
      intro ax wx hE hR hF
      have e13 : ax.eval (.tmp 13) = _ := hF 3 (det 13 _) (by decide) (.tail _ (.tail _ (.tail _ (.tail _ (.tail _ (.tail _ (.tail _ (.head _))))))))
      have e20 : ax.eval (.tmp 20) = _ := hF 10 (det 20 _) (by decide) (.head _)
      exact x_pick_f rfl e13 e20
    apply Build.det 9 Ext.refl (by rfl) (by rw [k.size]; rfl) rfl
    case h =>
      intro ax wx hE hR hF
      have e21 : ax.eval (.tmp 21) = _ := hF 11 (det 21 _) (by decide) (.head _)
      exact x_assign rfl e21
    apply Build.stop
    refine ⟨by kernel_rfl, .inl ⟨rfl, ?_⟩⟩
    intro a13 w14 hE R hF
    have e9 : a13.eval (.tmp 9) = _ := hF 12 (det 9 _) (.head _)
    clear hF
    replace O := OwnT.ext O R
    clear R
    replace e0 := hE.eval 0 (by rfl) e0
    replace e3 := hE.eval 3 (by rfl) e3
    replace k := k.env hE
    clear hE e6
    refine then_n ?_
    refine cond_t e9 rfl ?_
    refine wp_seq ?_
    refine wp_region_lit ?_
    have hE := Env.refl a13 [4, 5]
    apply sq_det 4 hE k rfl (by rfl) (by rfl) rfl
    case h =>
      exact x_assign rfl rfl
    intro a15 hE e4 kp
    apply sq_det 5 hE k rfl (by rfl) (by rfl) rfl
    case h =>
      exact x_assign rfl rfl
    intro a16 hE e5 kp
    replace e4 := (kp 4 rfl).trans e4
    refine wpList_nil ?_
    replace k := k.env hE
    clear hE e0 e3 e9
    refine then_n ?_
    refine wp_ret ?_
    refine block_r ?_
    refine then_r ?_
    refine ret_F2 rfl k e4 e5 ?_
    exact ⟨rfl, O.below⟩
set_option maxRecDepth 100000 in
set_option maxHeartbeats 4000000 in
theorem cspot_out0 {p mb n cap bm db p2 sz : Nat} {B : Option Addr} {S : List Sec} {L : Int → Option Sec} (x : Int) (W0 : World) (h : DiscR p mb B n cap bm S L W0) (hd : Blk W0 db 149 #[.pointer (some ⟨p, 0, none⟩), .pointer (some ⟨p2, 0, none⟩), .int .i64 ↑sz]) (hs : 0 < sz) (hx : ¬ (0 ≤ x ∧ x < (slN n sz : Nat))) : Calls Try.prog 91 #[.pointer (some ⟨db, 0, none⟩), .agg #[.int .i64 0, .int .i64 x]] W0 fun e w' => e = .returned (.tuple #[.int .i64 0, .int .i64 1]) ∧ Ext W0 w' := by
  have O := OwnT.start W0
  have hb0 := O.below
  refine calls_F Try.func91 rfl 29 rfl (by rfl) ?_
  intro a1 k hargs
  have e0 : a1.eval (.tmp 0) = .pointer (some ⟨db, 0, none⟩) := hargs 0 _ rfl
  have e1 : a1.eval (.tmp 1) = .agg #[.int .i64 0, .int .i64 x] := hargs 1 _ rfl
  clear hargs
  refine wp_seq ?_
  refine wp_region_lit ?_
  have hE := Env.refl a1 [3, 4, 5]
  refine sq_new O (cs := #[.int .i64 0, .int .i64 x]) (t := 90) 3 hE k rfl (by rfl) (by rfl) rfl (by simp [go_sem, ↓IntWalk.iteOmega, ev (hE.eval 1 (by rfl) e1)]) ?_
  clear O
  intro sb a2 w3 O hE e3 kp
  apply sq_det 4 hE k rfl (by rfl) (by rfl) rfl
  case h =>
    exact x_assign rfl rfl
  intro a4 hE e4 kp
  replace e3 := (kp 3 rfl).trans e3
  apply sq_det 5 hE k rfl (by rfl) (by rfl) rfl
  case h =>
    exact x_assign rfl rfl
  intro a5 hE e5 kp
  replace e3 := (kp 3 rfl).trans e3
  refine wpList_nil ?_
  replace e0 := hE.eval 0 (by rfl) e0
  replace k := k.env hE
  clear hE e1 e5
  refine then_n ?_
  refine wp_seq ?_
  refine wp_block ?_
  refine wp_seq ?_
  refine wp_region_lit ?_
  have hE := Env.refl a5 [7, 8, 6]
  apply sq_det 7 hE k rfl (by rfl) (by rfl) rfl
  case h =>
    exact x_move rfl (hE.eval 0 (by rfl) e0)
  intro a6 hE e7 kp
  apply sq_det 8 hE k rfl (by rfl) (by rfl) rfl
  case h =>
    simp [go_sem, ↓IntWalk.iteOmega, ev e7]
    with_reducible rfl
  intro a7 hE e8 kp
  apply sq_det 6 hE k rfl (by rfl) (by rfl) rfl
  case h =>
    exact x_assign rfl e8
  intro a8 hE e6 kp
  refine wpList_nil ?_
  replace e0 := hE.eval 0 (by rfl) e0
  replace e3 := hE.eval 3 (by rfl) e3
  replace k := k.env hE
  clear hE
  refine then_n ?_
  refine cond_f e6 rfl ?_
  by_cases hx0 : x < 0
  · skip
    refine wp_seq ?_
    refine wp_typed (R := Ext) (w0 := w3) [[], [0], [0, 1], [0, 1, 2], [0, 1, 2, 3], [0, 1, 2, 3, 4], [0, 1, 2, 3], [0, 1, 2, 3], [0, 1, 2, 3, 7], [0, 1, 2, 3, 6, 7, 8], [0, 1, 2, 3, 4, 5, 6, 7, 8, 9], [0, 1, 2, 3, 4, 5, 6, 7, 8, 9, 10], [0, 1, 2, 3, 4, 5, 6, 7, 8, 9, 10, 11]] [10, 11, 12, 13, 14, 15, 16, 17, 18, 19, 20, 21, 9] Ext.refl (fun _ _ _ => Ext.trans) (Ext.drew _) (by kernel_rfl) ?_
    apply Build.det 10 Ext.refl (by rfl) (by rw [k.size]; rfl) rfl
    case h =>
      intro ax wx hE hR hF
      simp [go_sem, ↓IntWalk.iteOmega, ev (hE.eval 3 (by rfl) e3)]
      with_reducible rfl
    apply Build.det 11 Ext.refl (by rfl) (by rw [k.size]; rfl) rfl
    case h =>
      intro ax wx hE hR hF
      have e10 : ax.eval (.tmp 10) = _ := hF 0 (det 10 _) (by decide) (.head _)
      have q0 : wx.cell? ⟨sb, 1, none⟩ = some (.int .i64 x) := (OwnT.blk (OwnT.ext O hR) 0 rfl).cell 1
      simp [go_sem, ↓IntWalk.iteOmega, ev e10, q0]
      with_reducible rfl
    apply Build.det 12 Ext.refl (by rfl) (by rw [k.size]; rfl) rfl
    case h =>
      intro ax wx hE hR hF
      have e11 : ax.eval (.tmp 11) = _ := hF 1 (det 11 _) (by decide) (.head _)
      exact x_dec (x_lss rfl e11 rfl) (decide_eq_true (by omega))
    apply Build.det 13 Ext.refl (by rfl) (by rw [k.size]; rfl) rfl
    case h =>
      intro ax wx hE hR hF
      have e12 : ax.eval (.tmp 12) = _ := hF 2 (det 12 _) (by decide) (.head _)
      exact x_move rfl e12
    refine Build.skip 14 (by rfl) (by rw [k.size]; rfl) rfl rfl ?_ ?_
    · intro ax wx hE hR hF
      have e13 : ax.eval (.tmp 13) = _ := hF 3 (det 13 _) (by decide) (.head _)
      exact e13
    refine Build.skip 15 (by rfl) (by rw [k.size]; rfl) rfl rfl ?_ ?_
    · intro ax wx hE hR hF
      have e13 : ax.eval (.tmp 13) = _ := hF 3 (det 13 _) (by decide) (.tail _ (.head _))
      exact e13
    refine Build.skip 16 (by rfl) (by rw [k.size]; rfl) rfl rfl ?_ ?_
    · intro ax wx hE hR hF
      have e13 : ax.eval (.tmp 13) = _ := hF 3 (det 13 _) (by decide) (.tail _ (.tail _ (.head _)))
      exact e13
    refine Build.skip 17 (by rfl) (by rw [k.size]; rfl) rfl rfl ?_ ?_
    · intro ax wx hE hR hF
      have e13 : ax.eval (.tmp 13) = _ := hF 3 (det 13 _) (by decide) (.tail _ (.tail _ (.tail _ (.head _))))
      exact e13
    refine Build.skip 18 (by rfl) (by rw [k.size]; rfl) rfl rfl ?_ ?_
    · intro ax wx hE hR hF
      have e13 : ax.eval (.tmp 13) = _ := hF 3 (det 13 _) (by decide) (.tail _ (.tail _ (.tail _ (.tail _ (.head _)))))
      exact e13
    refine Build.skip 19 (by rfl) (by rw [k.size]; rfl) rfl rfl ?_ ?_
    · intro ax wx hE hR hF
      have e13 : ax.eval (.tmp 13) = _ := hF 3 (det 13 _) (by decide) (.tail _ (.tail _ (.tail _ (.tail _ (.tail _ (.head _))))))
      exact e13
    refine Build.skip 20 (by rfl) (by rw [k.size]; rfl) rfl rfl ?_ ?_
    · intro ax wx hE hR hF
      have e13 : ax.eval (.tmp 13) = _ := hF 3 (det 13 _) (by decide) (.tail _ (.tail _ (.tail _ (.tail _ (.tail _ (.tail _ (.head _)))))))
      exact e13
    apply Build.det 21 Ext.refl (by rfl) (by rw [k.size]; rfl) rfl
    case h =>
      intro ax wx hE hR hF
      have e13 : ax.eval (.tmp 13) = _ := hF 3 (det 13 _) (by decide) (.tail _ (.tail _ (.tail _ (.tail _ (.tail _ (.tail _ (.tail _ (.head _))))))))
      have e20 : ax.eval (.tmp 20) = _ := hF 10 (det 20 _) (by decide) (.head _)
      exact x_pick_t rfl e13 rfl
    apply Build.det 9 Ext.refl (by rfl) (by rw [k.size]; rfl) rfl
    case h =>
      intro ax wx hE hR hF
      have e21 : ax.eval (.tmp 21) = _ := hF 11 (det 21 _) (by decide) (.head _)
      exact x_assign rfl e21
    apply Build.stop
    refine ⟨by kernel_rfl, .inl ⟨rfl, ?_⟩⟩
    intro a9 w10 hE R hF
    have e9 : a9.eval (.tmp 9) = _ := hF 12 (det 9 _) (.head _)
    clear hF
    replace O := OwnT.ext O R
    clear R
    replace e0 := hE.eval 0 (by rfl) e0
    replace e3 := hE.eval 3 (by rfl) e3
    replace k := k.env hE
    clear hE e6
    refine then_n ?_
    refine cond_t e9 rfl ?_
    refine wp_seq ?_
    refine wp_region_lit ?_
    have hE := Env.refl a9 [4, 5]
    apply sq_det 4 hE k rfl (by rfl) (by rfl) rfl
    case h =>
      exact x_assign rfl rfl
    intro a11 hE e4 kp
    apply sq_det 5 hE k rfl (by rfl) (by rfl) rfl
    case h =>
      exact x_assign rfl rfl
    intro a12 hE e5 kp
    replace e4 := (kp 4 rfl).trans e4
    refine wpList_nil ?_
    replace k := k.env hE
    clear hE e0 e3 e9
    refine then_n ?_
    refine wp_ret ?_
    refine block_r ?_
    refine then_r ?_
    refine ret_F2 rfl k e4 e5 ?_
    exact ⟨rfl, O.below⟩
  · skip
    refine wp_seq ?_
    refine wp_typed (R := Ext) (w0 := w3) [[], [0], [0, 1], [0, 1, 2], [0, 1, 2, 3], [0, 1, 2, 3, 4], [0, 1, 2, 3], [0, 1, 2, 3], [0, 1, 2, 3, 7], [0, 1, 2, 3, 6, 7, 8], [0, 1, 2, 3, 4, 5, 6, 7, 8, 9], [0, 1, 2, 3, 4, 5, 6, 7, 8, 9, 10], [0, 1, 2, 3, 4, 5, 6, 7, 8, 9, 10, 11]] [10, 11, 12, 13, 14, 15, 16, 17, 18, 19, 20, 21, 9] Ext.refl (fun _ _ _ => Ext.trans) (Ext.drew _) (by kernel_rfl) ?_
    apply Build.det 10 Ext.refl (by rfl) (by rw [k.size]; rfl) rfl
    case h =>
      intro ax wx hE hR hF
      simp [go_sem, ↓IntWalk.iteOmega, ev (hE.eval 3 (by rfl) e3)]
      with_reducible rfl
    apply Build.det 11 Ext.refl (by rfl) (by rw [k.size]; rfl) rfl
    case h =>
      intro ax wx hE hR hF
      have e10 : ax.eval (.tmp 10) = _ := hF 0 (det 10 _) (by decide) (.head _)
      have q0 : wx.cell? ⟨sb, 1, none⟩ = some (.int .i64 x) := (OwnT.blk (OwnT.ext O hR) 0 rfl).cell 1
      simp [go_sem, ↓IntWalk.iteOmega, ev e10, q0]
      with_reducible rfl
    apply Build.det 12 Ext.refl (by rfl) (by rw [k.size]; rfl) rfl
    case h =>
      intro ax wx hE hR hF
      have e11 : ax.eval (.tmp 11) = _ := hF 1 (det 11 _) (by decide) (.head _)
      exact x_dec (x_lss rfl e11 rfl) (decide_eq_false (by omega))
    apply Build.det 13 Ext.refl (by rfl) (by rw [k.size]; rfl) rfl
    case h =>
      intro ax wx hE hR hF
      have e12 : ax.eval (.tmp 12) = _ := hF 2 (det 12 _) (by decide) (.head _)
      exact x_move rfl e12
    apply Build.detg 14 Ext.refl (by rfl) (by rw [k.size]; rfl) rfl rfl
    case h =>
      intro ax wx hE hR hF
      have e13 : ax.eval (.tmp 13) = _ := hF 3 (det 13 _) (by decide) (.head _)
      refine ⟨e13, ?_⟩
      simp [go_sem, ↓IntWalk.iteOmega, ev (hE.eval 3 (by rfl) e3)]
      with_reducible rfl
    apply Build.detg 15 Ext.refl (by rfl) (by rw [k.size]; rfl) rfl rfl
    case h =>
      intro ax wx hE hR hF
      have e14 : ax.eval (.tmp 14) = _ := hF 4 (det 14 _) (by decide) (.head _)
      have e13 : ax.eval (.tmp 13) = _ := hF 3 (det 13 _) (by decide) (.tail _ (.head _))
      refine ⟨e13, ?_⟩
      have q0 : wx.cell? ⟨sb, 1, none⟩ = some (.int .i64 x) := (OwnT.blk (OwnT.ext O hR) 0 rfl).cell 1
      simp [go_sem, ↓IntWalk.iteOmega, ev e14, q0]
      with_reducible rfl
    apply Build.detg 16 Ext.refl (by rfl) (by rw [k.size]; rfl) rfl rfl
    case h =>
      intro ax wx hE hR hF
      have e13 : ax.eval (.tmp 13) = _ := hF 3 (det 13 _) (by decide) (.tail _ (.tail _ (.head _)))
      refine ⟨e13, ?_⟩
      exact x_move rfl (hE.eval 0 (by rfl) e0)
    apply Build.detg 17 Ext.refl (by rfl) (by rw [k.size]; rfl) rfl rfl
    case h =>
      intro ax wx hE hR hF
      have e13 : ax.eval (.tmp 13) = _ := hF 3 (det 13 _) (by decide) (.tail _ (.tail _ (.tail _ (.head _))))
      refine ⟨e13, ?_⟩
      simp [go_sem, ↓IntWalk.iteOmega, ev (hE.eval 3 (by rfl) e3)]
      with_reducible rfl
    apply Build.detg 18 Ext.refl (by rfl) (by rw [k.size]; rfl) rfl rfl
    case h =>
      intro ax wx hE hR hF
      have e17 : ax.eval (.tmp 17) = _ := hF 7 (det 17 _) (by decide) (.head _)
      have e13 : ax.eval (.tmp 13) = _ := hF 3 (det 13 _) (by decide) (.tail _ (.tail _ (.tail _ (.tail _ (.head _)))))
      refine ⟨e13, ?_⟩
      have q0 : wx.cell? ⟨sb, 0, none⟩ = some (.int .i64 0) := (OwnT.blk (OwnT.ext O hR) 0 rfl).cell 0
      simp [go_sem, ↓IntWalk.iteOmega, ev e17, q0]
      with_reducible rfl
    apply Build.callg 19 Ext.refl (by rfl) (by rw [k.size]; rfl) rfl rfl
    case h =>
      intro ax wx hE hR hF
      have e16 : ax.eval (.tmp 16) = _ := hF 6 (det 16 _) (by decide) (.tail _ (.tail _ (.head _)))
      have e18 : ax.eval (.tmp 18) = _ := hF 8 (det 18 _) (by decide) (.head _)
      have e13 : ax.eval (.tmp 13) = _ := hF 3 (det 13 _) (by decide) (.tail _ (.tail _ (.tail _ (.tail _ (.tail _ (.head _))))))
      refine ⟨e13, ?_⟩
      simp [go_sem, ↓IntWalk.iteOmega, ev e16, ev e18]
      with_reducible exact ⟨rfl, rfl⟩
    case hc => intro wx hR; exact (cslots_0 wx (h.ext (OwnT.ext O hR).below) (hd.ext (OwnT.ext O hR).below) hs)
    apply Build.detg 20 Ext.refl (by rfl) (by rw [k.size]; rfl) rfl rfl
    case h =>
      intro ax wx hE hR hF
      have e15 : ax.eval (.tmp 15) = _ := hF 5 (det 15 _) (by decide) (.tail _ (.tail _ (.tail _ (.tail _ (.head _)))))
      have e19 : ax.eval (.tmp 19) = _ := hF 9 (det 19 _) (by decide) (.head _)
      have e13 : ax.eval (.tmp 13) = _ := hF 3 (det 13 _) (by decide) (.tail _ (.tail _ (.tail _ (.tail _ (.tail _ (.tail _ (.head _)))))))
      refine ⟨e13, ?_⟩
      exact x_dec (x_geq rfl e15 e19) (decide_eq_true (by omega))
    apply Build.det 21 Ext.refl (by rfl) (by rw [k.size]; rfl) rfl
    case h =>
      intro ax wx hE hR hF
      have e13 : ax.eval (.tmp 13) = _ := hF 3 (det 13 _) (by decide) (.tail _ (.tail _ (.tail _ (.tail _ (.tail _ (.tail _ (.tail _ (.head _))))))))
      have e20 : ax.eval (.tmp 20) = _ := hF 10 (det 20 _) (by decide) (.head _)
      exact x_pick_f rfl e13 e20
    apply Build.det 9 Ext.refl (by rfl) (by rw [k.size]; rfl) rfl
    case h =>
      intro ax wx hE hR hF
      have e21 : ax.eval (.tmp 21) = _ := hF 11 (det 21 _) (by decide) (.head _)
      exact x_assign rfl e21
    apply Build.stop
    refine ⟨by kernel_rfl, .inl ⟨rfl, ?_⟩⟩
    intro a13 w14 hE R hF
    have e9 : a13.eval (.tmp 9) = _ := hF 12 (det 9 _) (.head _)
    clear hF
    replace O := OwnT.ext O R
    clear R
    replace e0 := hE.eval 0 (by rfl) e0
    replace e3 := hE.eval 3 (by rfl) e3
    replace k := k.env hE
    clear hE e6
    refine then_n ?_
    refine cond_t e9 rfl ?_
    refine wp_seq ?_
    refine wp_region_lit ?_
    have hE := Env.refl a13 [4, 5]
    apply sq_det 4 hE k rfl (by rfl) (by rfl) rfl
    case h =>
      exact x_assign rfl rfl
    intro a15 hE e4 kp
    apply sq_det 5 hE k rfl (by rfl) (by rfl) rfl
    case h =>
      exact x_assign rfl rfl
    intro a16 hE e5 kp
    replace e4 := (kp 4 rfl).trans e4
    refine wpList_nil ?_
    replace k := k.env hE
    clear hE e0 e3 e9
    refine then_n ?_
    refine wp_ret ?_
    refine block_r ?_
    refine then_r ?_
    refine ret_F2 rfl k e4 e5 ?_
    exact ⟨rfl, O.below⟩
set_option maxRecDepth 100000 in
set_option maxHeartbeats 4000000 in
theorem cspot_in0 {p mb n cap bm db p2 sz : Nat} {B : Option Addr} {S : List Sec} {L : Int → Option Sec} (x : Nat) (W0 : World) (h : DiscR p mb B n cap bm S L W0) (hd : Blk W0 db 149 #[.pointer (some ⟨p, 0, none⟩), .pointer (some ⟨p2, 0, none⟩), .int .i64 ↑sz]) (hs : 0 < sz) (hx : x < slN n sz) : Calls Try.prog 91 #[.pointer (some ⟨db, 0, none⟩), .agg #[.int .i64 0, .int .i64 x]] W0 fun e w' => e = .returned (.tuple #[.int .i64 (((x * sz : Nat) : Int)), .int .i64 0]) ∧ Ext W0 w' := by
  have O := OwnT.start W0
  have hn := h.ok.le
  have hle := slN_le hx hs
  have hd2 : W0.cell? ⟨db, 2, none⟩ = some (.int .i64 sz) := hd.cell 2
  refine calls_F Try.func91 rfl 29 rfl (by rfl) ?_
  intro a1 k hargs
  have e0 : a1.eval (.tmp 0) = .pointer (some ⟨db, 0, none⟩) := hargs 0 _ rfl
  have e1 : a1.eval (.tmp 1) = .agg #[.int .i64 0, .int .i64 ↑x] := hargs 1 _ rfl
  clear hargs
  refine wp_seq ?_
  refine wp_region_lit ?_
  have hE := Env.refl a1 [3, 4, 5]
  refine sq_new O (cs := #[.int .i64 0, .int .i64 ↑x]) (t := 90) 3 hE k rfl (by rfl) (by rfl) rfl (by simp [go_sem, ↓IntWalk.iteOmega, ev (hE.eval 1 (by rfl) e1)]) ?_
  clear O
  intro sb a2 w3 O hE e3 kp
  apply sq_det 4 hE k rfl (by rfl) (by rfl) rfl
  case h =>
    exact x_assign rfl rfl
  intro a4 hE e4 kp
  replace e3 := (kp 3 rfl).trans e3
  apply sq_det 5 hE k rfl (by rfl) (by rfl) rfl
  case h =>
    exact x_assign rfl rfl
  intro a5 hE e5 kp
  replace e3 := (kp 3 rfl).trans e3
  refine wpList_nil ?_
  replace e0 := hE.eval 0 (by rfl) e0
  replace k := k.env hE
  clear hE e1 e5
  refine then_n ?_
  refine wp_seq ?_
  refine wp_block ?_
  refine wp_seq ?_
  refine wp_region_lit ?_
  have hE := Env.refl a5 [7, 8, 6]
  apply sq_det 7 hE k rfl (by rfl) (by rfl) rfl
  case h =>
    exact x_move rfl (hE.eval 0 (by rfl) e0)
  intro a6 hE e7 kp
  apply sq_det 8 hE k rfl (by rfl) (by rfl) rfl
  case h =>
    simp [go_sem, ↓IntWalk.iteOmega, ev e7]
    with_reducible rfl
  intro a7 hE e8 kp
  apply sq_det 6 hE k rfl (by rfl) (by rfl) rfl
  case h =>
    exact x_assign rfl e8
  intro a8 hE e6 kp
  refine wpList_nil ?_
  replace e0 := hE.eval 0 (by rfl) e0
  replace e3 := hE.eval 3 (by rfl) e3
  replace k := k.env hE
  clear hE
  refine then_n ?_
  refine cond_f e6 rfl ?_
  refine wp_seq ?_
  refine wp_typed (R := Ext) (w0 := w3) [[], [0], [0, 1], [0, 1, 2], [0, 1, 2, 3], [0, 1, 2, 3, 4], [0, 1, 2, 3], [0, 1, 2, 3], [0, 1, 2, 3, 7], [0, 1, 2, 3, 6, 7, 8], [0, 1, 2, 3, 4, 5, 6, 7, 8, 9], [0, 1, 2, 3, 4, 5, 6, 7, 8, 9, 10], [0, 1, 2, 3, 4, 5, 6, 7, 8, 9, 10, 11]] [10, 11, 12, 13, 14, 15, 16, 17, 18, 19, 20, 21, 9] Ext.refl (fun _ _ _ => Ext.trans) (Ext.drew _) (by kernel_rfl) ?_
  apply Build.det 10 Ext.refl (by rfl) (by rw [k.size]; rfl) rfl
  case h =>
    intro ax wx hE hR hF
    simp [go_sem, ↓IntWalk.iteOmega, ev (hE.eval 3 (by rfl) e3)]
    with_reducible rfl
  apply Build.det 11 Ext.refl (by rfl) (by rw [k.size]; rfl) rfl
  case h =>
    intro ax wx hE hR hF
    have e10 : ax.eval (.tmp 10) = _ := hF 0 (det 10 _) (by decide) (.head _)
    have q0 : wx.cell? ⟨sb, 1, none⟩ = some (.int .i64 ↑x) := (OwnT.blk (OwnT.ext O hR) 0 rfl).cell 1
    simp [go_sem, ↓IntWalk.iteOmega, ev e10, q0]
    with_reducible rfl
  apply Build.det 12 Ext.refl (by rfl) (by rw [k.size]; rfl) rfl
  case h =>
    intro ax wx hE hR hF
    have e11 : ax.eval (.tmp 11) = _ := hF 1 (det 11 _) (by decide) (.head _)
    exact x_dec (x_lss rfl e11 rfl) (decide_eq_false (by omega))
  apply Build.det 13 Ext.refl (by rfl) (by rw [k.size]; rfl) rfl
  case h =>
    intro ax wx hE hR hF
    have e12 : ax.eval (.tmp 12) = _ := hF 2 (det 12 _) (by decide) (.head _)
    exact x_move rfl e12
  apply Build.detg 14 Ext.refl (by rfl) (by rw [k.size]; rfl) rfl rfl
  case h =>
    intro ax wx hE hR hF
    have e13 : ax.eval (.tmp 13) = _ := hF 3 (det 13 _) (by decide) (.head _)
    refine ⟨e13, ?_⟩
    simp [go_sem, ↓IntWalk.iteOmega, ev (hE.eval 3 (by rfl) e3)]
    with_reducible rfl
  apply Build.detg 15 Ext.refl (by rfl) (by rw [k.size]; rfl) rfl rfl
  case h =>
    intro ax wx hE hR hF
    have e14 : ax.eval (.tmp 14) = _ := hF 4 (det 14 _) (by decide) (.head _)
    have e13 : ax.eval (.tmp 13) = _ := hF 3 (det 13 _) (by decide) (.tail _ (.head _))
    refine ⟨e13, ?_⟩
    have q0 : wx.cell? ⟨sb, 1, none⟩ = some (.int .i64 ↑x) := (OwnT.blk (OwnT.ext O hR) 0 rfl).cell 1
    simp [go_sem, ↓IntWalk.iteOmega, ev e14, q0]
    with_reducible rfl
  apply Build.detg 16 Ext.refl (by rfl) (by rw [k.size]; rfl) rfl rfl
  case h =>
    intro ax wx hE hR hF
    have e13 : ax.eval (.tmp 13) = _ := hF 3 (det 13 _) (by decide) (.tail _ (.tail _ (.head _)))
    refine ⟨e13, ?_⟩
    exact x_move rfl (hE.eval 0 (by rfl) e0)
  apply Build.detg 17 Ext.refl (by rfl) (by rw [k.size]; rfl) rfl rfl
  case h =>
    intro ax wx hE hR hF
    have e13 : ax.eval (.tmp 13) = _ := hF 3 (det 13 _) (by decide) (.tail _ (.tail _ (.tail _ (.head _))))
    refine ⟨e13, ?_⟩
    simp [go_sem, ↓IntWalk.iteOmega, ev (hE.eval 3 (by rfl) e3)]
    with_reducible rfl
  apply Build.detg 18 Ext.refl (by rfl) (by rw [k.size]; rfl) rfl rfl
  case h =>
    intro ax wx hE hR hF
    have e17 : ax.eval (.tmp 17) = _ := hF 7 (det 17 _) (by decide) (.head _)
    have e13 : ax.eval (.tmp 13) = _ := hF 3 (det 13 _) (by decide) (.tail _ (.tail _ (.tail _ (.tail _ (.head _)))))
    refine ⟨e13, ?_⟩
    have q0 : wx.cell? ⟨sb, 0, none⟩ = some (.int .i64 0) := (OwnT.blk (OwnT.ext O hR) 0 rfl).cell 0
    simp [go_sem, ↓IntWalk.iteOmega, ev e17, q0]
    with_reducible rfl
  apply Build.callg 19 Ext.refl (by rfl) (by rw [k.size]; rfl) rfl rfl
  case h =>
    intro ax wx hE hR hF
    have e16 : ax.eval (.tmp 16) = _ := hF 6 (det 16 _) (by decide) (.tail _ (.tail _ (.head _)))
    have e18 : ax.eval (.tmp 18) = _ := hF 8 (det 18 _) (by decide) (.head _)
    have e13 : ax.eval (.tmp 13) = _ := hF 3 (det 13 _) (by decide) (.tail _ (.tail _ (.tail _ (.tail _ (.tail _ (.head _))))))
    refine ⟨e13, ?_⟩
    simp [go_sem, ↓IntWalk.iteOmega, ev e16, ev e18]
    with_reducible exact ⟨rfl, rfl⟩
  case hc => intro wx hR; exact (cslots_0 wx (h.ext (OwnT.ext O hR).below) (hd.ext (OwnT.ext O hR).below) hs)
  apply Build.detg 20 Ext.refl (by rfl) (by rw [k.size]; rfl) rfl rfl
  case h =>
    intro ax wx hE hR hF
    have e15 : ax.eval (.tmp 15) = _ := hF 5 (det 15 _) (by decide) (.tail _ (.tail _ (.tail _ (.tail _ (.head _)))))
    have e19 : ax.eval (.tmp 19) = _ := hF 9 (det 19 _) (by decide) (.head _)
    have e13 : ax.eval (.tmp 13) = _ := hF 3 (det 13 _) (by decide) (.tail _ (.tail _ (.tail _ (.tail _ (.tail _ (.tail _ (.head _)))))))
    refine ⟨e13, ?_⟩
    exact x_dec (x_geq rfl e15 e19) (decide_eq_false (by omega))
  apply Build.det 21 Ext.refl (by rfl) (by rw [k.size]; rfl) rfl
  case h =>
    intro ax wx hE hR hF
    have e13 : ax.eval (.tmp 13) = _ := hF 3 (det 13 _) (by decide) (.tail _ (.tail _ (.tail _ (.tail _ (.tail _ (.tail _ (.tail _ (.head _))))))))
    have e20 : ax.eval (.tmp 20) = _ := hF 10 (det 20 _) (by decide) (.head _)
    exact x_pick_f rfl e13 e20
  apply Build.det 9 Ext.refl (by rfl) (by rw [k.size]; rfl) rfl
  case h =>
    intro ax wx hE hR hF
    have e21 : ax.eval (.tmp 21) = _ := hF 11 (det 21 _) (by decide) (.head _)
    exact x_assign rfl e21
  apply Build.stop
  refine ⟨by kernel_rfl, .inl ⟨rfl, ?_⟩⟩
  intro a9 w10 hE R hF
  have e9 : a9.eval (.tmp 9) = _ := hF 12 (det 9 _) (.head _)
  clear hF
  replace O := OwnT.ext O R
  clear R
  replace e0 := hE.eval 0 (by rfl) e0
  replace e3 := hE.eval 3 (by rfl) e3
  replace k := k.env hE
  clear hE e6
  refine then_n ?_
  refine cond_f e9 rfl ?_
  refine wp_skip ?_
  refine block_n ?_
  refine then_n ?_
  refine wp_seq ?_
  refine wp_typed (R := Ext) (w0 := w10) [[], [0], [], [2], [2, 3], [2, 3, 4], [0, 1, 2, 3, 4, 5], [0, 1, 2, 3, 4, 5, 6], [0, 1, 2, 3, 4, 5, 6, 7]] [22, 23, 24, 25, 26, 27, 28, 4, 5] Ext.refl (fun _ _ _ => Ext.trans) (Ext.drew _) (by kernel_rfl) ?_
  apply Build.det 22 Ext.refl (by rfl) (by rw [k.size]; rfl) rfl
  case h =>
    intro ax wx hE hR hF
    simp [go_sem, ↓IntWalk.iteOmega, ev (hE.eval 3 (by rfl) e3)]
    with_reducible rfl
  apply Build.det 23 Ext.refl (by rfl) (by rw [k.size]; rfl) rfl
  case h =>
    intro ax wx hE hR hF
    have e22 : ax.eval (.tmp 22) = _ := hF 0 (det 22 _) (by decide) (.head _)
    have q0 : wx.cell? ⟨sb, 1, none⟩ = some (.int .i64 ↑x) := (OwnT.blk (OwnT.ext O hR) 0 rfl).cell 1
    simp [go_sem, ↓IntWalk.iteOmega, ev e22, q0]
    with_reducible rfl
  apply Build.det 24 Ext.refl (by rfl) (by rw [k.size]; rfl) rfl
  case h =>
    intro ax wx hE hR hF
    exact x_move rfl (hE.eval 0 (by rfl) e0)
  apply Build.det 25 Ext.refl (by rfl) (by rw [k.size]; rfl) rfl
  case h =>
    intro ax wx hE hR hF
    have e24 : ax.eval (.tmp 24) = _ := hF 2 (det 24 _) (by decide) (.head _)
    exact x_nil rfl e24
  apply Build.det 26 Ext.refl (by rfl) (by rw [k.size]; rfl) rfl
  case h =>
    intro ax wx hE hR hF
    have e25 : ax.eval (.tmp 25) = _ := hF 3 (det 25 _) (by decide) (.head _)
    simp [go_sem, ↓IntWalk.iteOmega, ev e25]
    with_reducible rfl
  apply Build.det 27 Ext.refl (by rfl) (by rw [k.size]; rfl) rfl
  case h =>
    intro ax wx hE hR hF
    have e26 : ax.eval (.tmp 26) = _ := hF 4 (det 26 _) (by decide) (.head _)
    have d2' : wx.cell? ⟨db, 2, none⟩ = some (.int .i64 sz) := (hd.ext (OwnT.ext O hR).below).cell 2
    simp [go_sem, ↓IntWalk.iteOmega, ev e26, d2']
    with_reducible rfl
  apply Build.det 28 Ext.refl (by rfl) (by rw [k.size]; rfl) rfl
  case h =>
    intro ax wx hE hR hF
    have e23 : ax.eval (.tmp 23) = _ := hF 1 (det 23 _) (by decide) (.tail _ (.tail _ (.tail _ (.tail _ (.head _)))))
    have e27 : ax.eval (.tmp 27) = _ := hF 5 (det 27 _) (by decide) (.head _)
    exact x_val (v := .int .i64 ((x * sz : Nat) : Int)) (x_mul rfl e23 e27 (by rw [← Int.natCast_mul]; omega)) (int_eq (Int.natCast_mul x sz).symm)
  apply Build.det 4 Ext.refl (by rfl) (by rw [k.size]; rfl) rfl
  case h =>
    intro ax wx hE hR hF
    have e28 : ax.eval (.tmp 28) = _ := hF 6 (det 28 _) (by decide) (.head _)
    exact x_assign rfl e28
  apply Build.det 5 Ext.refl (by rfl) (by rw [k.size]; rfl) rfl
  case h =>
    intro ax wx hE hR hF
    exact x_assign rfl rfl
  apply Build.stop
  refine ⟨by kernel_rfl, .inl ⟨rfl, ?_⟩⟩
  intro a11 w12 hE R hF
  have e4 : a11.eval (.tmp 4) = _ := hF 7 (det 4 _) (.tail _ (.head _))
  have e5 : a11.eval (.tmp 5) = _ := hF 8 (det 5 _) (.head _)
  clear hF
  replace O := OwnT.ext O R
  clear R
  replace k := k.env hE
  clear hE e0 e3 e9
  refine then_n ?_
  refine wp_ret ?_
  refine ret_F2 rfl k e4 e5 ?_
  exact ⟨rfl, O.below⟩
set_option maxRecDepth 100000 in
set_option maxHeartbeats 4000000 in
theorem cspot_out1 {p mb n cap bm db p2 sz : Nat} {B : Option Addr} {S : List Sec} {L : Int → Option Sec} (x : Int) (W0 : World) (h : DiscR p mb B n cap bm S L W0) (hd : Blk W0 db 149 #[.pointer (some ⟨p2, 0, none⟩), .pointer (some ⟨p, 0, none⟩), .int .i64 ↑sz]) (hs : 0 < sz) (hx : ¬ (0 ≤ x ∧ x < (slN n sz : Nat))) : Calls Try.prog 91 #[.pointer (some ⟨db, 0, none⟩), .agg #[.int .i64 1, .int .i64 x]] W0 fun e w' => e = .returned (.tuple #[.int .i64 0, .int .i64 1]) ∧ Ext W0 w' := by
  have O := OwnT.start W0
  have hb0 := O.below
  refine calls_F Try.func91 rfl 29 rfl (by rfl) ?_
  intro a1 k hargs
  have e0 : a1.eval (.tmp 0) = .pointer (some ⟨db, 0, none⟩) := hargs 0 _ rfl
  have e1 : a1.eval (.tmp 1) = .agg #[.int .i64 1, .int .i64 x] := hargs 1 _ rfl
  clear hargs
  refine wp_seq ?_
  refine wp_region_lit ?_
  have hE := Env.refl a1 [3, 4, 5]
  refine sq_new O (cs := #[.int .i64 1, .int .i64 x]) (t := 90) 3 hE k rfl (by rfl) (by rfl) rfl (by simp [go_sem, ↓IntWalk.iteOmega, ev (hE.eval 1 (by rfl) e1)]) ?_
  clear O
  intro sb a2 w3 O hE e3 kp
  apply sq_det 4 hE k rfl (by rfl) (by rfl) rfl
  case h =>
    exact x_assign rfl rfl
  intro a4 hE e4 kp
  replace e3 := (kp 3 rfl).trans e3
  apply sq_det 5 hE k rfl (by rfl) (by rfl) rfl
  case h =>
    exact x_assign rfl rfl
  intro a5 hE e5 kp
  replace e3 := (kp 3 rfl).trans e3
  refine wpList_nil ?_
  replace e0 := hE.eval 0 (by rfl) e0
  replace k := k.env hE
  clear hE e1 e5
  refine then_n ?_
  refine wp_seq ?_
  refine wp_block ?_
  refine wp_seq ?_
  refine wp_region_lit ?_
  have hE := Env.refl a5 [7, 8, 6]
  apply sq_det 7 hE k rfl (by rfl) (by rfl) rfl
  case h =>
    exact x_move rfl (hE.eval 0 (by rfl) e0)
  intro a6 hE e7 kp
  apply sq_det 8 hE k rfl (by rfl) (by rfl) rfl
  case h =>
    simp [go_sem, ↓IntWalk.iteOmega, ev e7]
    with_reducible rfl
  intro a7 hE e8 kp
  apply sq_det 6 hE k rfl (by rfl) (by rfl) rfl
  case h =>
    exact x_assign rfl e8
  intro a8 hE e6 kp
  refine wpList_nil ?_
  replace e0 := hE.eval 0 (by rfl) e0
  replace e3 := hE.eval 3 (by rfl) e3
  replace k := k.env hE
  clear hE
  refine then_n ?_
  refine cond_f e6 rfl ?_
  by_cases hx0 : x < 0
  · skip
    refine wp_seq ?_
    refine wp_typed (R := Ext) (w0 := w3) [[], [0], [0, 1], [0, 1, 2], [0, 1, 2, 3], [0, 1, 2, 3, 4], [0, 1, 2, 3], [0, 1, 2, 3], [0, 1, 2, 3, 7], [0, 1, 2, 3, 6, 7, 8], [0, 1, 2, 3, 4, 5, 6, 7, 8, 9], [0, 1, 2, 3, 4, 5, 6, 7, 8, 9, 10], [0, 1, 2, 3, 4, 5, 6, 7, 8, 9, 10, 11]] [10, 11, 12, 13, 14, 15, 16, 17, 18, 19, 20, 21, 9] Ext.refl (fun _ _ _ => Ext.trans) (Ext.drew _) (by kernel_rfl) ?_
    apply Build.det 10 Ext.refl (by rfl) (by rw [k.size]; rfl) rfl
    case h =>
      intro ax wx hE hR hF
      simp [go_sem, ↓IntWalk.iteOmega, ev (hE.eval 3 (by rfl) e3)]
      with_reducible rfl
    apply Build.det 11 Ext.refl (by rfl) (by rw [k.size]; rfl) rfl
    case h =>
      intro ax wx hE hR hF
      have e10 : ax.eval (.tmp 10) = _ := hF 0 (det 10 _) (by decide) (.head _)
      have q0 : wx.cell? ⟨sb, 1, none⟩ = some (.int .i64 x) := (OwnT.blk (OwnT.ext O hR) 0 rfl).cell 1
      simp [go_sem, ↓IntWalk.iteOmega, ev e10, q0]
      with_reducible rfl
    apply Build.det 12 Ext.refl (by rfl) (by rw [k.size]; rfl) rfl
    case h =>
      intro ax wx hE hR hF
      have e11 : ax.eval (.tmp 11) = _ := hF 1 (det 11 _) (by decide) (.head _)
      exact x_dec (x_lss rfl e11 rfl) (decide_eq_true (by omega))
    apply Build.det 13 Ext.refl (by rfl) (by rw [k.size]; rfl) rfl
    case h =>
      intro ax wx hE hR hF
      have e12 : ax.eval (.tmp 12) = _ := hF 2 (det 12 _) (by decide) (.head _)
      exact x_move rfl e12
    refine Build.skip 14 (by rfl) (by rw [k.size]; rfl) rfl rfl ?_ ?_
    · intro ax wx hE hR hF
      have e13 : ax.eval (.tmp 13) = _ := hF 3 (det 13 _) (by decide) (.head _)
      exact e13
    refine Build.skip 15 (by rfl) (by rw [k.size]; rfl) rfl rfl ?_ ?_
    · intro ax wx hE hR hF
      have e13 : ax.eval (.tmp 13) = _ := hF 3 (det 13 _) (by decide) (.tail _ (.head _))
      exact e13
    refine Build.skip 16 (by rfl) (by rw [k.size]; rfl) rfl rfl ?_ ?_
    · intro ax wx hE hR hF
      have e13 : ax.eval (.tmp 13) = _ := hF 3 (det 13 _) (by decide) (.tail _ (.tail _ (.head _)))
      exact e13
    refine Build.skip 17 (by rfl) (by rw [k.size]; rfl) rfl rfl ?_ ?_
    · intro ax wx hE hR hF
      have e13 : ax.eval (.tmp 13) = _ := hF 3 (det 13 _) (by decide) (.tail _ (.tail _ (.tail _ (.head _))))
      exact e13
    refine Build.skip 18 (by rfl) (by rw [k.size]; rfl) rfl rfl ?_ ?_
    · intro ax wx hE hR hF
      have e13 : ax.eval (.tmp 13) = _ := hF 3 (det 13 _) (by decide) (.tail _ (.tail _ (.tail _ (.tail _ (.head _)))))
      exact e13
    refine Build.skip 19 (by rfl) (by rw [k.size]; rfl) rfl rfl ?_ ?_
    · intro ax wx hE hR hF
      have e13 : ax.eval (.tmp 13) = _ := hF 3 (det 13 _) (by decide) (.tail _ (.tail _ (.tail _ (.tail _ (.tail _ (.head _))))))
      exact e13
    refine Build.skip 20 (by rfl) (by rw [k.size]; rfl) rfl rfl ?_ ?_
    · intro ax wx hE hR hF
      have e13 : ax.eval (.tmp 13) = _ := hF 3 (det 13 _) (by decide) (.tail _ (.tail _ (.tail _ (.tail _ (.tail _ (.tail _ (.head _)))))))
      exact e13
    apply Build.det 21 Ext.refl (by rfl) (by rw [k.size]; rfl) rfl
    case h =>
      intro ax wx hE hR hF
      have e13 : ax.eval (.tmp 13) = _ := hF 3 (det 13 _) (by decide) (.tail _ (.tail _ (.tail _ (.tail _ (.tail _ (.tail _ (.tail _ (.head _))))))))
      have e20 : ax.eval (.tmp 20) = _ := hF 10 (det 20 _) (by decide) (.head _)
      exact x_pick_t rfl e13 rfl
    apply Build.det 9 Ext.refl (by rfl) (by rw [k.size]; rfl) rfl
    case h =>
      intro ax wx hE hR hF
      have e21 : ax.eval (.tmp 21) = _ := hF 11 (det 21 _) (by decide) (.head _)
      exact x_assign rfl e21
    apply Build.stop
    refine ⟨by kernel_rfl, .inl ⟨rfl, ?_⟩⟩
    intro a9 w10 hE R hF
    have e9 : a9.eval (.tmp 9) = _ := hF 12 (det 9 _) (.head _)
    clear hF
    replace O := OwnT.ext O R
    clear R
    replace e0 := hE.eval 0 (by rfl) e0
    replace e3 := hE.eval 3 (by rfl) e3
    replace k := k.env hE
    clear hE e6
    refine then_n ?_
    refine cond_t e9 rfl ?_
    refine wp_seq ?_
    refine wp_region_lit ?_
    have hE := Env.refl a9 [4, 5]
    apply sq_det 4 hE k rfl (by rfl) (by rfl) rfl
    case h =>
      exact x_assign rfl rfl
    intro a11 hE e4 kp
    apply sq_det 5 hE k rfl (by rfl) (by rfl) rfl
    case h =>
      exact x_assign rfl rfl
    intro a12 hE e5 kp
    replace e4 := (kp 4 rfl).trans e4
    refine wpList_nil ?_
    replace k := k.env hE
    clear hE e0 e3 e9
    refine then_n ?_
    refine wp_ret ?_
    refine block_r ?_
    refine then_r ?_
    refine ret_F2 rfl k e4 e5 ?_
    exact ⟨rfl, O.below⟩
  · skip
    refine wp_seq ?_
    refine wp_typed (R := Ext) (w0 := w3) [[], [0], [0, 1], [0, 1, 2], [0, 1, 2, 3], [0, 1, 2, 3, 4], [0, 1, 2, 3], [0, 1, 2, 3], [0, 1, 2, 3, 7], [0, 1, 2, 3, 6, 7, 8], [0, 1, 2, 3, 4, 5, 6, 7, 8, 9], [0, 1, 2, 3, 4, 5, 6, 7, 8, 9, 10], [0, 1, 2, 3, 4, 5, 6, 7, 8, 9, 10, 11]] [10, 11, 12, 13, 14, 15, 16, 17, 18, 19, 20, 21, 9] Ext.refl (fun _ _ _ => Ext.trans) (Ext.drew _) (by kernel_rfl) ?_
    apply Build.det 10 Ext.refl (by rfl) (by rw [k.size]; rfl) rfl
    case h =>
      intro ax wx hE hR hF
      simp [go_sem, ↓IntWalk.iteOmega, ev (hE.eval 3 (by rfl) e3)]
      with_reducible rfl
    apply Build.det 11 Ext.refl (by rfl) (by rw [k.size]; rfl) rfl
    case h =>
      intro ax wx hE hR hF
      have e10 : ax.eval (.tmp 10) = _ := hF 0 (det 10 _) (by decide) (.head _)
      have q0 : wx.cell? ⟨sb, 1, none⟩ = some (.int .i64 x) := (OwnT.blk (OwnT.ext O hR) 0 rfl).cell 1
      simp [go_sem, ↓IntWalk.iteOmega, ev e10, q0]
      with_reducible rfl
    apply Build.det 12 Ext.refl (by rfl) (by rw [k.size]; rfl) rfl
    case h =>
      intro ax wx hE hR hF
      have e11 : ax.eval (.tmp 11) = _ := hF 1 (det 11 _) (by decide) (.head _)
      exact x_dec (x_lss rfl e11 rfl) (decide_eq_false (by omega))
    apply Build.det 13 Ext.refl (by rfl) (by rw [k.size]; rfl) rfl
    case h =>
      intro ax wx hE hR hF
      have e12 : ax.eval (.tmp 12) = _ := hF 2 (det 12 _) (by decide) (.head _)
      exact x_move rfl e12
    apply Build.detg 14 Ext.refl (by rfl) (by rw [k.size]; rfl) rfl rfl
    case h =>
      intro ax wx hE hR hF
      have e13 : ax.eval (.tmp 13) = _ := hF 3 (det 13 _) (by decide) (.head _)
      refine ⟨e13, ?_⟩
      simp [go_sem, ↓IntWalk.iteOmega, ev (hE.eval 3 (by rfl) e3)]
      with_reducible rfl
    apply Build.detg 15 Ext.refl (by rfl) (by rw [k.size]; rfl) rfl rfl
    case h =>
      intro ax wx hE hR hF
      have e14 : ax.eval (.tmp 14) = _ := hF 4 (det 14 _) (by decide) (.head _)
      have e13 : ax.eval (.tmp 13) = _ := hF 3 (det 13 _) (by decide) (.tail _ (.head _))
      refine ⟨e13, ?_⟩
      have q0 : wx.cell? ⟨sb, 1, none⟩ = some (.int .i64 x) := (OwnT.blk (OwnT.ext O hR) 0 rfl).cell 1
      simp [go_sem, ↓IntWalk.iteOmega, ev e14, q0]
      with_reducible rfl
    apply Build.detg 16 Ext.refl (by rfl) (by rw [k.size]; rfl) rfl rfl
    case h =>
      intro ax wx hE hR hF
      have e13 : ax.eval (.tmp 13) = _ := hF 3 (det 13 _) (by decide) (.tail _ (.tail _ (.head _)))
      refine ⟨e13, ?_⟩
      exact x_move rfl (hE.eval 0 (by rfl) e0)
    apply Build.detg 17 Ext.refl (by rfl) (by rw [k.size]; rfl) rfl rfl
    case h =>
      intro ax wx hE hR hF
      have e13 : ax.eval (.tmp 13) = _ := hF 3 (det 13 _) (by decide) (.tail _ (.tail _ (.tail _ (.head _))))
      refine ⟨e13, ?_⟩
      simp [go_sem, ↓IntWalk.iteOmega, ev (hE.eval 3 (by rfl) e3)]
      with_reducible rfl
    apply Build.detg 18 Ext.refl (by rfl) (by rw [k.size]; rfl) rfl rfl
    case h =>
      intro ax wx hE hR hF
      have e17 : ax.eval (.tmp 17) = _ := hF 7 (det 17 _) (by decide) (.head _)
      have e13 : ax.eval (.tmp 13) = _ := hF 3 (det 13 _) (by decide) (.tail _ (.tail _ (.tail _ (.tail _ (.head _)))))
      refine ⟨e13, ?_⟩
      have q0 : wx.cell? ⟨sb, 0, none⟩ = some (.int .i64 1) := (OwnT.blk (OwnT.ext O hR) 0 rfl).cell 0
      simp [go_sem, ↓IntWalk.iteOmega, ev e17, q0]
      with_reducible rfl
    apply Build.callg 19 Ext.refl (by rfl) (by rw [k.size]; rfl) rfl rfl
    case h =>
      intro ax wx hE hR hF
      have e16 : ax.eval (.tmp 16) = _ := hF 6 (det 16 _) (by decide) (.tail _ (.tail _ (.head _)))
      have e18 : ax.eval (.tmp 18) = _ := hF 8 (det 18 _) (by decide) (.head _)
      have e13 : ax.eval (.tmp 13) = _ := hF 3 (det 13 _) (by decide) (.tail _ (.tail _ (.tail _ (.tail _ (.tail _ (.head _))))))
      refine ⟨e13, ?_⟩
      simp [go_sem, ↓IntWalk.iteOmega, ev e16, ev e18]
      with_reducible exact ⟨rfl, rfl⟩
    case hc => intro wx hR; exact (cslots_1 wx (h.ext (OwnT.ext O hR).below) (hd.ext (OwnT.ext O hR).below) hs)
    apply Build.detg 20 Ext.refl (by rfl) (by rw [k.size]; rfl) rfl rfl
    case h =>
      intro ax wx hE hR hF
      have e15 : ax.eval (.tmp 15) = _ := hF 5 (det 15 _) (by decide) (.tail _ (.tail _ (.tail _ (.tail _ (.head _)))))
      have e19 : ax.eval (.tmp 19) = _ := hF 9 (det 19 _) (by decide) (.head _)
      have e13 : ax.eval (.tmp 13) = _ := hF 3 (det 13 _) (by decide) (.tail _ (.tail _ (.tail _ (.tail _ (.tail _ (.tail _ (.head _)))))))
      refine ⟨e13, ?_⟩
      exact x_dec (x_geq rfl e15 e19) (decide_eq_true (by omega))
    apply Build.det 21 Ext.refl (by rfl) (by rw [k.size]; rfl) rfl
    case h =>
      intro ax wx hE hR hF
      have e13 : ax.eval (.tmp 13) = _ := hF 3 (det 13 _) (by decide) (.tail _ (.tail _ (.tail _ (.tail _ (.tail _ (.tail _ (.tail _ (.head _))))))))
      have e20 : ax.eval (.tmp 20) = _ := hF 10 (det 20 _) (by decide) (.head _)
      exact x_pick_f rfl e13 e20
    apply Build.det 9 Ext.refl (by rfl) (by rw [k.size]; rfl) rfl
    case h =>
      intro ax wx hE hR hF
      have e21 : ax.eval (.tmp 21) = _ := hF 11 (det 21 _) (by decide) (.head _)
      exact x_assign rfl e21
    apply Build.stop
    refine ⟨by kernel_rfl, .inl ⟨rfl, ?_⟩⟩
    intro a13 w14 hE R hF
    have e9 : a13.eval (.tmp 9) = _ := hF 12 (det 9 _) (.head _)
    clear hF
    replace O := OwnT.ext O R
    clear R
    replace e0 := hE.eval 0 (by rfl) e0
    replace e3 := hE.eval 3 (by rfl) e3
    replace k := k.env hE
    clear hE e6
    refine then_n ?_
    refine cond_t e9 rfl ?_
    refine wp_seq ?_
    refine wp_region_lit ?_
    have hE := Env.refl a13 [4, 5]
    apply sq_det 4 hE k rfl (by rfl) (by rfl) rfl
    case h =>
      exact x_assign rfl rfl
    intro a15 hE e4 kp
    apply sq_det 5 hE k rfl (by rfl) (by rfl) rfl
    case h =>
      exact x_assign rfl rfl
    intro a16 hE e5 kp
    replace e4 := (kp 4 rfl).trans e4
    refine wpList_nil ?_
    replace k := k.env hE
    clear hE e0 e3 e9
    refine then_n ?_
    refine wp_ret ?_
    refine block_r ?_
    refine then_r ?_
    refine ret_F2 rfl k e4 e5 ?_
    exact ⟨rfl, O.below⟩
set_option maxRecDepth 100000 in
set_option maxHeartbeats 4000000 in
theorem cspot_in1 {p mb n cap bm db p2 sz : Nat} {B : Option Addr} {S : List Sec} {L : Int → Option Sec} (x : Nat) (W0 : World) (h : DiscR p mb B n cap bm S L W0) (hd : Blk W0 db 149 #[.pointer (some ⟨p2, 0, none⟩), .pointer (some ⟨p, 0, none⟩), .int .i64 ↑sz]) (hs : 0 < sz) (hx : x < slN n sz) : Calls Try.prog 91 #[.pointer (some ⟨db, 0, none⟩), .agg #[.int .i64 1, .int .i64 x]] W0 fun e w' => e = .returned (.tuple #[.int .i64 (((x * sz : Nat) : Int)), .int .i64 0]) ∧ Ext W0 w' := by
  have O := OwnT.start W0
  have hn := h.ok.le
  have hle := slN_le hx hs
  have hd2 : W0.cell? ⟨db, 2, none⟩ = some (.int .i64 sz) := hd.cell 2
  refine calls_F Try.func91 rfl 29 rfl (by rfl) ?_
  intro a1 k hargs
  have e0 : a1.eval (.tmp 0) = .pointer (some ⟨db, 0, none⟩) := hargs 0 _ rfl
  have e1 : a1.eval (.tmp 1) = .agg #[.int .i64 1, .int .i64 ↑x] := hargs 1 _ rfl
  clear hargs
  refine wp_seq ?_
  refine wp_region_lit ?_
  have hE := Env.refl a1 [3, 4, 5]
  refine sq_new O (cs := #[.int .i64 1, .int .i64 ↑x]) (t := 90) 3 hE k rfl (by rfl) (by rfl) rfl (by simp [go_sem, ↓IntWalk.iteOmega, ev (hE.eval 1 (by rfl) e1)]) ?_
  clear O
  intro sb a2 w3 O hE e3 kp
  apply sq_det 4 hE k rfl (by rfl) (by rfl) rfl
  case h =>
    exact x_assign rfl rfl
  intro a4 hE e4 kp
  replace e3 := (kp 3 rfl).trans e3
  apply sq_det 5 hE k rfl (by rfl) (by rfl) rfl
  case h =>
    exact x_assign rfl rfl
  intro a5 hE e5 kp
  replace e3 := (kp 3 rfl).trans e3
  refine wpList_nil ?_
  replace e0 := hE.eval 0 (by rfl) e0
  replace k := k.env hE
  clear hE e1 e5
  refine then_n ?_
  refine wp_seq ?_
  refine wp_block ?_
  refine wp_seq ?_
  refine wp_region_lit ?_
  have hE := Env.refl a5 [7, 8, 6]
  apply sq_det 7 hE k rfl (by rfl) (by rfl) rfl
  case h =>
    exact x_move rfl (hE.eval 0 (by rfl) e0)
  intro a6 hE e7 kp
  apply sq_det 8 hE k rfl (by rfl) (by rfl) rfl
  case h =>
    simp [go_sem, ↓IntWalk.iteOmega, ev e7]
    with_reducible rfl
  intro a7 hE e8 kp
  apply sq_det 6 hE k rfl (by rfl) (by rfl) rfl
  case h =>
    exact x_assign rfl e8
  intro a8 hE e6 kp
  refine wpList_nil ?_
  replace e0 := hE.eval 0 (by rfl) e0
  replace e3 := hE.eval 3 (by rfl) e3
  replace k := k.env hE
  clear hE
  refine then_n ?_
  refine cond_f e6 rfl ?_
  refine wp_seq ?_
  refine wp_typed (R := Ext) (w0 := w3) [[], [0], [0, 1], [0, 1, 2], [0, 1, 2, 3], [0, 1, 2, 3, 4], [0, 1, 2, 3], [0, 1, 2, 3], [0, 1, 2, 3, 7], [0, 1, 2, 3, 6, 7, 8], [0, 1, 2, 3, 4, 5, 6, 7, 8, 9], [0, 1, 2, 3, 4, 5, 6, 7, 8, 9, 10], [0, 1, 2, 3, 4, 5, 6, 7, 8, 9, 10, 11]] [10, 11, 12, 13, 14, 15, 16, 17, 18, 19, 20, 21, 9] Ext.refl (fun _ _ _ => Ext.trans) (Ext.drew _) (by kernel_rfl) ?_
  apply Build.det 10 Ext.refl (by rfl) (by rw [k.size]; rfl) rfl
  case h =>
    intro ax wx hE hR hF
    simp [go_sem, ↓IntWalk.iteOmega, ev (hE.eval 3 (by rfl) e3)]
    with_reducible rfl
  apply Build.det 11 Ext.refl (by rfl) (by rw [k.size]; rfl) rfl
  case h =>
    intro ax wx hE hR hF
    have e10 : ax.eval (.tmp 10) = _ := hF 0 (det 10 _) (by decide) (.head _)
    have q0 : wx.cell? ⟨sb, 1, none⟩ = some (.int .i64 ↑x) := (OwnT.blk (OwnT.ext O hR) 0 rfl).cell 1
    simp [go_sem, ↓IntWalk.iteOmega, ev e10, q0]
    with_reducible rfl
  apply Build.det 12 Ext.refl (by rfl) (by rw [k.size]; rfl) rfl
  case h =>
    intro ax wx hE hR hF
    have e11 : ax.eval (.tmp 11) = _ := hF 1 (det 11 _) (by decide) (.head _)
    exact x_dec (x_lss rfl e11 rfl) (decide_eq_false (by omega))
  apply Build.det 13 Ext.refl (by rfl) (by rw [k.size]; rfl) rfl
  case h =>
    intro ax wx hE hR hF
    have e12 : ax.eval (.tmp 12) = _ := hF 2 (det 12 _) (by decide) (.head _)
    exact x_move rfl e12
  apply Build.detg 14 Ext.refl (by rfl) (by rw [k.size]; rfl) rfl rfl
  case h =>
    intro ax wx hE hR hF
    have e13 : ax.eval (.tmp 13) = _ := hF 3 (det 13 _) (by decide) (.head _)
    refine ⟨e13, ?_⟩
    simp [go_sem, ↓IntWalk.iteOmega, ev (hE.eval 3 (by rfl) e3)]
    with_reducible rfl
  apply Build.detg 15 Ext.refl (by rfl) (by rw [k.size]; rfl) rfl rfl
  case h =>
    intro ax wx hE hR hF
    have e14 : ax.eval (.tmp 14) = _ := hF 4 (det 14 _) (by decide) (.head _)
    have e13 : ax.eval (.tmp 13) = _ := hF 3 (det 13 _) (by decide) (.tail _ (.head _))
    refine ⟨e13, ?_⟩
    have q0 : wx.cell? ⟨sb, 1, none⟩ = some (.int .i64 ↑x) := (OwnT.blk (OwnT.ext O hR) 0 rfl).cell 1
    simp [go_sem, ↓IntWalk.iteOmega, ev e14, q0]
    with_reducible rfl
  apply Build.detg 16 Ext.refl (by rfl) (by rw [k.size]; rfl) rfl rfl
  case h =>
    intro ax wx hE hR hF
    have e13 : ax.eval (.tmp 13) = _ := hF 3 (det 13 _) (by decide) (.tail _ (.tail _ (.head _)))
    refine ⟨e13, ?_⟩
    exact x_move rfl (hE.eval 0 (by rfl) e0)
  apply Build.detg 17 Ext.refl (by rfl) (by rw [k.size]; rfl) rfl rfl
  case h =>
    intro ax wx hE hR hF
    have e13 : ax.eval (.tmp 13) = _ := hF 3 (det 13 _) (by decide) (.tail _ (.tail _ (.tail _ (.head _))))
    refine ⟨e13, ?_⟩
    simp [go_sem, ↓IntWalk.iteOmega, ev (hE.eval 3 (by rfl) e3)]
    with_reducible rfl
  apply Build.detg 18 Ext.refl (by rfl) (by rw [k.size]; rfl) rfl rfl
  case h =>
    intro ax wx hE hR hF
    have e17 : ax.eval (.tmp 17) = _ := hF 7 (det 17 _) (by decide) (.head _)
    have e13 : ax.eval (.tmp 13) = _ := hF 3 (det 13 _) (by decide) (.tail _ (.tail _ (.tail _ (.tail _ (.head _)))))
    refine ⟨e13, ?_⟩
    have q0 : wx.cell? ⟨sb, 0, none⟩ = some (.int .i64 1) := (OwnT.blk (OwnT.ext O hR) 0 rfl).cell 0
    simp [go_sem, ↓IntWalk.iteOmega, ev e17, q0]
    with_reducible rfl
  apply Build.callg 19 Ext.refl (by rfl) (by rw [k.size]; rfl) rfl rfl
  case h =>
    intro ax wx hE hR hF
    have e16 : ax.eval (.tmp 16) = _ := hF 6 (det 16 _) (by decide) (.tail _ (.tail _ (.head _)))
    have e18 : ax.eval (.tmp 18) = _ := hF 8 (det 18 _) (by decide) (.head _)
    have e13 : ax.eval (.tmp 13) = _ := hF 3 (det 13 _) (by decide) (.tail _ (.tail _ (.tail _ (.tail _ (.tail _ (.head _))))))
    refine ⟨e13, ?_⟩
    simp [go_sem, ↓IntWalk.iteOmega, ev e16, ev e18]
    with_reducible exact ⟨rfl, rfl⟩
  case hc => intro wx hR; exact (cslots_1 wx (h.ext (OwnT.ext O hR).below) (hd.ext (OwnT.ext O hR).below) hs)
  apply Build.detg 20 Ext.refl (by rfl) (by rw [k.size]; rfl) rfl rfl
  case h =>
    intro ax wx hE hR hF
    have e15 : ax.eval (.tmp 15) = _ := hF 5 (det 15 _) (by decide) (.tail _ (.tail _ (.tail _ (.tail _ (.head _)))))
    have e19 : ax.eval (.tmp 19) = _ := hF 9 (det 19 _) (by decide) (.head _)
    have e13 : ax.eval (.tmp 13) = _ := hF 3 (det 13 _) (by decide) (.tail _ (.tail _ (.tail _ (.tail _ (.tail _ (.tail _ (.head _)))))))
    refine ⟨e13, ?_⟩
    exact x_dec (x_geq rfl e15 e19) (decide_eq_false (by omega))
  apply Build.det 21 Ext.refl (by rfl) (by rw [k.size]; rfl) rfl
  case h =>
    intro ax wx hE hR hF
    have e13 : ax.eval (.tmp 13) = _ := hF 3 (det 13 _) (by decide) (.tail _ (.tail _ (.tail _ (.tail _ (.tail _ (.tail _ (.tail _ (.head _))))))))
    have e20 : ax.eval (.tmp 20) = _ := hF 10 (det 20 _) (by decide) (.head _)
    exact x_pick_f rfl e13 e20
  apply Build.det 9 Ext.refl (by rfl) (by rw [k.size]; rfl) rfl
  case h =>
    intro ax wx hE hR hF
    have e21 : ax.eval (.tmp 21) = _ := hF 11 (det 21 _) (by decide) (.head _)
    exact x_assign rfl e21
  apply Build.stop
  refine ⟨by kernel_rfl, .inl ⟨rfl, ?_⟩⟩
  intro a9 w10 hE R hF
  have e9 : a9.eval (.tmp 9) = _ := hF 12 (det 9 _) (.head _)
  clear hF
  replace O := OwnT.ext O R
  clear R
  replace e0 := hE.eval 0 (by rfl) e0
  replace e3 := hE.eval 3 (by rfl) e3
  replace k := k.env hE
  clear hE e6
  refine then_n ?_
  refine cond_f e9 rfl ?_
  refine wp_skip ?_
  refine block_n ?_
  refine then_n ?_
  refine wp_seq ?_
  refine wp_typed (R := Ext) (w0 := w10) [[], [0], [], [2], [2, 3], [2, 3, 4], [0, 1, 2, 3, 4, 5], [0, 1, 2, 3, 4, 5, 6], [0, 1, 2, 3, 4, 5, 6, 7]] [22, 23, 24, 25, 26, 27, 28, 4, 5] Ext.refl (fun _ _ _ => Ext.trans) (Ext.drew _) (by kernel_rfl) ?_
  apply Build.det 22 Ext.refl (by rfl) (by rw [k.size]; rfl) rfl
  case h =>
    intro ax wx hE hR hF
    simp [go_sem, ↓IntWalk.iteOmega, ev (hE.eval 3 (by rfl) e3)]
    with_reducible rfl
  apply Build.det 23 Ext.refl (by rfl) (by rw [k.size]; rfl) rfl
  case h =>
    intro ax wx hE hR hF
    have e22 : ax.eval (.tmp 22) = _ := hF 0 (det 22 _) (by decide) (.head _)
    have q0 : wx.cell? ⟨sb, 1, none⟩ = some (.int .i64 ↑x) := (OwnT.blk (OwnT.ext O hR) 0 rfl).cell 1
    simp [go_sem, ↓IntWalk.iteOmega, ev e22, q0]
    with_reducible rfl
  apply Build.det 24 Ext.refl (by rfl) (by rw [k.size]; rfl) rfl
  case h =>
    intro ax wx hE hR hF
    exact x_move rfl (hE.eval 0 (by rfl) e0)
  apply Build.det 25 Ext.refl (by rfl) (by rw [k.size]; rfl) rfl
  case h =>
    intro ax wx hE hR hF
    have e24 : ax.eval (.tmp 24) = _ := hF 2 (det 24 _) (by decide) (.head _)
    exact x_nil rfl e24
  apply Build.det 26 Ext.refl (by rfl) (by rw [k.size]; rfl) rfl
  case h =>
    intro ax wx hE hR hF
    have e25 : ax.eval (.tmp 25) = _ := hF 3 (det 25 _) (by decide) (.head _)
    simp [go_sem, ↓IntWalk.iteOmega, ev e25]
    with_reducible rfl
  apply Build.det 27 Ext.refl (by rfl) (by rw [k.size]; rfl) rfl
  case h =>
    intro ax wx hE hR hF
    have e26 : ax.eval (.tmp 26) = _ := hF 4 (det 26 _) (by decide) (.head _)
    have d2' : wx.cell? ⟨db, 2, none⟩ = some (.int .i64 sz) := (hd.ext (OwnT.ext O hR).below).cell 2
    simp [go_sem, ↓IntWalk.iteOmega, ev e26, d2']
    with_reducible rfl
  apply Build.det 28 Ext.refl (by rfl) (by rw [k.size]; rfl) rfl
  case h =>
    intro ax wx hE hR hF
    have e23 : ax.eval (.tmp 23) = _ := hF 1 (det 23 _) (by decide) (.tail _ (.tail _ (.tail _ (.tail _ (.head _)))))
    have e27 : ax.eval (.tmp 27) = _ := hF 5 (det 27 _) (by decide) (.head _)
    exact x_val (v := .int .i64 ((x * sz : Nat) : Int)) (x_mul rfl e23 e27 (by rw [← Int.natCast_mul]; omega)) (int_eq (Int.natCast_mul x sz).symm)
  apply Build.det 4 Ext.refl (by rfl) (by rw [k.size]; rfl) rfl
  case h =>
    intro ax wx hE hR hF
    have e28 : ax.eval (.tmp 28) = _ := hF 6 (det 28 _) (by decide) (.head _)
    exact x_assign rfl e28
  apply Build.det 5 Ext.refl (by rfl) (by rw [k.size]; rfl) rfl
  case h =>
    intro ax wx hE hR hF
    exact x_assign rfl rfl
  apply Build.stop
  refine ⟨by kernel_rfl, .inl ⟨rfl, ?_⟩⟩
  intro a11 w12 hE R hF
  have e4 : a11.eval (.tmp 4) = _ := hF 7 (det 4 _) (.tail _ (.head _))
  have e5 : a11.eval (.tmp 5) = _ := hF 8 (det 5 _) (.head _)
  clear hF
  replace O := OwnT.ext O R
  clear R
  replace k := k.env hE
  clear hE e0 e3 e9
  refine then_n ?_
  refine wp_ret ?_
  refine ret_F2 rfl k e4 e5 ?_
  exact ⟨rfl, O.below⟩
set_option maxRecDepth 100000 in
set_option maxHeartbeats 4000000 in
theorem cwithin_any {db sz : Nat} {u v : Value} (x y : Int) (w : World) (h : Blk w db 149 #[u, v, .int .i64 sz]) (hz : sz ≤ 1000000) : Calls Try.prog 92 #[.pointer (some ⟨db, 0, none⟩), .int .i64 x, .int .i64 y] w fun e w' => e = .returned (.bool (fitsB sz x y)) ∧ w = w' := by
  have c2 : w.cell? ⟨db, 2, none⟩ = some (.int .i64 sz) := h.cell 2
  by_cases h0 : 0 ≤ x
  rotate_left
  · skip
    refine calls_F Try.func92 rfl 31 rfl (by rfl) ?_
    intro a1 k hargs
    have e0 : a1.eval (.tmp 0) = .pointer (some ⟨db, 0, none⟩) := hargs 0 _ rfl
    have e1 : a1.eval (.tmp 1) = .int .i64 x := hargs 1 _ rfl
    have e2 : a1.eval (.tmp 2) = .int .i64 y := hargs 2 _ rfl
    clear hargs
    refine wp_seq ?_
    refine wp_region_lit ?_
    have hE := Env.refl a1 [6]
    apply sq_det 6 hE k rfl (by rfl) (by rfl) rfl
    case h =>
      exact x_assign rfl rfl
    intro a2 hE e6 kp
    refine wpList_nil ?_
    replace e0 := hE.eval 0 (by rfl) e0
    replace e1 := hE.eval 1 (by rfl) e1
    replace e2 := hE.eval 2 (by rfl) e2
    replace k := k.env hE
    clear hE e6
    refine then_n ?_
    refine wp_seq ?_
    refine wp_region_lit ?_
    have hE := Env.refl a2 [7, 8, 9, 10, 11, 12, 13, 14, 15, 16, 17, 18, 19, 20, 21, 22, 23, 24, 25, 26, 27, 28, 29, 30, 6]
    apply sq_det 7 hE k rfl (by rfl) (by rfl) rfl
    case h =>
      exact x_move rfl (hE.eval 1 (by rfl) e1)
    intro a3 hE e7 kp
    apply sq_det 8 hE k rfl (by rfl) (by rfl) rfl
    case h =>
      exact x_dec (x_geq rfl e7 rfl) (decide_eq_false (by omega))
    intro a4 hE e8 kp
    apply sq_det 9 hE k rfl (by rfl) (by rfl) rfl
    case h =>
      exact x_move rfl e8
    intro a5 hE e9 kp
    refine sq_skipg 10 hE k rfl (by rfl) (by rfl) rfl rfl (.inl e9) ?_
    intro a6 hE e10 kp
    replace e9 := (kp 9 rfl).trans e9
    refine sq_skipg 11 hE k rfl (by rfl) (by rfl) rfl rfl (.inl e9) ?_
    intro a7 hE e11 kp
    replace e9 := (kp 9 rfl).trans e9
    apply sq_det 12 hE k rfl (by rfl) (by rfl) rfl
    case h =>
      exact x_pick_f rfl e9 rfl
    intro a8 hE e12 kp
    apply sq_det 13 hE k rfl (by rfl) (by rfl) rfl
    case h =>
      exact x_move rfl e12
    intro a9 hE e13 kp
    refine sq_skipg 14 hE k rfl (by rfl) (by rfl) rfl rfl (.inl e13) ?_
    intro a10 hE e14 kp
    replace e13 := (kp 13 rfl).trans e13
    refine sq_skipg 15 hE k rfl (by rfl) (by rfl) rfl rfl (.inl e13) ?_
    intro a11 hE e15 kp
    replace e13 := (kp 13 rfl).trans e13
    replace e14 := (kp 14 rfl).trans e14
    refine sq_skipg 16 hE k rfl (by rfl) (by rfl) rfl rfl (.inl e13) ?_
    intro a12 hE e16 kp
    replace e13 := (kp 13 rfl).trans e13
    replace e14 := (kp 14 rfl).trans e14
    refine sq_skipg 17 hE k rfl (by rfl) (by rfl) rfl rfl (.inl e13) ?_
    intro a13 hE e17 kp
    replace e13 := (kp 13 rfl).trans e13
    replace e14 := (kp 14 rfl).trans e14
    refine sq_skipg 18 hE k rfl (by rfl) (by rfl) rfl rfl (.inl e13) ?_
    intro a14 hE e18 kp
    replace e13 := (kp 13 rfl).trans e13
    replace e14 := (kp 14 rfl).trans e14
    refine sq_skipg 19 hE k rfl (by rfl) (by rfl) rfl rfl (.inl e13) ?_
    intro a15 hE e19 kp
    replace e13 := (kp 13 rfl).trans e13
    apply sq_det 20 hE k rfl (by rfl) (by rfl) rfl
    case h =>
      exact x_pick_f rfl e13 rfl
    intro a16 hE e20 kp
    apply sq_det 21 hE k rfl (by rfl) (by rfl) rfl
    case h =>
      exact x_move rfl e20
    intro a17 hE e21 kp
    refine sq_skipg 22 hE k rfl (by rfl) (by rfl) rfl rfl (.inl e21) ?_
    intro a18 hE e22 kp
    replace e21 := (kp 21 rfl).trans e21
    refine sq_skipg 23 hE k rfl (by rfl) (by rfl) rfl rfl (.inl e21) ?_
    intro a19 hE e23 kp
    replace e21 := (kp 21 rfl).trans e21
    replace e22 := (kp 22 rfl).trans e22
    refine sq_skipg 24 hE k rfl (by rfl) (by rfl) rfl rfl (.inl e21) ?_
    intro a20 hE e24 kp
    replace e21 := (kp 21 rfl).trans e21
    replace e22 := (kp 22 rfl).trans e22
    refine sq_skipg 25 hE k rfl (by rfl) (by rfl) rfl rfl (.inl e21) ?_
    intro a21 hE e25 kp
    replace e21 := (kp 21 rfl).trans e21
    replace e22 := (kp 22 rfl).trans e22
    refine sq_skipg 26 hE k rfl (by rfl) (by rfl) rfl rfl (.inl e21) ?_
    intro a22 hE e26 kp
    replace e21 := (kp 21 rfl).trans e21
    replace e22 := (kp 22 rfl).trans e22
    refine sq_skipg 27 hE k rfl (by rfl) (by rfl) rfl rfl (.inl e21) ?_
    intro a23 hE e27 kp
    replace e21 := (kp 21 rfl).trans e21
    replace e22 := (kp 22 rfl).trans e22
    replace e26 := (kp 26 rfl).trans e26
    refine sq_skipg 28 hE k rfl (by rfl) (by rfl) rfl rfl (.inl e21) ?_
    intro a24 hE e28 kp
    replace e21 := (kp 21 rfl).trans e21
    replace e22 := (kp 22 rfl).trans e22
    refine sq_skipg 29 hE k rfl (by rfl) (by rfl) rfl rfl (.inl e21) ?_
    intro a25 hE e29 kp
    replace e21 := (kp 21 rfl).trans e21
    apply sq_det 30 hE k rfl (by rfl) (by rfl) rfl
    case h =>
      exact x_pick_f rfl e21 rfl
    intro a26 hE e30 kp
    apply sq_det 6 hE k rfl (by rfl) (by rfl) rfl
    case h =>
      exact x_assign rfl e30
    intro a27 hE e6 kp
    refine wpList_nil ?_
    replace k := k.env hE
    clear hE e0 e1 e2
    refine then_n ?_
    refine wp_ret ?_
    refine ret_F1 rfl k e6 ?_
    exact ⟨congrArg (fun b => Ending.returned (.bool b)) (show false = fitsB sz x y from (decide_eq_false (by omega)).symm), rfl⟩
  by_cases h1 : 0 ≤ y
  rotate_left
  · skip
    refine calls_F Try.func92 rfl 31 rfl (by rfl) ?_
    intro a1 k hargs
    have e0 : a1.eval (.tmp 0) = .pointer (some ⟨db, 0, none⟩) := hargs 0 _ rfl
    have e1 : a1.eval (.tmp 1) = .int .i64 x := hargs 1 _ rfl
    have e2 : a1.eval (.tmp 2) = .int .i64 y := hargs 2 _ rfl
    clear hargs
    refine wp_seq ?_
    refine wp_region_lit ?_
    have hE := Env.refl a1 [6]
    apply sq_det 6 hE k rfl (by rfl) (by rfl) rfl
    case h =>
      exact x_assign rfl rfl
    intro a2 hE e6 kp
    refine wpList_nil ?_
    replace e0 := hE.eval 0 (by rfl) e0
    replace e1 := hE.eval 1 (by rfl) e1
    replace e2 := hE.eval 2 (by rfl) e2
    replace k := k.env hE
    clear hE e6
    refine then_n ?_
    refine wp_seq ?_
    refine wp_region_lit ?_
    have hE := Env.refl a2 [7, 8, 9, 10, 11, 12, 13, 14, 15, 16, 17, 18, 19, 20, 21, 22, 23, 24, 25, 26, 27, 28, 29, 30, 6]
    apply sq_det 7 hE k rfl (by rfl) (by rfl) rfl
    case h =>
      exact x_move rfl (hE.eval 1 (by rfl) e1)
    intro a3 hE e7 kp
    apply sq_det 8 hE k rfl (by rfl) (by rfl) rfl
    case h =>
      exact x_dec (x_geq rfl e7 rfl) (decide_eq_true (by omega))
    intro a4 hE e8 kp
    apply sq_det 9 hE k rfl (by rfl) (by rfl) rfl
    case h =>
      exact x_move rfl e8
    intro a5 hE e9 kp
    apply sq_detg 10 hE k rfl (by rfl) (by rfl) rfl rfl e9
    case h =>
      exact x_move rfl (hE.eval 2 (by rfl) e2)
    intro a6 hE e10 kp
    replace e9 := (kp 9 rfl).trans e9
    apply sq_detg 11 hE k rfl (by rfl) (by rfl) rfl rfl e9
    case h =>
      exact x_dec (x_geq rfl e10 rfl) (decide_eq_false (by omega))
    intro a7 hE e11 kp
    replace e9 := (kp 9 rfl).trans e9
    apply sq_det 12 hE k rfl (by rfl) (by rfl) rfl
    case h =>
      exact x_pick_t rfl e9 e11
    intro a8 hE e12 kp
    apply sq_det 13 hE k rfl (by rfl) (by rfl) rfl
    case h =>
      exact x_move rfl e12
    intro a9 hE e13 kp
    refine sq_skipg 14 hE k rfl (by rfl) (by rfl) rfl rfl (.inl e13) ?_
    intro a10 hE e14 kp
    replace e13 := (kp 13 rfl).trans e13
    refine sq_skipg 15 hE k rfl (by rfl) (by rfl) rfl rfl (.inl e13) ?_
    intro a11 hE e15 kp
    replace e13 := (kp 13 rfl).trans e13
    replace e14 := (kp 14 rfl).trans e14
    refine sq_skipg 16 hE k rfl (by rfl) (by rfl) rfl rfl (.inl e13) ?_
    intro a12 hE e16 kp
    replace e13 := (kp 13 rfl).trans e13
    replace e14 := (kp 14 rfl).trans e14
    refine sq_skipg 17 hE k rfl (by rfl) (by rfl) rfl rfl (.inl e13) ?_
    intro a13 hE e17 kp
    replace e13 := (kp 13 rfl).trans e13
    replace e14 := (kp 14 rfl).trans e14
    refine sq_skipg 18 hE k rfl (by rfl) (by rfl) rfl rfl (.inl e13) ?_
    intro a14 hE e18 kp
    replace e13 := (kp 13 rfl).trans e13
    replace e14 := (kp 14 rfl).trans e14
    refine sq_skipg 19 hE k rfl (by rfl) (by rfl) rfl rfl (.inl e13) ?_
    intro a15 hE e19 kp
    replace e13 := (kp 13 rfl).trans e13
    apply sq_det 20 hE k rfl (by rfl) (by rfl) rfl
    case h =>
      exact x_pick_f rfl e13 rfl
    intro a16 hE e20 kp
    apply sq_det 21 hE k rfl (by rfl) (by rfl) rfl
    case h =>
      exact x_move rfl e20
    intro a17 hE e21 kp
    refine sq_skipg 22 hE k rfl (by rfl) (by rfl) rfl rfl (.inl e21) ?_
    intro a18 hE e22 kp
    replace e21 := (kp 21 rfl).trans e21
    refine sq_skipg 23 hE k rfl (by rfl) (by rfl) rfl rfl (.inl e21) ?_
    intro a19 hE e23 kp
    replace e21 := (kp 21 rfl).trans e21
    replace e22 := (kp 22 rfl).trans e22
    refine sq_skipg 24 hE k rfl (by rfl) (by rfl) rfl rfl (.inl e21) ?_
    intro a20 hE e24 kp
    replace e21 := (kp 21 rfl).trans e21
    replace e22 := (kp 22 rfl).trans e22
    refine sq_skipg 25 hE k rfl (by rfl) (by rfl) rfl rfl (.inl e21) ?_
    intro a21 hE e25 kp
    replace e21 := (kp 21 rfl).trans e21
    replace e22 := (kp 22 rfl).trans e22
    refine sq_skipg 26 hE k rfl (by rfl) (by rfl) rfl rfl (.inl e21) ?_
    intro a22 hE e26 kp
    replace e21 := (kp 21 rfl).trans e21
    replace e22 := (kp 22 rfl).trans e22
    refine sq_skipg 27 hE k rfl (by rfl) (by rfl) rfl rfl (.inl e21) ?_
    intro a23 hE e27 kp
    replace e21 := (kp 21 rfl).trans e21
    replace e22 := (kp 22 rfl).trans e22
    replace e26 := (kp 26 rfl).trans e26
    refine sq_skipg 28 hE k rfl (by rfl) (by rfl) rfl rfl (.inl e21) ?_
    intro a24 hE e28 kp
    replace e21 := (kp 21 rfl).trans e21
    replace e22 := (kp 22 rfl).trans e22
    refine sq_skipg 29 hE k rfl (by rfl) (by rfl) rfl rfl (.inl e21) ?_
    intro a25 hE e29 kp
    replace e21 := (kp 21 rfl).trans e21
    apply sq_det 30 hE k rfl (by rfl) (by rfl) rfl
    case h =>
      exact x_pick_f rfl e21 rfl
    intro a26 hE e30 kp
    apply sq_det 6 hE k rfl (by rfl) (by rfl) rfl
    case h =>
      exact x_assign rfl e30
    intro a27 hE e6 kp
    refine wpList_nil ?_
    replace k := k.env hE
    clear hE e0 e1 e2
    refine then_n ?_
    refine wp_ret ?_
    refine ret_F1 rfl k e6 ?_
    exact ⟨congrArg (fun b => Ending.returned (.bool b)) (show false = fitsB sz x y from (decide_eq_false (by omega)).symm), rfl⟩
  by_cases h2 : x ≤ sz
  rotate_left
  · skip
    refine calls_F Try.func92 rfl 31 rfl (by rfl) ?_
    intro a1 k hargs
    have e0 : a1.eval (.tmp 0) = .pointer (some ⟨db, 0, none⟩) := hargs 0 _ rfl
    have e1 : a1.eval (.tmp 1) = .int .i64 x := hargs 1 _ rfl
    have e2 : a1.eval (.tmp 2) = .int .i64 y := hargs 2 _ rfl
    clear hargs
    refine wp_seq ?_
    refine wp_region_lit ?_
    have hE := Env.refl a1 [6]
    apply sq_det 6 hE k rfl (by rfl) (by rfl) rfl
    case h =>
      exact x_assign rfl rfl
    intro a2 hE e6 kp
    refine wpList_nil ?_
    replace e0 := hE.eval 0 (by rfl) e0
    replace e1 := hE.eval 1 (by rfl) e1
    replace e2 := hE.eval 2 (by rfl) e2
    replace k := k.env hE
    clear hE e6
    refine then_n ?_
    refine wp_seq ?_
    refine wp_region_lit ?_
    have hE := Env.refl a2 [7, 8, 9, 10, 11, 12, 13, 14, 15, 16, 17, 18, 19, 20, 21, 22, 23, 24, 25, 26, 27, 28, 29, 30, 6]
    apply sq_det 7 hE k rfl (by rfl) (by rfl) rfl
    case h =>
      exact x_move rfl (hE.eval 1 (by rfl) e1)
    intro a3 hE e7 kp
    apply sq_det 8 hE k rfl (by rfl) (by rfl) rfl
    case h =>
      exact x_dec (x_geq rfl e7 rfl) (decide_eq_true (by omega))
    intro a4 hE e8 kp
    apply sq_det 9 hE k rfl (by rfl) (by rfl) rfl
    case h =>
      exact x_move rfl e8
    intro a5 hE e9 kp
    apply sq_detg 10 hE k rfl (by rfl) (by rfl) rfl rfl e9
    case h =>
      exact x_move rfl (hE.eval 2 (by rfl) e2)
    intro a6 hE e10 kp
    replace e9 := (kp 9 rfl).trans e9
    apply sq_detg 11 hE k rfl (by rfl) (by rfl) rfl rfl e9
    case h =>
      exact x_dec (x_geq rfl e10 rfl) (decide_eq_true (by omega))
    intro a7 hE e11 kp
    replace e9 := (kp 9 rfl).trans e9
    apply sq_det 12 hE k rfl (by rfl) (by rfl) rfl
    case h =>
      exact x_pick_t rfl e9 e11
    intro a8 hE e12 kp
    apply sq_det 13 hE k rfl (by rfl) (by rfl) rfl
    case h =>
      exact x_move rfl e12
    intro a9 hE e13 kp
    apply sq_detg 14 hE k rfl (by rfl) (by rfl) rfl rfl e13
    case h =>
      exact x_move rfl (hE.eval 1 (by rfl) e1)
    intro a10 hE e14 kp
    replace e13 := (kp 13 rfl).trans e13
    apply sq_detg 15 hE k rfl (by rfl) (by rfl) rfl rfl e13
    case h =>
      exact x_move rfl (hE.eval 0 (by rfl) e0)
    intro a11 hE e15 kp
    replace e13 := (kp 13 rfl).trans e13
    replace e14 := (kp 14 rfl).trans e14
    apply sq_detg 16 hE k rfl (by rfl) (by rfl) rfl rfl e13
    case h =>
      exact x_nil rfl e15
    intro a12 hE e16 kp
    replace e13 := (kp 13 rfl).trans e13
    replace e14 := (kp 14 rfl).trans e14
    apply sq_detg 17 hE k rfl (by rfl) (by rfl) rfl rfl e13
    case h =>
      simp [go_sem, ↓IntWalk.iteOmega, ev e16]
      with_reducible rfl
    intro a13 hE e17 kp
    replace e13 := (kp 13 rfl).trans e13
    replace e14 := (kp 14 rfl).trans e14
    apply sq_detg 18 hE k rfl (by rfl) (by rfl) rfl rfl e13
    case h =>
      simp [go_sem, ↓IntWalk.iteOmega, ev e17, c2]
      with_reducible rfl
    intro a14 hE e18 kp
    replace e13 := (kp 13 rfl).trans e13
    replace e14 := (kp 14 rfl).trans e14
    apply sq_detg 19 hE k rfl (by rfl) (by rfl) rfl rfl e13
    case h =>
      exact x_dec (x_leq rfl e14 e18) (decide_eq_false (by omega))
    intro a15 hE e19 kp
    replace e13 := (kp 13 rfl).trans e13
    apply sq_det 20 hE k rfl (by rfl) (by rfl) rfl
    case h =>
      exact x_pick_t rfl e13 e19
    intro a16 hE e20 kp
    apply sq_det 21 hE k rfl (by rfl) (by rfl) rfl
    case h =>
      exact x_move rfl e20
    intro a17 hE e21 kp
    refine sq_skipg 22 hE k rfl (by rfl) (by rfl) rfl rfl (.inl e21) ?_
    intro a18 hE e22 kp
    replace e21 := (kp 21 rfl).trans e21
    refine sq_skipg 23 hE k rfl (by rfl) (by rfl) rfl rfl (.inl e21) ?_
    intro a19 hE e23 kp
    replace e21 := (kp 21 rfl).trans e21
    replace e22 := (kp 22 rfl).trans e22
    refine sq_skipg 24 hE k rfl (by rfl) (by rfl) rfl rfl (.inl e21) ?_
    intro a20 hE e24 kp
    replace e21 := (kp 21 rfl).trans e21
    replace e22 := (kp 22 rfl).trans e22
    refine sq_skipg 25 hE k rfl (by rfl) (by rfl) rfl rfl (.inl e21) ?_
    intro a21 hE e25 kp
    replace e21 := (kp 21 rfl).trans e21
    replace e22 := (kp 22 rfl).trans e22
    refine sq_skipg 26 hE k rfl (by rfl) (by rfl) rfl rfl (.inl e21) ?_
    intro a22 hE e26 kp
    replace e21 := (kp 21 rfl).trans e21
    replace e22 := (kp 22 rfl).trans e22
    refine sq_skipg 27 hE k rfl (by rfl) (by rfl) rfl rfl (.inl e21) ?_
    intro a23 hE e27 kp
    replace e21 := (kp 21 rfl).trans e21
    replace e22 := (kp 22 rfl).trans e22
    replace e26 := (kp 26 rfl).trans e26
    refine sq_skipg 28 hE k rfl (by rfl) (by rfl) rfl rfl (.inl e21) ?_
    intro a24 hE e28 kp
    replace e21 := (kp 21 rfl).trans e21
    replace e22 := (kp 22 rfl).trans e22
    refine sq_skipg 29 hE k rfl (by rfl) (by rfl) rfl rfl (.inl e21) ?_
    intro a25 hE e29 kp
    replace e21 := (kp 21 rfl).trans e21
    apply sq_det 30 hE k rfl (by rfl) (by rfl) rfl
    case h =>
      exact x_pick_f rfl e21 rfl
    intro a26 hE e30 kp
    apply sq_det 6 hE k rfl (by rfl) (by rfl) rfl
    case h =>
      exact x_assign rfl e30
    intro a27 hE e6 kp
    refine wpList_nil ?_
    replace k := k.env hE
    clear hE e0 e1 e2
    refine then_n ?_
    refine wp_ret ?_
    refine ret_F1 rfl k e6 ?_
    exact ⟨congrArg (fun b => Ending.returned (.bool b)) (show false = fitsB sz x y from (decide_eq_false (by omega)).symm), rfl⟩
  by_cases h3 : y ≤ sz - x
  rotate_left
  · skip
    refine calls_F Try.func92 rfl 31 rfl (by rfl) ?_
    intro a1 k hargs
    have e0 : a1.eval (.tmp 0) = .pointer (some ⟨db, 0, none⟩) := hargs 0 _ rfl
    have e1 : a1.eval (.tmp 1) = .int .i64 x := hargs 1 _ rfl
    have e2 : a1.eval (.tmp 2) = .int .i64 y := hargs 2 _ rfl
    clear hargs
    refine wp_seq ?_
    refine wp_region_lit ?_
    have hE := Env.refl a1 [6]
    apply sq_det 6 hE k rfl (by rfl) (by rfl) rfl
    case h =>
      exact x_assign rfl rfl
    intro a2 hE e6 kp
    refine wpList_nil ?_
    replace e0 := hE.eval 0 (by rfl) e0
    replace e1 := hE.eval 1 (by rfl) e1
    replace e2 := hE.eval 2 (by rfl) e2
    replace k := k.env hE
    clear hE e6
    refine then_n ?_
    refine wp_seq ?_
    refine wp_region_lit ?_
    have hE := Env.refl a2 [7, 8, 9, 10, 11, 12, 13, 14, 15, 16, 17, 18, 19, 20, 21, 22, 23, 24, 25, 26, 27, 28, 29, 30, 6]
    apply sq_det 7 hE k rfl (by rfl) (by rfl) rfl
    case h =>
      exact x_move rfl (hE.eval 1 (by rfl) e1)
    intro a3 hE e7 kp
    apply sq_det 8 hE k rfl (by rfl) (by rfl) rfl
    case h =>
      exact x_dec (x_geq rfl e7 rfl) (decide_eq_true (by omega))
    intro a4 hE e8 kp
    apply sq_det 9 hE k rfl (by rfl) (by rfl) rfl
    case h =>
      exact x_move rfl e8
    intro a5 hE e9 kp
    apply sq_detg 10 hE k rfl (by rfl) (by rfl) rfl rfl e9
    case h =>
      exact x_move rfl (hE.eval 2 (by rfl) e2)
    intro a6 hE e10 kp
    replace e9 := (kp 9 rfl).trans e9
    apply sq_detg 11 hE k rfl (by rfl) (by rfl) rfl rfl e9
    case h =>
      exact x_dec (x_geq rfl e10 rfl) (decide_eq_true (by omega))
    intro a7 hE e11 kp
    replace e9 := (kp 9 rfl).trans e9
    apply sq_det 12 hE k rfl (by rfl) (by rfl) rfl
    case h =>
      exact x_pick_t rfl e9 e11
    intro a8 hE e12 kp
    apply sq_det 13 hE k rfl (by rfl) (by rfl) rfl
    case h =>
      exact x_move rfl e12
    intro a9 hE e13 kp
    apply sq_detg 14 hE k rfl (by rfl) (by rfl) rfl rfl e13
    case h =>
      exact x_move rfl (hE.eval 1 (by rfl) e1)
    intro a10 hE e14 kp
    replace e13 := (kp 13 rfl).trans e13
    apply sq_detg 15 hE k rfl (by rfl) (by rfl) rfl rfl e13
    case h =>
      exact x_move rfl (hE.eval 0 (by rfl) e0)
    intro a11 hE e15 kp
    replace e13 := (kp 13 rfl).trans e13
    replace e14 := (kp 14 rfl).trans e14
    apply sq_detg 16 hE k rfl (by rfl) (by rfl) rfl rfl e13
    case h =>
      exact x_nil rfl e15
    intro a12 hE e16 kp
    replace e13 := (kp 13 rfl).trans e13
    replace e14 := (kp 14 rfl).trans e14
    apply sq_detg 17 hE k rfl (by rfl) (by rfl) rfl rfl e13
    case h =>
      simp [go_sem, ↓IntWalk.iteOmega, ev e16]
      with_reducible rfl
    intro a13 hE e17 kp
    replace e13 := (kp 13 rfl).trans e13
    replace e14 := (kp 14 rfl).trans e14
    apply sq_detg 18 hE k rfl (by rfl) (by rfl) rfl rfl e13
    case h =>
      simp [go_sem, ↓IntWalk.iteOmega, ev e17, c2]
      with_reducible rfl
    intro a14 hE e18 kp
    replace e13 := (kp 13 rfl).trans e13
    replace e14 := (kp 14 rfl).trans e14
    apply sq_detg 19 hE k rfl (by rfl) (by rfl) rfl rfl e13
    case h =>
      exact x_dec (x_leq rfl e14 e18) (decide_eq_true (by omega))
    intro a15 hE e19 kp
    replace e13 := (kp 13 rfl).trans e13
    apply sq_det 20 hE k rfl (by rfl) (by rfl) rfl
    case h =>
      exact x_pick_t rfl e13 e19
    intro a16 hE e20 kp
    apply sq_det 21 hE k rfl (by rfl) (by rfl) rfl
    case h =>
      exact x_move rfl e20
    intro a17 hE e21 kp
    apply sq_detg 22 hE k rfl (by rfl) (by rfl) rfl rfl e21
    case h =>
      exact x_move rfl (hE.eval 2 (by rfl) e2)
    intro a18 hE e22 kp
    replace e21 := (kp 21 rfl).trans e21
    apply sq_detg 23 hE k rfl (by rfl) (by rfl) rfl rfl e21
    case h =>
      exact x_move rfl (hE.eval 0 (by rfl) e0)
    intro a19 hE e23 kp
    replace e21 := (kp 21 rfl).trans e21
    replace e22 := (kp 22 rfl).trans e22
    apply sq_detg 24 hE k rfl (by rfl) (by rfl) rfl rfl e21
    case h =>
      exact x_nil rfl e23
    intro a20 hE e24 kp
    replace e21 := (kp 21 rfl).trans e21
    replace e22 := (kp 22 rfl).trans e22
    apply sq_detg 25 hE k rfl (by rfl) (by rfl) rfl rfl e21
    case h =>
      simp [go_sem, ↓IntWalk.iteOmega, ev e24]
      with_reducible rfl
    intro a21 hE e25 kp
    replace e21 := (kp 21 rfl).trans e21
    replace e22 := (kp 22 rfl).trans e22
    apply sq_detg 26 hE k rfl (by rfl) (by rfl) rfl rfl e21
    case h =>
      simp [go_sem, ↓IntWalk.iteOmega, ev e25, c2]
      with_reducible rfl
    intro a22 hE e26 kp
    replace e21 := (kp 21 rfl).trans e21
    replace e22 := (kp 22 rfl).trans e22
    apply sq_detg 27 hE k rfl (by rfl) (by rfl) rfl rfl e21
    case h =>
      exact x_move rfl (hE.eval 1 (by rfl) e1)
    intro a23 hE e27 kp
    replace e21 := (kp 21 rfl).trans e21
    replace e22 := (kp 22 rfl).trans e22
    replace e26 := (kp 26 rfl).trans e26
    apply sq_detg 28 hE k rfl (by rfl) (by rfl) rfl rfl e21
    case h =>
      exact x_sub rfl e26 e27 (by omega)
    intro a24 hE e28 kp
    replace e21 := (kp 21 rfl).trans e21
    replace e22 := (kp 22 rfl).trans e22
    apply sq_detg 29 hE k rfl (by rfl) (by rfl) rfl rfl e21
    case h =>
      exact x_dec (x_leq rfl e22 e28) (decide_eq_false (by omega))
    intro a25 hE e29 kp
    replace e21 := (kp 21 rfl).trans e21
    apply sq_det 30 hE k rfl (by rfl) (by rfl) rfl
    case h =>
      exact x_pick_t rfl e21 e29
    intro a26 hE e30 kp
    apply sq_det 6 hE k rfl (by rfl) (by rfl) rfl
    case h =>
      exact x_assign rfl e30
    intro a27 hE e6 kp
    refine wpList_nil ?_
    replace k := k.env hE
    clear hE e0 e1 e2
    refine then_n ?_
    refine wp_ret ?_
    refine ret_F1 rfl k e6 ?_
    exact ⟨congrArg (fun b => Ending.returned (.bool b)) (show false = fitsB sz x y from (decide_eq_false (by omega)).symm), rfl⟩
  refine calls_F Try.func92 rfl 31 rfl (by rfl) ?_
  intro a1 k hargs
  have e0 : a1.eval (.tmp 0) = .pointer (some ⟨db, 0, none⟩) := hargs 0 _ rfl
  have e1 : a1.eval (.tmp 1) = .int .i64 x := hargs 1 _ rfl
  have e2 : a1.eval (.tmp 2) = .int .i64 y := hargs 2 _ rfl
  clear hargs
  refine wp_seq ?_
  refine wp_region_lit ?_
  have hE := Env.refl a1 [6]
  apply sq_det 6 hE k rfl (by rfl) (by rfl) rfl
  case h =>
    exact x_assign rfl rfl
  intro a2 hE e6 kp
  refine wpList_nil ?_
  replace e0 := hE.eval 0 (by rfl) e0
  replace e1 := hE.eval 1 (by rfl) e1
  replace e2 := hE.eval 2 (by rfl) e2
  replace k := k.env hE
  clear hE e6
  refine then_n ?_
  refine wp_seq ?_
  refine wp_region_lit ?_
  have hE := Env.refl a2 [7, 8, 9, 10, 11, 12, 13, 14, 15, 16, 17, 18, 19, 20, 21, 22, 23, 24, 25, 26, 27, 28, 29, 30, 6]
  apply sq_det 7 hE k rfl (by rfl) (by rfl) rfl
  case h =>
    exact x_move rfl (hE.eval 1 (by rfl) e1)
  intro a3 hE e7 kp
  apply sq_det 8 hE k rfl (by rfl) (by rfl) rfl
  case h =>
    exact x_dec (x_geq rfl e7 rfl) (decide_eq_true (by omega))
  intro a4 hE e8 kp
  apply sq_det 9 hE k rfl (by rfl) (by rfl) rfl
  case h =>
    exact x_move rfl e8
  intro a5 hE e9 kp
  apply sq_detg 10 hE k rfl (by rfl) (by rfl) rfl rfl e9
  case h =>
    exact x_move rfl (hE.eval 2 (by rfl) e2)
  intro a6 hE e10 kp
  replace e9 := (kp 9 rfl).trans e9
  apply sq_detg 11 hE k rfl (by rfl) (by rfl) rfl rfl e9
  case h =>
    exact x_dec (x_geq rfl e10 rfl) (decide_eq_true (by omega))
  intro a7 hE e11 kp
  replace e9 := (kp 9 rfl).trans e9
  apply sq_det 12 hE k rfl (by rfl) (by rfl) rfl
  case h =>
    exact x_pick_t rfl e9 e11
  intro a8 hE e12 kp
  apply sq_det 13 hE k rfl (by rfl) (by rfl) rfl
  case h =>
    exact x_move rfl e12
  intro a9 hE e13 kp
  apply sq_detg 14 hE k rfl (by rfl) (by rfl) rfl rfl e13
  case h =>
    exact x_move rfl (hE.eval 1 (by rfl) e1)
  intro a10 hE e14 kp
  replace e13 := (kp 13 rfl).trans e13
  apply sq_detg 15 hE k rfl (by rfl) (by rfl) rfl rfl e13
  case h =>
    exact x_move rfl (hE.eval 0 (by rfl) e0)
  intro a11 hE e15 kp
  replace e13 := (kp 13 rfl).trans e13
  replace e14 := (kp 14 rfl).trans e14
  apply sq_detg 16 hE k rfl (by rfl) (by rfl) rfl rfl e13
  case h =>
    exact x_nil rfl e15
  intro a12 hE e16 kp
  replace e13 := (kp 13 rfl).trans e13
  replace e14 := (kp 14 rfl).trans e14
  apply sq_detg 17 hE k rfl (by rfl) (by rfl) rfl rfl e13
  case h =>
    simp [go_sem, ↓IntWalk.iteOmega, ev e16]
    with_reducible rfl
  intro a13 hE e17 kp
  replace e13 := (kp 13 rfl).trans e13
  replace e14 := (kp 14 rfl).trans e14
  apply sq_detg 18 hE k rfl (by rfl) (by rfl) rfl rfl e13
  case h =>
    simp [go_sem, ↓IntWalk.iteOmega, ev e17, c2]
    with_reducible rfl
  intro a14 hE e18 kp
  replace e13 := (kp 13 rfl).trans e13
  replace e14 := (kp 14 rfl).trans e14
  apply sq_detg 19 hE k rfl (by rfl) (by rfl) rfl rfl e13
  case h =>
    exact x_dec (x_leq rfl e14 e18) (decide_eq_true (by omega))
  intro a15 hE e19 kp
  replace e13 := (kp 13 rfl).trans e13
  apply sq_det 20 hE k rfl (by rfl) (by rfl) rfl
  case h =>
    exact x_pick_t rfl e13 e19
  intro a16 hE e20 kp
  apply sq_det 21 hE k rfl (by rfl) (by rfl) rfl
  case h =>
    exact x_move rfl e20
  intro a17 hE e21 kp
  apply sq_detg 22 hE k rfl (by rfl) (by rfl) rfl rfl e21
  case h =>
    exact x_move rfl (hE.eval 2 (by rfl) e2)
  intro a18 hE e22 kp
  replace e21 := (kp 21 rfl).trans e21
  apply sq_detg 23 hE k rfl (by rfl) (by rfl) rfl rfl e21
  case h =>
    exact x_move rfl (hE.eval 0 (by rfl) e0)
  intro a19 hE e23 kp
  replace e21 := (kp 21 rfl).trans e21
  replace e22 := (kp 22 rfl).trans e22
  apply sq_detg 24 hE k rfl (by rfl) (by rfl) rfl rfl e21
  case h =>
    exact x_nil rfl e23
  intro a20 hE e24 kp
  replace e21 := (kp 21 rfl).trans e21
  replace e22 := (kp 22 rfl).trans e22
  apply sq_detg 25 hE k rfl (by rfl) (by rfl) rfl rfl e21
  case h =>
    simp [go_sem, ↓IntWalk.iteOmega, ev e24]
    with_reducible rfl
  intro a21 hE e25 kp
  replace e21 := (kp 21 rfl).trans e21
  replace e22 := (kp 22 rfl).trans e22
  apply sq_detg 26 hE k rfl (by rfl) (by rfl) rfl rfl e21
  case h =>
    simp [go_sem, ↓IntWalk.iteOmega, ev e25, c2]
    with_reducible rfl
  intro a22 hE e26 kp
  replace e21 := (kp 21 rfl).trans e21
  replace e22 := (kp 22 rfl).trans e22
  apply sq_detg 27 hE k rfl (by rfl) (by rfl) rfl rfl e21
  case h =>
    exact x_move rfl (hE.eval 1 (by rfl) e1)
  intro a23 hE e27 kp
  replace e21 := (kp 21 rfl).trans e21
  replace e22 := (kp 22 rfl).trans e22
  replace e26 := (kp 26 rfl).trans e26
  apply sq_detg 28 hE k rfl (by rfl) (by rfl) rfl rfl e21
  case h =>
    exact x_sub rfl e26 e27 (by omega)
  intro a24 hE e28 kp
  replace e21 := (kp 21 rfl).trans e21
  replace e22 := (kp 22 rfl).trans e22
  apply sq_detg 29 hE k rfl (by rfl) (by rfl) rfl rfl e21
  case h =>
    exact x_dec (x_leq rfl e22 e28) (decide_eq_true (by omega))
  intro a25 hE e29 kp
  replace e21 := (kp 21 rfl).trans e21
  apply sq_det 30 hE k rfl (by rfl) (by rfl) rfl
  case h =>
    exact x_pick_t rfl e21 e29
  intro a26 hE e30 kp
  apply sq_det 6 hE k rfl (by rfl) (by rfl) rfl
  case h =>
    exact x_assign rfl e30
  intro a27 hE e6 kp
  refine wpList_nil ?_
  replace k := k.env hE
  clear hE e0 e1 e2
  refine then_n ?_
  refine wp_ret ?_
  refine ret_F1 rfl k e6 ?_
  exact ⟨congrArg (fun b => Ending.returned (.bool b)) (show true = fitsB sz x y from (decide_eq_true (by omega)).symm), rfl⟩
end Go.Proofs.Ytdpohbaeopidmaa
