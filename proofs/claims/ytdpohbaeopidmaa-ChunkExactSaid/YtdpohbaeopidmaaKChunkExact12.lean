/- disc: stays, Settle, Of (printed by XDiscD.gen.py). -/
import Derived.Test.YtdpohbaeopidmaaKChunkExact10
import Derived.Test.YtdpohbaeopidmaaKChunkExact11
namespace Go.Proofs.Ytdpohbaeopidmaa
attribute [local simp] BigFrame.eval_const BigFrame.eval_global BigFrame.eval_func
set_option linter.unusedVariables false
set_option linter.unusedSimpArgs false
open Go.RowKit Go.Maps

theorem setK_drop (q : List UInt8) (L : Int → Option Sec) {xs : List Int} {j : Nat} {x : Int} (h : xs[j]? = some x) (S : List Sec) : setK q L (xs.drop j) j S = setK q L (xs.drop (j + 1)) (j + 1) (if staysB q j then S.set x.toNat ((L x).getD []) else S) := by
  rw [List.drop_eq_getElem_cons (List.getElem?_eq_some_iff.1 h).1, (List.getElem?_eq_some_iff.1 h).2]
  rfl
theorem DOk.setS {n : Nat} {S : List Sec} {L : Int → Option Sec} (h : DOk n S L) {i : Nat} {s : Sec} (hs : s.length = 16) : DOk n (S.set i s) L :=
  ⟨h.le, by rw [List.length_set]; exact h.len, fun x hx => by
    rcases List.mem_or_eq_of_mem_set hx with h1 | h1
    · exact h.sz x h1
    · rw [h1]; exact hs, h.rng⟩
theorem DOk.none {n : Nat} {S : List Sec} {L : Int → Option Sec} (h : DOk n S L) : DOk n S (fun _ => Option.none) := ⟨h.le, h.len, h.sz, fun i s e => by cases e⟩
theorem row_iN {w wx : World} {b o : Nat} {X : List Int} (h : Row w (some ⟨b, o, none⟩) 1 encI X) (hR : Ext w wx) {k : Nat} {x : Int} (hx : X[k]? = some x) :
    wx.cell? ⟨b, o + k, none⟩ = some (.int .i64 x) := by
  obtain ⟨b', o', e, -, hc⟩ := (h.below hR) k _ hx
  injection e with e
  injection e with e1 e2
  subst e1 e2
  have := hc 0 _ rfl
  rwa [Nat.mul_one, Nat.add_zero] at this
theorem rowE_of {E : Type} {enc : E → List Value} {k : Nat} (hk : ∀ x, (enc x).length = k) (hk0 : 0 < k) {w : World} {base n cap : Nat} {T : TypeId} {B : Option Addr} {X : List E} (h : w.ownsRow base T k (.slice B n cap) n (X.flatMap enc)) : Row w B k enc X := by
  obtain ⟨B', cap', e, _, _, _, hR⟩ := ownsRow_Row hk hk0 h
  cases e
  exact hR
section
variable {H : Nat} {A w : World} {X Y Z : Thing} {R : List Thing}
theorem OwnT.turn3 (h : OwnT H A (X :: Y :: Z :: R) w) : OwnT H A (Y :: Z :: X :: R) w := h.perm ((List.Perm.swap _ _ _).trans ((List.Perm.swap _ _ _).cons _))
theorem OwnT.drop3 (h : OwnT H A (X :: Y :: Z :: R) w) : OwnT H A (X :: Y :: R) w := h.sub (.cons_cons _ (.cons_cons _ (.cons _ (.refl _))))
end
theorem elemS : ElemI Try.prog 77 9 1 16 := ⟨Try.underlying77, by
  have h : (Try.prog.info? 9).map (fun i => (i.zero, i.size, i.bytes)) = some (some (.string (sB [])), 1, 16) := by kernel_rfl
  obtain ⟨i, h1, h2, h3, h4⟩ := info_parts h
  exact ⟨i, _, h1, h2, h3, h4, rfl⟩⟩

set_option maxRecDepth 100000 in
set_option maxHeartbeats 4000000 in
theorem stays_any (q : List UInt8) (i : Nat) (w : World) (hi : i ≤ 1000000) (hq : q.length ≤ 1000000) : Calls Try.prog 85 #[.string (sB q), .int .i64 i] w fun e w' => e = .returned (.bool (staysB q i)) ∧ w = w' := by
  by_cases hq0 : q = []
  · subst hq0
    refine calls_F Try.func85 rfl 21 rfl (by rfl) ?_
    intro a1 k hargs
    have e0 : a1.eval (.tmp 0) = .string (sB ([])) := hargs 0 _ rfl
    have e1 : a1.eval (.tmp 1) = .int .i64 ↑i := hargs 1 _ rfl
    clear hargs
    refine wp_seq ?_
    refine wp_region_lit ?_
    have hE := Env.refl a1 [4]
    apply sq_det 4 hE k rfl (by rfl) (by rfl) rfl
    case h =>
      exact x_assign rfl rfl
    intro a2 hE e4 kp
    refine wpList_nil ?_
    replace e0 := hE.eval 0 (by rfl) e0
    replace e1 := hE.eval 1 (by rfl) e1
    replace k := k.env hE
    clear hE e4
    refine then_n ?_
    refine wp_seq ?_
    refine wp_region_lit ?_
    have hE := Env.refl a2 [5, 6, 7, 8, 9, 10, 11, 12, 13, 14, 15, 16, 17, 18, 19, 20, 4]
    apply sq_det 5 hE k rfl (by rfl) (by rfl) rfl
    case h =>
      exact x_move rfl (hE.eval 0 (by rfl) e0)
    intro a3 hE e5 kp
    apply sq_det 6 hE k rfl (by rfl) (by rfl) rfl
    case h =>
      exact x_dec (x_nes (l := []) (m := []) rfl e5 rfl) (decide_eq_false (fun h => h rfl))
    intro a4 hE e6 kp
    apply sq_det 7 hE k rfl (by rfl) (by rfl) rfl
    case h =>
      exact x_move rfl e6
    intro a5 hE e7 kp
    refine sq_skipg 8 hE k rfl (by rfl) (by rfl) rfl rfl (.inl e7) ?_
    intro a6 hE e8 kp
    replace e7 := (kp 7 rfl).trans e7
    refine sq_skipg 9 hE k rfl (by rfl) (by rfl) rfl rfl (.inl e7) ?_
    intro a7 hE e9 kp
    replace e7 := (kp 7 rfl).trans e7
    replace e8 := (kp 8 rfl).trans e8
    refine sq_skipg 10 hE k rfl (by rfl) (by rfl) rfl rfl (.inl e7) ?_
    intro a8 hE e10 kp
    replace e7 := (kp 7 rfl).trans e7
    replace e8 := (kp 8 rfl).trans e8
    refine sq_skipg 11 hE k rfl (by rfl) (by rfl) rfl rfl (.inl e7) ?_
    intro a9 hE e11 kp
    replace e7 := (kp 7 rfl).trans e7
    replace e8 := (kp 8 rfl).trans e8
    replace e10 := (kp 10 rfl).trans e10
    refine sq_skipg 12 hE k rfl (by rfl) (by rfl) rfl rfl (.inl e7) ?_
    intro a10 hE e12 kp
    replace e7 := (kp 7 rfl).trans e7
    replace e8 := (kp 8 rfl).trans e8
    replace e10 := (kp 10 rfl).trans e10
    refine sq_skipg 13 hE k rfl (by rfl) (by rfl) rfl rfl (.inl e7) ?_
    intro a11 hE e13 kp
    replace e7 := (kp 7 rfl).trans e7
    replace e8 := (kp 8 rfl).trans e8
    refine sq_skipg 14 hE k rfl (by rfl) (by rfl) rfl rfl (.inl e7) ?_
    intro a12 hE e14 kp
    replace e7 := (kp 7 rfl).trans e7
    refine sq_skipg 15 hE k rfl (by rfl) (by rfl) rfl rfl (.inl e7) ?_
    intro a13 hE e15 kp
    replace e7 := (kp 7 rfl).trans e7
    replace e14 := (kp 14 rfl).trans e14
    refine sq_skipg 16 hE k rfl (by rfl) (by rfl) rfl rfl (.inl e7) ?_
    intro a14 hE e16 kp
    replace e7 := (kp 7 rfl).trans e7
    replace e14 := (kp 14 rfl).trans e14
    refine sq_skipg 17 hE k rfl (by rfl) (by rfl) rfl rfl (.inl e7) ?_
    intro a15 hE e17 kp
    replace e7 := (kp 7 rfl).trans e7
    refine sq_skipg 18 hE k rfl (by rfl) (by rfl) rfl rfl (.inl e7) ?_
    intro a16 hE e18 kp
    replace e7 := (kp 7 rfl).trans e7
    refine sq_skipg 19 hE k rfl (by rfl) (by rfl) rfl rfl (.inl e7) ?_
    intro a17 hE e19 kp
    replace e7 := (kp 7 rfl).trans e7
    apply sq_det 20 hE k rfl (by rfl) (by rfl) rfl
    case h =>
      exact x_pick_f rfl e7 rfl
    intro a18 hE e20 kp
    apply sq_det 4 hE k rfl (by rfl) (by rfl) rfl
    case h =>
      exact x_assign rfl e20
    intro a19 hE e4 kp
    refine wpList_nil ?_
    replace k := k.env hE
    clear hE e0 e1
    refine then_n ?_
    refine wp_ret ?_
    refine ret_F1 rfl k e4 ?_
    exact ⟨rfl, rfl⟩
  have hql : 0 < q.length := List.length_pos_iff.2 hq0
  have hml : i / 8 % q.length < q.length := Nat.mod_lt _ hql
  refine calls_F Try.func85 rfl 21 rfl (by rfl) ?_
  intro a1 k hargs
  have e0 : a1.eval (.tmp 0) = .string (sB q) := hargs 0 _ rfl
  have e1 : a1.eval (.tmp 1) = .int .i64 ↑i := hargs 1 _ rfl
  clear hargs
  refine wp_seq ?_
  refine wp_region_lit ?_
  have hE := Env.refl a1 [4]
  apply sq_det 4 hE k rfl (by rfl) (by rfl) rfl
  case h =>
    exact x_assign rfl rfl
  intro a2 hE e4 kp
  refine wpList_nil ?_
  replace e0 := hE.eval 0 (by rfl) e0
  replace e1 := hE.eval 1 (by rfl) e1
  replace k := k.env hE
  clear hE e4
  refine then_n ?_
  refine wp_seq ?_
  refine wp_region_lit ?_
  have hE := Env.refl a2 [5, 6, 7, 8, 9, 10, 11, 12, 13, 14, 15, 16, 17, 18, 19, 20, 4]
  apply sq_det 5 hE k rfl (by rfl) (by rfl) rfl
  case h =>
    exact x_move rfl (hE.eval 0 (by rfl) e0)
  intro a3 hE e5 kp
  apply sq_det 6 hE k rfl (by rfl) (by rfl) rfl
  case h =>
    exact x_dec (x_nes (l := q) (m := []) rfl e5 rfl) (decide_eq_true hq0)
  intro a4 hE e6 kp
  apply sq_det 7 hE k rfl (by rfl) (by rfl) rfl
  case h =>
    exact x_move rfl e6
  intro a5 hE e7 kp
  apply sq_detg 8 hE k rfl (by rfl) (by rfl) rfl rfl e7
  case h =>
    exact x_move rfl (hE.eval 0 (by rfl) e0)
  intro a6 hE e8 kp
  replace e7 := (kp 7 rfl).trans e7
  apply sq_detg 9 hE k rfl (by rfl) (by rfl) rfl rfl e7
  case h =>
    exact x_move rfl (hE.eval 1 (by rfl) e1)
  intro a7 hE e9 kp
  replace e7 := (kp 7 rfl).trans e7
  replace e8 := (kp 8 rfl).trans e8
  apply sq_detg 10 hE k rfl (by rfl) (by rfl) rfl rfl e7
  case h =>
    exact x_quoN (m := i) (j := 8) rfl e9 rfl rfl (by decide) (by omega)
  intro a8 hE e10 kp
  replace e7 := (kp 7 rfl).trans e7
  replace e8 := (kp 8 rfl).trans e8
  apply sq_detg 11 hE k rfl (by rfl) (by rfl) rfl rfl e7
  case h =>
    exact x_move rfl (hE.eval 0 (by rfl) e0)
  intro a9 hE e11 kp
  replace e7 := (kp 7 rfl).trans e7
  replace e8 := (kp 8 rfl).trans e8
  replace e10 := (kp 10 rfl).trans e10
  apply sq_detg 12 hE k rfl (by rfl) (by rfl) rfl rfl e7
  case h =>
    exact x_len_l Try.underlying9 rfl e11
  intro a10 hE e12 kp
  replace e7 := (kp 7 rfl).trans e7
  replace e8 := (kp 8 rfl).trans e8
  replace e10 := (kp 10 rfl).trans e10
  apply sq_detg 13 hE k rfl (by rfl) (by rfl) rfl rfl e7
  case h =>
    exact x_remN (m := i / 8) (j := q.length) rfl e10 e12 rfl hql
  intro a11 hE e13 kp
  replace e7 := (kp 7 rfl).trans e7
  replace e8 := (kp 8 rfl).trans e8
  apply sq_detg 14 hE k rfl (by rfl) (by rfl) rfl rfl e7
  case h =>
    exact x_index_s (j := i / 8 % q.length) Try.underlying9 rfl e8 e13 hml
  intro a12 hE e14 kp
  replace e7 := (kp 7 rfl).trans e7
  apply sq_detg 15 hE k rfl (by rfl) (by rfl) rfl rfl e7
  case h =>
    exact x_move rfl (hE.eval 1 (by rfl) e1)
  intro a13 hE e15 kp
  replace e7 := (kp 7 rfl).trans e7
  replace e14 := (kp 14 rfl).trans e14
  apply sq_detg 16 hE k rfl (by rfl) (by rfl) rfl rfl e7
  case h =>
    exact x_remN (m := i) (j := 8) rfl e15 rfl rfl (by decide)
  intro a14 hE e16 kp
  replace e7 := (kp 7 rfl).trans e7
  replace e14 := (kp 14 rfl).trans e14
  apply sq_detg 17 hE k rfl (by rfl) (by rfl) rfl rfl e7
  case h =>
    exact x_shr8 rfl e14 e16 (by omega)
  intro a15 hE e17 kp
  replace e7 := (kp 7 rfl).trans e7
  apply sq_detg 18 hE k rfl (by rfl) (by rfl) rfl rfl e7
  case h =>
    exact x_and8 rfl e17 rfl
  intro a16 hE e18 kp
  replace e7 := (kp 7 rfl).trans e7
  apply sq_detg 19 hE k rfl (by rfl) (by rfl) rfl rfl e7
  case h =>
    exact x_eql rfl e18 rfl
  intro a17 hE e19 kp
  replace e7 := (kp 7 rfl).trans e7
  apply sq_det 20 hE k rfl (by rfl) (by rfl) rfl
  case h =>
    exact x_pick_t rfl e7 e19
  intro a18 hE e20 kp
  apply sq_det 4 hE k rfl (by rfl) (by rfl) rfl
  case h =>
    exact x_assign rfl e20
  intro a19 hE e4 kp
  refine wpList_nil ?_
  replace k := k.env hE
  clear hE e0 e1
  refine then_n ?_
  refine wp_ret ?_
  refine ret_F1 rfl k e4 ?_
  exact ⟨by unfold staysB; rw [decide_eq_true hq0]; rfl, rfl⟩
set_option maxRecDepth 100000 in
set_option maxHeartbeats 4000000 in
theorem dsettle_on {H : Nat} {A0 : World} {R : List Thing} {p mb n cap bm : Nat} {B : Option Addr} {S : List Sec} {L : Int → Option Sec} {M : Mn} (q : List UInt8) (w : World) (O : OwnT H A0 (tDisc p mb B n cap bm S L :: tMn mb M :: R) w) (hq : q.length ≤ 1000000) (ha : M.away = false) : Calls Try.prog 38 #[.pointer (some ⟨p, 0, none⟩), .string (sB q)] w fun e w' => e = .returned (.int .i64 11) ∧ OwnT H A0 (tDisc p mb B n cap bm S L :: tMn mb M :: R) w' := by
  have hk := O.dok
  have hnl := hk.le
  have c0 : w.cell? ⟨p, 0, none⟩ = some (.pointer (some ⟨mb, 0, none⟩)) := (OwnT.disc O).blk.cell 0
  refine calls_F Try.func38 rfl 44 rfl (by rfl) ?_
  intro a1 k hargs
  have e0 : a1.eval (.tmp 0) = .pointer (some ⟨p, 0, none⟩) := hargs 0 _ rfl
  have e1 : a1.eval (.tmp 1) = .string (sB q) := hargs 1 _ rfl
  clear hargs
  refine wp_seq ?_
  refine wp_region_lit ?_
  have hE := Env.refl a1 [4]
  apply sq_det 4 hE k rfl (by rfl) (by rfl) rfl
  case h =>
    exact x_assign rfl rfl
  intro a2 hE e4 kp
  refine wpList_nil ?_
  replace e0 := hE.eval 0 (by rfl) e0
  replace e1 := hE.eval 1 (by rfl) e1
  replace k := k.env hE
  clear hE e4
  refine then_n ?_
  refine wp_seq ?_
  refine wp_block ?_
  refine wp_seq ?_
  refine wp_region_lit ?_
  have hE := Env.refl a2 [8, 9, 7]
  apply sq_det 8 hE k rfl (by rfl) (by rfl) rfl
  case h =>
    exact x_move rfl (hE.eval 0 (by rfl) e0)
  intro a3 hE e8 kp
  apply sq_det 9 hE k rfl (by rfl) (by rfl) rfl
  case h =>
    simp [go_sem, ↓IntWalk.iteOmega, ev e8]
    with_reducible rfl
  intro a4 hE e9 kp
  apply sq_det 7 hE k rfl (by rfl) (by rfl) rfl
  case h =>
    exact x_assign rfl e9
  intro a5 hE e7 kp
  refine wpList_nil ?_
  replace e0 := hE.eval 0 (by rfl) e0
  replace e1 := hE.eval 1 (by rfl) e1
  replace k := k.env hE
  clear hE
  refine then_n ?_
  refine cond_f e7 rfl ?_
  refine wp_seq ?_
  refine wp_region_lit ?_
  have hE := Env.refl a5 [11, 12, 13, 14, 15, 10]
  apply sq_det 11 hE k rfl (by rfl) (by rfl) rfl
  case h =>
    exact x_move rfl (hE.eval 0 (by rfl) e0)
  intro a6 hE e11 kp
  apply sq_det 12 hE k rfl (by rfl) (by rfl) rfl
  case h =>
    exact x_nil rfl e11
  intro a7 hE e12 kp
  apply sq_det 13 hE k rfl (by rfl) (by rfl) rfl
  case h =>
    simp [go_sem, ↓IntWalk.iteOmega, ev e12]
    with_reducible rfl
  intro a8 hE e13 kp
  apply sq_det 14 hE k rfl (by rfl) (by rfl) rfl
  case h =>
    simp [go_sem, ↓IntWalk.iteOmega, ev e13, c0]
    with_reducible rfl
  intro a9 hE e14 kp
  apply sq_call 15 hE k rfl (by rfl) (by rfl) rfl
  case h =>
    simp [go_sem, ↓IntWalk.iteOmega, ev e14]
    with_reducible exact ⟨rfl, rfl⟩
  case hc => exact on_mn (OwnT.get O 1 rfl)
  rintro e _ ⟨rfl, rfl⟩
  refine ⟨_, congrArg (fun b => Ending.returned (.bool !b)) ha, ?_⟩
  intro a10 hE e15 kp
  apply sq_det 10 hE k rfl (by rfl) (by rfl) rfl
  case h =>
    exact x_assign rfl e15
  intro a11 hE e10 kp
  refine wpList_nil ?_
  replace e0 := hE.eval 0 (by rfl) e0
  replace e1 := hE.eval 1 (by rfl) e1
  replace k := k.env hE
  clear hE e7
  refine then_n ?_
  refine cond_t e10 rfl ?_
  refine wp_seq ?_
  refine wp_region_lit ?_
  have hE := Env.refl a11 [4]
  apply sq_det 4 hE k rfl (by rfl) (by rfl) rfl
  case h =>
    exact x_assign rfl rfl
  intro a12 hE e4 kp
  refine wpList_nil ?_
  replace k := k.env hE
  clear hE e0 e1 e10
  refine then_n ?_
  refine wp_ret ?_
  refine block_r ?_
  refine then_r ?_
  refine ret_F1 rfl k e4 ?_
  exact ⟨rfl, O⟩
set_option maxRecDepth 100000 in
set_option maxHeartbeats 4000000 in
theorem dsettle_off {H : Nat} {A0 : World} {R : List Thing} {p mb n cap bm : Nat} {B : Option Addr} {S : List Sec} {L : Int → Option Sec} {M : Mn} (q : List UInt8) (w : World) (O : OwnT H A0 (tDisc p mb B n cap bm S L :: tMn mb M :: R) w) (hq : q.length ≤ 1000000) (ha : M.away = true) : Calls Try.prog 38 #[.pointer (some ⟨p, 0, none⟩), .string (sB q)] w fun e w' => e = .returned (.int .i64 0) ∧ OwnT H A0 (tDisc p mb B n cap bm (setK q L (looL n L) 0 S) (fun _ => none) :: tMn mb M :: R) w' := by
  have hk := O.dok
  have hnl := hk.le
  have c0 : w.cell? ⟨p, 0, none⟩ = some (.pointer (some ⟨mb, 0, none⟩)) := (OwnT.disc O).blk.cell 0
  refine calls_F Try.func38 rfl 44 rfl (by rfl) ?_
  intro a1 k hargs
  have e0 : a1.eval (.tmp 0) = .pointer (some ⟨p, 0, none⟩) := hargs 0 _ rfl
  have e1 : a1.eval (.tmp 1) = .string (sB q) := hargs 1 _ rfl
  clear hargs
  obtain ⟨xs, hxs⟩ : ∃ xs, looL n L = xs := ⟨_, rfl⟩
  have hxn : xs.length ≤ n := hxs ▸ riseN_le n _
  have hxm : ∀ x ∈ xs, (0 ≤ x ∧ x < n) ∧ ∃ s, L x = some s := fun x hx => by rw [← hxs] at hx; have := mem_riseN.1 hx; exact ⟨this.1, Option.isSome_iff_exists.1 this.2⟩
  rw [hxs]
  refine wp_seq ?_
  refine wp_region_lit ?_
  have hE := Env.refl a1 [4]
  apply sq_det 4 hE k rfl (by rfl) (by rfl) rfl
  case h =>
    exact x_assign rfl rfl
  intro a2 hE e4 kp
  refine wpList_nil ?_
  replace e0 := hE.eval 0 (by rfl) e0
  replace e1 := hE.eval 1 (by rfl) e1
  replace k := k.env hE
  clear hE e4
  refine then_n ?_
  refine wp_seq ?_
  refine wp_block ?_
  refine wp_seq ?_
  refine wp_region_lit ?_
  have hE := Env.refl a2 [8, 9, 7]
  apply sq_det 8 hE k rfl (by rfl) (by rfl) rfl
  case h =>
    exact x_move rfl (hE.eval 0 (by rfl) e0)
  intro a3 hE e8 kp
  apply sq_det 9 hE k rfl (by rfl) (by rfl) rfl
  case h =>
    simp [go_sem, ↓IntWalk.iteOmega, ev e8]
    with_reducible rfl
  intro a4 hE e9 kp
  apply sq_det 7 hE k rfl (by rfl) (by rfl) rfl
  case h =>
    exact x_assign rfl e9
  intro a5 hE e7 kp
  refine wpList_nil ?_
  replace e0 := hE.eval 0 (by rfl) e0
  replace e1 := hE.eval 1 (by rfl) e1
  replace k := k.env hE
  clear hE
  refine then_n ?_
  refine cond_f e7 rfl ?_
  refine wp_seq ?_
  refine wp_region_lit ?_
  have hE := Env.refl a5 [11, 12, 13, 14, 15, 10]
  apply sq_det 11 hE k rfl (by rfl) (by rfl) rfl
  case h =>
    exact x_move rfl (hE.eval 0 (by rfl) e0)
  intro a6 hE e11 kp
  apply sq_det 12 hE k rfl (by rfl) (by rfl) rfl
  case h =>
    exact x_nil rfl e11
  intro a7 hE e12 kp
  apply sq_det 13 hE k rfl (by rfl) (by rfl) rfl
  case h =>
    simp [go_sem, ↓IntWalk.iteOmega, ev e12]
    with_reducible rfl
  intro a8 hE e13 kp
  apply sq_det 14 hE k rfl (by rfl) (by rfl) rfl
  case h =>
    simp [go_sem, ↓IntWalk.iteOmega, ev e13, c0]
    with_reducible rfl
  intro a9 hE e14 kp
  apply sq_call 15 hE k rfl (by rfl) (by rfl) rfl
  case h =>
    simp [go_sem, ↓IntWalk.iteOmega, ev e14]
    with_reducible exact ⟨rfl, rfl⟩
  case hc => exact on_mn (OwnT.get O 1 rfl)
  rintro e _ ⟨rfl, rfl⟩
  refine ⟨_, congrArg (fun b => Ending.returned (.bool !b)) ha, ?_⟩
  intro a10 hE e15 kp
  apply sq_det 10 hE k rfl (by rfl) (by rfl) rfl
  case h =>
    exact x_assign rfl e15
  intro a11 hE e10 kp
  refine wpList_nil ?_
  replace e0 := hE.eval 0 (by rfl) e0
  replace e1 := hE.eval 1 (by rfl) e1
  replace k := k.env hE
  clear hE e7
  refine then_n ?_
  refine cond_f e10 rfl ?_
  refine wp_skip ?_
  refine block_n ?_
  refine then_n ?_
  refine wp_seq ?_
  refine wp_seq ?_
  refine wp_region_lit ?_
  have hE := Env.refl a11 [16, 17, 18, 19]
  apply sq_det 16 hE k rfl (by rfl) (by rfl) rfl
  case h =>
    exact x_move rfl (hE.eval 0 (by rfl) e0)
  intro a12 hE e16 kp
  apply sq_call 17 hE k rfl (by rfl) (by rfl) rfl
  case h =>
    simp [go_sem, ↓IntWalk.iteOmega, ev e16]
    with_reducible exact ⟨rfl, rfl⟩
  case hc => exact dloose_any _ (OwnT.disc O)
  rintro e w14 ⟨Bx, capx, rfl, hcx, hmx, hrow5, -, hE5⟩
  replace O := (OwnT.newRow O hE5 hrow5).turn3
  clear hE5 hrow5
  rw [hxs] at hcx O
  rw [hxs]
  refine ⟨_, rfl, ?_⟩
  intro a13 hE e17 kp
  apply sq_det 18 hE k rfl (by rfl) (by rfl) rfl
  case h =>
    exact x_len Try.underlying49 rfl e17
  intro a15 hE e18 kp
  replace e17 := (kp 17 rfl).trans e17
  apply sq_det 19 hE k rfl (by rfl) (by rfl) rfl
  case h =>
    exact x_move rfl rfl
  intro a16 hE e19 kp
  replace e17 := (kp 17 rfl).trans e17
  replace e18 := (kp 18 rfl).trans e18
  refine wpList_nil ?_
  replace e0 := hE.eval 0 (by rfl) e0
  replace e1 := hE.eval 1 (by rfl) e1
  replace k := k.env hE
  clear hE e10
  refine then_n ?_
  refine wp_block ?_
  refine wp_loop (fun a w => Fr 44 a ∧ a.eval (.tmp 0) = .pointer (some ⟨p, 0, none⟩) ∧ a.eval (.tmp 1) = .string (sB q) ∧ a.eval (.tmp 17) = .slice Bx xs.length capx ∧ a.eval (.tmp 18) = .int .i64 ↑xs.length ∧ ∃ (j : Nat) (S' : List Sec), a.eval (.tmp 19) = .int .i64 ↑j ∧ j ≤ xs.length ∧ setK q L (xs.drop j) j S' = setK q L xs 0 S ∧ OwnT H A0 ((tDisc p mb B n cap bm S' L) :: (tMn mb M) :: (tRow 3 1 (.slice Bx xs.length capx) xs.length (xs.flatMap encI)) :: R) w) (fun a w => xs.length - (intOf (a.eval (.tmp 19))).toNat) ?_ ?_
  · exact ⟨k, e0, e1, e17, e18, 0, S, e19, Nat.zero_le _, rfl, O⟩
  intro a17 w18 hI
  clear k e0 e1 e17 e18
  obtain ⟨k, e0, e1, e17, e18, h_⟩ := hI
  clear O e19
  obtain ⟨j, S', e19, hj, hS, O⟩ := h_
  have m19 := e19
  have hk' := O.dok
  
  refine wp_seq ?_
  refine wp_region_lit ?_
  have hE := Env.refl a17 [20]
  apply sq_det 20 hE k rfl (by rfl) (by rfl) rfl
  case h =>
    exact x_lss rfl (hE.eval 19 (by rfl) e19) (hE.eval 18 (by rfl) e18)
  intro a19 hE e20 kp
  refine wpList_nil ?_
  replace e0 := hE.eval 0 (by rfl) e0
  replace e1 := hE.eval 1 (by rfl) e1
  replace e17 := hE.eval 17 (by rfl) e17
  replace e18 := hE.eval 18 (by rfl) e18
  replace e19 := hE.eval 19 (by rfl) e19
  replace k := k.env hE
  clear hE
  refine then_n ?_
  refine wp_seq ?_
  by_cases hlt : j < xs.length
  · have hltI : (j : Int) < (xs.length : Int) := by omega
    refine cond_t e20 (congrArg Value.bool (decide_eq_true (by omega))) ?_
    clear e20
    obtain ⟨x, hx⟩ : ∃ x, xs[j]? = some x := ⟨_, List.getElem?_eq_getElem hlt⟩
    have RX := rowE_of (enc := encI) (fun _ => rfl) Nat.one_pos (OwnT.get O 2 rfl : World.ownsRow _ 0 3 1 (.slice Bx xs.length capx) xs.length (xs.flatMap encI))
    obtain ⟨bx, ox, rfl, -, -⟩ := RX j _ hx
    obtain ⟨⟨hx0, hx1⟩, sx, hLx⟩ := hxm x (List.mem_of_getElem? hx)
    have hsx := (hk.rng x sx hLx).2
    obtain ⟨x, rfl⟩ := Int.eq_ofNat_of_zero_le hx0
    rw [setK_drop q L hx] at hS
    
    refine wp_skip ?_
    refine then_n ?_
    refine wp_seq ?_
    refine wp_block ?_
    refine wp_seq ?_
    refine wp_region_lit ?_
    have hE := Env.refl a19 [21, 22, 23, 5, 6]
    apply sq_det 21 hE k rfl (by rfl) (by rfl) rfl
    case h =>
      exact x_move rfl (hE.eval 19 (by rfl) e19)
    intro a20 hE e21 kp
    apply sq_det 22 hE k rfl (by rfl) (by rfl) rfl
    case h =>
      simp [go_sem, ↓IntWalk.iteOmega, ev (hE.eval 17 (by rfl) e17), ev (hE.eval 19 (by rfl) e19)]
      with_reducible rfl
    intro a21 hE e22 kp
    replace e21 := (kp 21 rfl).trans e21
    apply sq_det 23 hE k rfl (by rfl) (by rfl) rfl
    case h =>
      have cx := row_iN RX (Ext.refl _) hx
      simp [go_sem, ↓IntWalk.iteOmega, ev e22, cx]
      with_reducible rfl
    intro a22 hE e23 kp
    replace e21 := (kp 21 rfl).trans e21
    apply sq_det 5 hE k rfl (by rfl) (by rfl) rfl
    case h =>
      exact x_assign rfl e21
    intro a23 hE e5 kp
    replace e23 := (kp 23 rfl).trans e23
    apply sq_det 6 hE k rfl (by rfl) (by rfl) rfl
    case h =>
      exact x_assign rfl e23
    intro a24 hE e6 kp
    replace e5 := (kp 5 rfl).trans e5
    refine wpList_nil ?_
    replace e0 := hE.eval 0 (by rfl) e0
    replace e1 := hE.eval 1 (by rfl) e1
    replace e17 := hE.eval 17 (by rfl) e17
    replace e18 := hE.eval 18 (by rfl) e18
    replace e19 := hE.eval 19 (by rfl) e19
    replace k := k.env hE
    clear hE
    refine then_n ?_
    by_cases hst : staysB q j = true
    · rw [if_pos hst] at hS
      refine wp_seq ?_
      refine wp_region_lit ?_
      have hE := Env.refl a24 [24, 25, 26]
      apply sq_det 24 hE k rfl (by rfl) (by rfl) rfl
      case h =>
        exact x_move rfl (hE.eval 1 (by rfl) e1)
      intro a25 hE e24 kp
      apply sq_det 25 hE k rfl (by rfl) (by rfl) rfl
      case h =>
        exact x_move rfl (hE.eval 5 (by rfl) e5)
      intro a26 hE e25 kp
      replace e24 := (kp 24 rfl).trans e24
      apply sq_call 26 hE k rfl (by rfl) (by rfl) rfl
      case h =>
        simp [go_sem, ↓IntWalk.iteOmega, ev e24, ev e25]
        with_reducible exact ⟨rfl, rfl⟩
      case hc => exact stays_any q j _ (by omega) hq
      rintro e _ ⟨rfl, rfl⟩
      refine ⟨_, congrArg (fun b => Ending.returned (.bool b)) hst, ?_⟩
      intro a27 hE e26 kp
      refine wpList_nil ?_
      replace e0 := hE.eval 0 (by rfl) e0
      replace e1 := hE.eval 1 (by rfl) e1
      replace e6 := hE.eval 6 (by rfl) e6
      replace e17 := hE.eval 17 (by rfl) e17
      replace e18 := hE.eval 18 (by rfl) e18
      replace e19 := hE.eval 19 (by rfl) e19
      replace k := k.env hE
      clear hE e5
      refine then_n ?_
      refine cond_t e26 rfl ?_
      obtain ⟨g, cap', hB, -⟩ := row1_some (OwnT.disc O).row (by omega)
      injection hB with hB _ hcap
      subst hB hcap
      
      refine wp_typed (R := Ext) (w0 := w18) [[], [0], [0, 1], [0, 1, 2], [], [], [5], [5, 6], [5, 6, 7], [], [5, 6, 7, 8, 9], [0, 1, 2, 3, 4, 5, 6, 7, 8, 9, 10], [0, 1, 2, 3, 4, 5, 6, 7, 8, 9, 10, 11]] [27, 28, 29, 30, 31, 32, 33, 34, 35, 36, 37, 38] Ext.refl (fun _ _ _ => Ext.trans) (Ext.drew _) (by kernel_rfl) ?_
      apply Build.det 27 Ext.refl (by rfl) (by rw [k.size]; rfl) rfl
      case h =>
        intro ax wx hE hR hF
        exact x_move rfl (hE.eval 0 (by rfl) e0)
      apply Build.det 28 Ext.refl (by rfl) (by rw [k.size]; rfl) rfl
      case h =>
        intro ax wx hE hR hF
        have e27 : ax.eval (.tmp 27) = _ := hF 0 (det 27 _) (by decide) (.head _)
        exact x_nil rfl e27
      apply Build.det 29 Ext.refl (by rfl) (by rw [k.size]; rfl) rfl
      case h =>
        intro ax wx hE hR hF
        have e28 : ax.eval (.tmp 28) = _ := hF 1 (det 28 _) (by decide) (.head _)
        simp [go_sem, ↓IntWalk.iteOmega, ev e28]
        with_reducible rfl
      apply Build.det 30 Ext.refl (by rfl) (by rw [k.size]; rfl) rfl
      case h =>
        intro ax wx hE hR hF
        have e29 : ax.eval (.tmp 29) = _ := hF 2 (det 29 _) (by decide) (.head _)
        have c1 : wx.cell? ⟨p, 1, none⟩ = some (.slice (some ⟨g, 0, none⟩) n cap) := ((OwnT.disc O).ext hR).blk.cell 1
        simp [go_sem, ↓IntWalk.iteOmega, ev e29, c1]
        with_reducible rfl
      apply Build.det 31 Ext.refl (by rfl) (by rw [k.size]; rfl) rfl
      case h =>
        intro ax wx hE hR hF
        exact x_move rfl (hE.eval 6 (by rfl) e6)
      apply Build.det 32 Ext.refl (by rfl) (by rw [k.size]; rfl) rfl
      case h =>
        intro ax wx hE hR hF
        exact x_move rfl (hE.eval 0 (by rfl) e0)
      apply Build.det 33 Ext.refl (by rfl) (by rw [k.size]; rfl) rfl
      case h =>
        intro ax wx hE hR hF
        have e32 : ax.eval (.tmp 32) = _ := hF 5 (det 32 _) (by decide) (.head _)
        exact x_nil rfl e32
      apply Build.det 34 Ext.refl (by rfl) (by rw [k.size]; rfl) rfl
      case h =>
        intro ax wx hE hR hF
        have e33 : ax.eval (.tmp 33) = _ := hF 6 (det 33 _) (by decide) (.head _)
        simp [go_sem, ↓IntWalk.iteOmega, ev e33]
        with_reducible rfl
      apply Build.det 35 Ext.refl (by rfl) (by rw [k.size]; rfl) rfl
      case h =>
        intro ax wx hE hR hF
        have e34 : ax.eval (.tmp 34) = _ := hF 7 (det 34 _) (by decide) (.head _)
        have c2 : wx.cell? ⟨p, 2, none⟩ = some (.map (some bm)) := ((OwnT.disc O).ext hR).blk.cell 2
        simp [go_sem, ↓IntWalk.iteOmega, ev e34, c2]
        with_reducible rfl
      apply Build.det 36 Ext.refl (by rfl) (by rw [k.size]; rfl) rfl
      case h =>
        intro ax wx hE hR hF
        exact x_move rfl (hE.eval 6 (by rfl) e6)
      apply Build.det 37 Ext.refl (by rfl) (by rw [k.size]; rfl) rfl
      case h =>
        intro ax wx hE hR hF
        have e35 : ax.eval (.tmp 35) = _ := hF 8 (det 35 _) (by decide) (.tail _ (.head _))
        have e36 : ax.eval (.tmp 36) = _ := hF 9 (det 36 _) (by decide) (.head _)
        exact x_val (x_look ((OwnT.disc O).ext hR).map rfl Try.underlying133 (zeroStr _) e35 e36 (wfV_of (by omega) (by omega))) (by unfold looV; rw [hLx])
      apply Build.det 38 Ext.refl (by rfl) (by rw [k.size]; rfl) rfl
      case h =>
        intro ax wx hE hR hF
        have e30 : ax.eval (.tmp 30) = _ := hF 3 (det 30 _) (by decide) (.tail _ (.tail _ (.tail _ (.tail _ (.tail _ (.tail _ (.tail _ (.head _))))))))
        have e31 : ax.eval (.tmp 31) = _ := hF 4 (det 31 _) (by decide) (.tail _ (.tail _ (.tail _ (.tail _ (.tail _ (.tail _ (.head _)))))))
        simp [go_sem, ↓IntWalk.iteOmega, ev e30, ev e31]
        with_reducible rfl
      apply Build.stop
      refine ⟨by kernel_rfl, .inr ⟨by kernel_rfl, _, rfl, rfl, ?_⟩⟩
      intro a28 w29 hE R hF
      have e37 : a28.eval (.tmp 37) = _ := hF 10 (det 37 _) (.tail _ (.head _))
      have e38 : a28.eval (.tmp 38) = _ := hF 11 (det 38 _) (.head _)
      clear hF
      replace O := OwnT.ext O R
      clear R
      obtain ⟨hc, hfz⟩ := row1_cell (OwnT.disc O).row (i := x) (List.getElem?_eq_getElem (by simp only [strsV, List.length_map]; have := hk'.len; omega))
      refine last_skip (w' := w29.setCell ⟨g, x, none⟩ (.string (sB sx))) rfl (by simp [go_sem, ↓IntWalk.iteOmega, ev e38, ev e37, hc, hfz]) ?_
      replace O := OwnT.setRow1_1 (OwnT.openD O) (i := x) (by omega) (.string (sB sx))
      rw [← strsV_set] at O
      clear hc hfz
      replace O : OwnT H A0 (tDisc p mb (some ⟨g, 0, none⟩) n cap bm (S'.set x sx) L :: tMn mb M :: tRow 3 1 (.slice (some ⟨bx, ox, none⟩) xs.length capx) xs.length (xs.flatMap encI) :: R) _ := OwnT.closeD O (hk'.setS hsx)
      generalize (w29.setCell ⟨g, x, none⟩ (.string (sB sx))) = w30 at O ⊢
      replace e0 := hE.eval 0 (by rfl) e0
      replace e1 := hE.eval 1 (by rfl) e1
      replace e17 := hE.eval 17 (by rfl) e17
      replace e18 := hE.eval 18 (by rfl) e18
      replace e19 := hE.eval 19 (by rfl) e19
      replace k := k.env hE
      clear hE e6 e26 e37 e38
      refine block_n ?_
      refine then_n ?_
      refine wp_region_lit ?_
      have hE := Env.refl a28 [39, 19]
      apply sq_det 39 hE k rfl (by rfl) (by rfl) rfl
      case h =>
        exact x_add rfl e19 rfl (by omega)
      intro a31 hE e39 kp
      replace e19 := (kp 19 rfl).trans e19
      apply sq_det 19 hE k rfl (by rfl) (by rfl) rfl
      case h =>
        exact x_move rfl e39
      intro a32 hE e19 kp
      refine wpList_nil ?_
      replace e0 := hE.eval 0 (by rfl) e0
      replace e1 := hE.eval 1 (by rfl) e1
      replace e17 := hE.eval 17 (by rfl) e17
      replace e18 := hE.eval 18 (by rfl) e18
      replace k := k.env hE
      clear hE
      refine then_n ?_
      rw [Int.toNat_natCast, hLx] at hS
      refine ⟨⟨k, e0, e1, e17, e18, j + 1, S'.set x sx, e19, by omega, hS, O⟩, ?_⟩
      rw [e19, m19]; simp only [intOf]; omega
    · rw [if_neg hst] at hS
      replace hst := Bool.eq_false_iff.2 hst
      refine wp_seq ?_
      refine wp_region_lit ?_
      have hE := Env.refl a24 [24, 25, 26]
      apply sq_det 24 hE k rfl (by rfl) (by rfl) rfl
      case h =>
        exact x_move rfl (hE.eval 1 (by rfl) e1)
      intro a33 hE e24 kp
      apply sq_det 25 hE k rfl (by rfl) (by rfl) rfl
      case h =>
        exact x_move rfl (hE.eval 5 (by rfl) e5)
      intro a34 hE e25 kp
      replace e24 := (kp 24 rfl).trans e24
      apply sq_call 26 hE k rfl (by rfl) (by rfl) rfl
      case h =>
        simp [go_sem, ↓IntWalk.iteOmega, ev e24, ev e25]
        with_reducible exact ⟨rfl, rfl⟩
      case hc => exact stays_any q j _ (by omega) hq
      rintro e _ ⟨rfl, rfl⟩
      refine ⟨_, congrArg (fun b => Ending.returned (.bool b)) hst, ?_⟩
      intro a35 hE e26 kp
      refine wpList_nil ?_
      replace e0 := hE.eval 0 (by rfl) e0
      replace e1 := hE.eval 1 (by rfl) e1
      replace e6 := hE.eval 6 (by rfl) e6
      replace e17 := hE.eval 17 (by rfl) e17
      replace e18 := hE.eval 18 (by rfl) e18
      replace e19 := hE.eval 19 (by rfl) e19
      replace k := k.env hE
      clear hE e5
      refine then_n ?_
      refine cond_f e26 rfl ?_
      refine wp_skip ?_
      refine block_n ?_
      refine then_n ?_
      refine wp_region_lit ?_
      have hE := Env.refl a35 [39, 19]
      apply sq_det 39 hE k rfl (by rfl) (by rfl) rfl
      case h =>
        exact x_add rfl e19 rfl (by omega)
      intro a36 hE e39 kp
      replace e19 := (kp 19 rfl).trans e19
      apply sq_det 19 hE k rfl (by rfl) (by rfl) rfl
      case h =>
        exact x_move rfl e39
      intro a37 hE e19 kp
      refine wpList_nil ?_
      replace e0 := hE.eval 0 (by rfl) e0
      replace e1 := hE.eval 1 (by rfl) e1
      replace e17 := hE.eval 17 (by rfl) e17
      replace e18 := hE.eval 18 (by rfl) e18
      replace k := k.env hE
      clear hE e6 e26
      refine then_n ?_
      refine ⟨⟨k, e0, e1, e17, e18, j + 1, S', e19, by omega, hS, O⟩, ?_⟩
      rw [e19, m19]; simp only [intOf]; omega
  · have hltI : ¬ (j : Int) < (xs.length : Int) := by omega
    refine cond_f e20 (congrArg Value.bool (decide_eq_false (by omega))) ?_
    clear e1 e17 e18 e19 e20
    rw [List.drop_of_length_le (by omega)] at hS
    obtain rfl : S' = setK q L xs 0 S := hS
    replace O := OwnT.drop3 O
    refine wp_exit ?_
    refine then_x ?_
    refine then_x ?_
    refine block_x ?_
    refine then_n ?_
    have c2 : w18.cell? ⟨p, 2, none⟩ = some (.map (some bm)) := (OwnT.disc O).blk.cell 2
    obtain ⟨w8, hcl, hV, hC⟩ := map_clear (OwnT.disc O).map 133 9 _ Try.underlying133
    refine wp_seq ?_
    refine wp_region_lit ?_
    have hE := Env.refl a19 [40, 41, 42, 43]
    apply sq_det 40 hE k rfl (by rfl) (by rfl) rfl
    case h =>
      exact x_move rfl (hE.eval 0 (by rfl) e0)
    intro a38 hE e40 kp
    apply sq_det 41 hE k rfl (by rfl) (by rfl) rfl
    case h =>
      exact x_nil rfl e40
    intro a39 hE e41 kp
    apply sq_det 42 hE k rfl (by rfl) (by rfl) rfl
    case h =>
      simp [go_sem, ↓IntWalk.iteOmega, ev e41]
      with_reducible rfl
    intro a40 hE e42 kp
    apply sq_det 43 hE k rfl (by rfl) (by rfl) rfl
    case h =>
      simp [go_sem, ↓IntWalk.iteOmega, ev e42, c2]
      with_reducible rfl
    intro a41 hE e43 kp
    refine sq_unitv (w' := w8) rfl rfl (by exact x_clear rfl e43 hcl) ?_
    replace O := OwnT.mapSet2 (OwnT.openD O) hV hC
    clear hV hC hcl
    rw [← looV_none] at O
    replace O : OwnT H A0 (tDisc p mb B n cap bm (setK q L xs 0 S) (fun _ => none) :: tMn mb M :: R) w8 := OwnT.closeD O hk'.none
    refine wpList_nil ?_
    replace k := k.env hE
    clear hE e0 e43
    refine then_n ?_
    refine wp_seq ?_
    refine wp_region_lit ?_
    have hE := Env.refl a41 [4]
    apply sq_det 4 hE k rfl (by rfl) (by rfl) rfl
    case h =>
      exact x_assign rfl rfl
    intro a42 hE e4 kp
    refine wpList_nil ?_
    replace k := k.env hE
    clear hE
    refine then_n ?_
    refine wp_ret ?_
    refine ret_F1 rfl k e4 ?_
    exact ⟨rfl, O⟩
end Go.Proofs.Ytdpohbaeopidmaa
