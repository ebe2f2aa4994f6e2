/- disc's law: DiscSizes (printed by XDiscSz.gen.py). -/
import Derived.Test.YtdpohbaeopidmaaKDiscExact14
namespace Go.Proofs.Ytdpohbaeopidmaa
set_option linter.unusedVariables false
set_option linter.unusedSimpArgs false
open Go.RowKit Go.Maps

theorem zflat (n : Nat) : (List.replicate n zsec).flatten = List.replicate (16 * n) 0 := by
  induction n with
  | zero => rfl
  | succ n ih =>
    rw [List.replicate_succ, List.flatten_cons, ih, show 16 * (n + 1) = 16 + 16 * n by omega, ← List.replicate_append_replicate]
    rfl
theorem now_zero {n i : Nat} (h : i < n) : nowAt (List.replicate n zsec) (fun _ => none) i = zsec := by
  unfold nowAt
  simp [h, List.getElem?_replicate]
theorem read_zero {n x y : Nat} (h : x + y ≤ n) : readL (List.replicate n zsec) (fun _ => none) x y = List.replicate (16 * y) 0 := by
  rw [← zflat]
  unfold readL
  congr 1
  apply List.ext_getElem?
  intro i
  by_cases hi : i < y
  · simp only [List.getElem?_map, List.getElem?_range hi, Option.map_some, List.getElem?_replicate, if_pos hi]
    rw [now_zero (by omega)]
  · rw [List.getElem?_eq_none (by simp; omega), List.getElem?_eq_none (by simp; omega)]

set_option maxRecDepth 100000 in
set_option maxHeartbeats 4000000 in
theorem sizes_nil {H : Nat} {A0 : World} {R : List Thing} {Q : Exit → Act → World → Prop} (a : Act) (w : World) (k : Fr 171 a) (O : OwnT H A0 R w) (hQ : ∀ a w, Fr 171 a → a.eval (.tmp 8) = .bool true → Below H A0 w → Q .ret a w) : Code.wp Try.prog (codeAt [1, 1, 1, 1, 1, 1, 1, 1, 1, 1, 1] (Try.f6.body.getD .skip)) Q a w := by
  conv => arg 2; whnf
  refine wp_seq ?_
  refine wp_region_lit ?_   -- region 20
  have hE := Env.refl a [16]
  apply sq_det 16 hE k rfl (by rfl) (by rfl) rfl
  case h =>   -- 0: t16 := Op.assign (const (Value.pointer none))
    exact x_assign rfl rfl
  intro a1 hE e16 kp
  refine wpList_nil ?_
  replace k := k.env hE
  clear hE
  refine then_n ?_
  refine wp_seq ?_
  refine wp_region_lit ?_   -- region 21
  have hE := Env.refl a1 [134, 135, 133, 136, 137, 17, 18]
  apply sq_det 134 hE k rfl (by rfl) (by rfl) rfl
  case h =>   -- 0: t134 := Op.move (tmp 16)
    exact x_move rfl (hE.eval 16 (by rfl) e16)
  intro a2 hE e134 kp
  apply sq_call 135 hE k rfl (by rfl) (by rfl) rfl
  case h =>   -- (*tierce/disc.Disc).Read
    simp [go_sem, BigFrame.eval_const, BigFrame.eval_global, BigFrame.eval_func, ↓IntWalk.iteOmega, ev e134]
    with_reducible exact ⟨rfl, rfl⟩
  case hc => exact dread_nil 0 0 _
  rintro e _ ⟨rfl, rfl⟩
  refine ⟨_, rfl, ?_⟩
  intro a3 hE e135 kp
  apply sq_det 133 hE k rfl (by rfl) (by rfl) rfl
  case h =>   -- 2: t133 := Op.move (tmp 135)
    exact x_move rfl e135
  intro a4 hE e133 kp
  apply sq_det 136 hE k rfl (by rfl) (by rfl) rfl
  case h =>   -- 3: t136 := Op.extract (tmp 133) 0
    simp [go_sem, BigFrame.eval_const, BigFrame.eval_global, BigFrame.eval_func, ↓IntWalk.iteOmega, ev e133]
    with_reducible rfl
  intro a5 hE e136 kp
  replace e133 := (kp 133 rfl).trans e133
  apply sq_det 137 hE k rfl (by rfl) (by rfl) rfl
  case h =>   -- 4: t137 := Op.extract (tmp 133) 1
    simp [go_sem, BigFrame.eval_const, BigFrame.eval_global, BigFrame.eval_func, ↓IntWalk.iteOmega, ev e133]
    with_reducible rfl
  intro a6 hE e137 kp
  replace e136 := (kp 136 rfl).trans e136
  apply sq_det 17 hE k rfl (by rfl) (by rfl) rfl
  case h =>   -- 5: t17 := Op.assign (tmp 136)
    exact x_assign rfl e136
  intro a7 hE e17 kp
  replace e137 := (kp 137 rfl).trans e137
  apply sq_det 18 hE k rfl (by rfl) (by rfl) rfl
  case h =>   -- 6: t18 := Op.assign (tmp 137)
    exact x_assign rfl e137
  intro a8 hE e18 kp
  refine wpList_nil ?_
  replace e16 := hE.eval 16 (by rfl) e16
  replace k := k.env hE
  clear hE
  refine then_n ?_
  refine wp_seq ?_
  refine wp_region_lit ?_   -- region 22
  have hE := Env.refl a8 [138, 139, 140, 141, 142, 143, 144, 145, 146, 147, 148, 149, 150, 151, 152, 153, 154, 155, 156, 157, 158, 159, 160, 161, 162, 163, 164, 165, 166, 167, 168, 169, 170, 8]
  apply sq_det 138 hE k rfl (by rfl) (by rfl) rfl
  case h =>   -- 0: t138 := Op.move (tmp 18)
    exact x_move rfl (hE.eval 18 (by rfl) e18)
  intro a9 hE e138 kp
  apply sq_det 139 hE k rfl (by rfl) (by rfl) rfl
  case h =>   -- 1: t139 := Op.binOp BinOp.eql 36 (tmp 138) (const (Value.int IntKind.i64 2)) 36
    exact x_eql rfl e138 rfl
  intro a10 hE e139 kp
  apply sq_det 140 hE k rfl (by rfl) (by rfl) rfl
  case h =>   -- 2: t140 := Op.move (tmp 139)
    exact x_move rfl e139
  intro a11 hE e140 kp
  apply sq_detg 141 hE k rfl (by rfl) (by rfl) rfl rfl e140
  case h =>   -- 3: t141 := Op.move (tmp 16)
    exact x_move rfl (hE.eval 16 (by rfl) e16)
  intro a12 hE e141 kp
  replace e140 := (kp 140 rfl).trans e140
  apply sq_callg 142 hE k rfl (by rfl) (by rfl) rfl rfl e140
  case h =>   -- (*tierce/disc.Disc).Write
    simp [go_sem, BigFrame.eval_const, BigFrame.eval_global, BigFrame.eval_func, ↓IntWalk.iteOmega, ev e141]
    with_reducible exact ⟨rfl, rfl⟩
  case hc => exact dwrite_nil 0 (sB []) _
  rintro e _ ⟨rfl, rfl⟩
  refine ⟨_, rfl, ?_⟩
  intro a13 hE e142 kp
  replace e140 := (kp 140 rfl).trans e140
  apply sq_detg 143 hE k rfl (by rfl) (by rfl) rfl rfl e140
  case h =>   -- 5: t143 := Op.binOp BinOp.eql 36 (tmp 142) (const (Value.int IntKind.i64 2)) 36
    exact x_eql rfl e142 rfl
  intro a14 hE e143 kp
  replace e140 := (kp 140 rfl).trans e140
  apply sq_det 144 hE k rfl (by rfl) (by rfl) rfl
  case h =>   -- 6: t144 := Op.pick (tmp 140) (tmp 143) (const (Value.bool false))
    exact x_pick_t rfl e140 e143
  intro a15 hE e144 kp
  apply sq_det 145 hE k rfl (by rfl) (by rfl) rfl
  case h =>   -- 7: t145 := Op.move (tmp 144)
    exact x_move rfl e144
  intro a16 hE e145 kp
  apply sq_detg 146 hE k rfl (by rfl) (by rfl) rfl rfl e145
  case h =>   -- 8: t146 := Op.move (tmp 16)
    exact x_move rfl (hE.eval 16 (by rfl) e16)
  intro a17 hE e146 kp
  replace e145 := (kp 145 rfl).trans e145
  apply sq_callg 147 hE k rfl (by rfl) (by rfl) rfl rfl e145
  case h =>   -- (*tierce/disc.Disc).Flush
    simp [go_sem, BigFrame.eval_const, BigFrame.eval_global, BigFrame.eval_func, ↓IntWalk.iteOmega, ev e146]
    with_reducible exact ⟨rfl, rfl⟩
  case hc => exact dflush_nil _
  rintro e _ ⟨rfl, rfl⟩
  refine ⟨_, rfl, ?_⟩
  intro a18 hE e147 kp
  replace e145 := (kp 145 rfl).trans e145
  apply sq_detg 148 hE k rfl (by rfl) (by rfl) rfl rfl e145
  case h =>   -- 10: t148 := Op.binOp BinOp.eql 36 (tmp 147) (const (Value.int IntKind.i64 2)) 36
    exact x_eql rfl e147 rfl
  intro a19 hE e148 kp
  replace e145 := (kp 145 rfl).trans e145
  apply sq_det 149 hE k rfl (by rfl) (by rfl) rfl
  case h =>   -- 11: t149 := Op.pick (tmp 145) (tmp 148) (const (Value.bool false))
    exact x_pick_t rfl e145 e148
  intro a20 hE e149 kp
  apply sq_det 150 hE k rfl (by rfl) (by rfl) rfl
  case h =>   -- 12: t150 := Op.move (tmp 149)
    exact x_move rfl e149
  intro a21 hE e150 kp
  apply sq_detg 151 hE k rfl (by rfl) (by rfl) rfl rfl e150
  case h =>   -- 13: t151 := Op.move (tmp 16)
    exact x_move rfl (hE.eval 16 (by rfl) e16)
  intro a22 hE e151 kp
  replace e150 := (kp 150 rfl).trans e150
  apply sq_callg 152 hE k rfl (by rfl) (by rfl) rfl rfl e150
  case h =>   -- (*tierce/disc.Disc).Settle
    simp [go_sem, BigFrame.eval_const, BigFrame.eval_global, BigFrame.eval_func, ↓IntWalk.iteOmega, ev e151]
    with_reducible exact ⟨rfl, rfl⟩
  case hc => exact dsettle_nil (sB []) _
  rintro e _ ⟨rfl, rfl⟩
  refine ⟨_, rfl, ?_⟩
  intro a23 hE e152 kp
  replace e150 := (kp 150 rfl).trans e150
  apply sq_detg 153 hE k rfl (by rfl) (by rfl) rfl rfl e150
  case h =>   -- 15: t153 := Op.binOp BinOp.eql 36 (tmp 152) (const (Value.int IntKind.i64 2)) 36
    exact x_eql rfl e152 rfl
  intro a24 hE e153 kp
  replace e150 := (kp 150 rfl).trans e150
  apply sq_det 154 hE k rfl (by rfl) (by rfl) rfl
  case h =>   -- 16: t154 := Op.pick (tmp 150) (tmp 153) (const (Value.bool false))
    exact x_pick_t rfl e150 e153
  intro a25 hE e154 kp
  apply sq_det 155 hE k rfl (by rfl) (by rfl) rfl
  case h =>   -- 17: t155 := Op.move (tmp 154)
    exact x_move rfl e154
  intro a26 hE e155 kp
  apply sq_detg 156 hE k rfl (by rfl) (by rfl) rfl rfl e155
  case h =>   -- 18: t156 := Op.move (tmp 16)
    exact x_move rfl (hE.eval 16 (by rfl) e16)
  intro a27 hE e156 kp
  replace e155 := (kp 155 rfl).trans e155
  apply sq_callg 157 hE k rfl (by rfl) (by rfl) rfl rfl e155
  case h =>   -- (*tierce/disc.Disc).Len
    simp [go_sem, BigFrame.eval_const, BigFrame.eval_global, BigFrame.eval_func, ↓IntWalk.iteOmega, ev e156]
    with_reducible exact ⟨rfl, rfl⟩
  case hc => exact dlen_nil _
  rintro e _ ⟨rfl, rfl⟩
  refine ⟨_, rfl, ?_⟩
  intro a28 hE e157 kp
  replace e155 := (kp 155 rfl).trans e155
  apply sq_detg 158 hE k rfl (by rfl) (by rfl) rfl rfl e155
  case h =>   -- 20: t158 := Op.binOp BinOp.eql 3 (tmp 157) (const (Value.int IntKind.i64 0)) 3
    exact x_eql rfl e157 rfl
  intro a29 hE e158 kp
  replace e155 := (kp 155 rfl).trans e155
  apply sq_det 159 hE k rfl (by rfl) (by rfl) rfl
  case h =>   -- 21: t159 := Op.pick (tmp 155) (tmp 158) (const (Value.bool false))
    exact x_pick_t rfl e155 e158
  intro a30 hE e159 kp
  apply sq_det 160 hE k rfl (by rfl) (by rfl) rfl
  case h =>   -- 22: t160 := Op.move (tmp 159)
    exact x_move rfl e159
  intro a31 hE e160 kp
  apply sq_detg 161 hE k rfl (by rfl) (by rfl) rfl rfl e160
  case h =>   -- 23: t161 := Op.move (tmp 16)
    exact x_move rfl (hE.eval 16 (by rfl) e16)
  intro a32 hE e161 kp
  replace e160 := (kp 160 rfl).trans e160
  apply sq_callg 162 hE k rfl (by rfl) (by rfl) rfl rfl e160
  case h =>   -- (*tierce/disc.Disc).Image
    simp [go_sem, BigFrame.eval_const, BigFrame.eval_global, BigFrame.eval_func, ↓IntWalk.iteOmega, ev e161]
    with_reducible exact ⟨rfl, rfl⟩
  case hc => exact dimage_nil _
  rintro e _ ⟨rfl, rfl⟩
  refine ⟨_, rfl, ?_⟩
  intro a33 hE e162 kp
  replace e160 := (kp 160 rfl).trans e160
  apply sq_detg 163 hE k rfl (by rfl) (by rfl) rfl rfl e160
  case h =>   -- 25: t163 := Op.binOp BinOp.eql 9 (tmp 162) (const (Value.string {data := #[]})) 9
    exact x_dec (x_eqs (l := []) (m := []) rfl e162 rfl) (decide_eq_true rfl)
  intro a34 hE e163 kp
  replace e160 := (kp 160 rfl).trans e160
  apply sq_det 164 hE k rfl (by rfl) (by rfl) rfl
  case h =>   -- 26: t164 := Op.pick (tmp 160) (tmp 163) (const (Value.bool false))
    exact x_pick_t rfl e160 e163
  intro a35 hE e164 kp
  apply sq_det 165 hE k rfl (by rfl) (by rfl) rfl
  case h =>   -- 27: t165 := Op.move (tmp 164)
    exact x_move rfl e164
  intro a36 hE e165 kp
  apply sq_detg 166 hE k rfl (by rfl) (by rfl) rfl rfl e165
  case h =>   -- 28: t166 := Op.move (tmp 16)
    exact x_move rfl (hE.eval 16 (by rfl) e16)
  intro a37 hE e166 kp
  replace e165 := (kp 165 rfl).trans e165
  apply sq_callg 167 hE k rfl (by rfl) (by rfl) rfl rfl e165
  case h =>   -- (*tierce/disc.Disc).Loose
    simp [go_sem, BigFrame.eval_const, BigFrame.eval_global, BigFrame.eval_func, ↓IntWalk.iteOmega, ev e166]
    with_reducible exact ⟨rfl, rfl⟩
  case hc => exact dloose_nil _
  rintro e w39 ⟨rfl, R0⟩
  replace O := OwnT.ext O R0
  refine ⟨_, rfl, ?_⟩
  intro a38 hE e167 kp
  replace e165 := (kp 165 rfl).trans e165
  apply sq_detg 168 hE k rfl (by rfl) (by rfl) rfl rfl e165
  case h =>   -- 30: t168 := Op.call {callee := Callee.builtin Builtin.len, args := #[tmp 167], arg
    exact x_len Try.underlying49 rfl e167
  intro a40 hE e168 kp
  replace e165 := (kp 165 rfl).trans e165
  apply sq_detg 169 hE k rfl (by rfl) (by rfl) rfl rfl e165
  case h =>   -- 31: t169 := Op.binOp BinOp.eql 3 (tmp 168) (const (Value.int IntKind.i64 0)) 3
    exact x_eql rfl e168 rfl
  intro a41 hE e169 kp
  replace e165 := (kp 165 rfl).trans e165
  apply sq_det 170 hE k rfl (by rfl) (by rfl) rfl
  case h =>   -- 32: t170 := Op.pick (tmp 165) (tmp 169) (const (Value.bool false))
    exact x_pick_t rfl e165 e169
  intro a42 hE e170 kp
  apply sq_det 8 hE k rfl (by rfl) (by rfl) rfl
  case h =>   -- 33: t8 := Op.assign (tmp 170)
    exact x_assign rfl e170
  intro a43 hE e8 kp
  refine wpList_nil ?_
  replace k := k.env hE
  clear hE e16 e18
  refine then_n ?_
  refine wp_ret ?_
  exact hQ _ _ k e8 O.below
set_option maxRecDepth 100000 in
set_option maxHeartbeats 4000000 in
theorem sizes_write {H : Nat} {A0 : World} {p mb n cap bm : Nat} {B : Option Addr} {x : Int} {l : List UInt8} {Q : Exit → Act → World → Prop} (a : Act) (w : World) (k : Fr 171 a)
    (e1 : a.eval (.tmp 1) = .int .i64 x) (e3 : a.eval (.tmp 3) = .string (sB l)) (e9 : a.eval (.tmp 9) = .pointer (some ⟨p, 0, none⟩)) (e10 : a.eval (.tmp 10) = .int .i64 ↑n)
    (O : OwnT H A0 [tDisc p mb B n cap bm (List.replicate n zsec) (fun _ => none), tMn mb mn0] w) (hl : l.length ≤ 200) (hn : n ≤ 16384) (hQ : ∀ a w, Fr 171 a → a.eval (.tmp 8) = .bool true → Below H A0 w → Q .ret a w) : Code.wp Try.prog (codeAt [1, 1, 1, 1, 1, 1, 1, 1, 1] (Try.f6.body.getD .skip)) Q a w := by
  conv => arg 2; whnf
  by_cases hm : l.length % 16 = 0
  · by_cases hf : fitsB n x ((l.length / 16 : Nat) : Int) = true
    · have hf' := of_decide_eq_true hf
      refine wp_seq ?_
      refine wp_region_lit ?_   -- region 13
      have hE := Env.refl a [95, 96, 97, 98, 14]
      apply sq_det 95 hE k rfl (by rfl) (by rfl) rfl
      case h =>   -- 0: t95 := Op.move (tmp 9)
        exact x_move rfl (hE.eval 9 (by rfl) e9)
      intro a1 hE e95 kp
      apply sq_det 96 hE k rfl (by rfl) (by rfl) rfl
      case h =>   -- 1: t96 := Op.move (tmp 1)
        exact x_move rfl (hE.eval 1 (by rfl) e1)
      intro a2 hE e96 kp
      replace e95 := (kp 95 rfl).trans e95
      apply sq_det 97 hE k rfl (by rfl) (by rfl) rfl
      case h =>   -- 2: t97 := Op.move (tmp 3)
        exact x_move rfl (hE.eval 3 (by rfl) e3)
      intro a3 hE e97 kp
      replace e95 := (kp 95 rfl).trans e95
      replace e96 := (kp 96 rfl).trans e96
      apply sq_call 98 hE k rfl (by rfl) (by rfl) rfl
      case h =>   -- (*tierce/disc.Disc).Write
        simp [go_sem, BigFrame.eval_const, BigFrame.eval_global, BigFrame.eval_func, ↓IntWalk.iteOmega, ev e95, ev e96, ev e97]
        with_reducible exact ⟨rfl, rfl⟩
      case hc => exact dwrite_all x l _ O (by omega) hm hf mn0_ok (by decide) mn0_free
      clear O
      rintro e w5 ⟨rfl, O⟩
      refine ⟨_, rfl, ?_⟩
      intro a4 hE e98 kp
      apply sq_det 14 hE k rfl (by rfl) (by rfl) rfl
      case h =>   -- 4: t14 := Op.assign (tmp 98)
        exact x_assign rfl e98
      intro a6 hE e14 kp
      refine wpList_nil ?_
      replace e1 := hE.eval 1 (by rfl) e1
      replace e3 := hE.eval 3 (by rfl) e3
      replace e10 := hE.eval 10 (by rfl) e10
      replace k := k.env hE
      clear hE e9
      refine then_n ?_
      refine wp_seq ?_
      refine wp_seq ?_
      refine wp_region_lit ?_   -- region 14
      have hE := Env.refl a6 [99, 100, 101, 102]
      apply sq_det 99 hE k rfl (by rfl) (by rfl) rfl
      case h =>   -- 0: t99 := Op.move (tmp 3)
        exact x_move rfl (hE.eval 3 (by rfl) e3)
      intro a7 hE e99 kp
      apply sq_det 100 hE k rfl (by rfl) (by rfl) rfl
      case h =>   -- 1: t100 := Op.call {callee := Callee.builtin Builtin.len, args := #[tmp 99], argT
        exact x_len_l Try.underlying9 rfl e99
      intro a8 hE e100 kp
      apply sq_det 101 hE k rfl (by rfl) (by rfl) rfl
      case h =>   -- 2: t101 := Op.binOp BinOp.rem 3 (tmp 100) (const (Value.int IntKind.i64 16)) 3
        exact x_remN (m := l.length) (j := 16) rfl e100 rfl rfl (by decide)
      intro a9 hE e101 kp
      apply sq_det 102 hE k rfl (by rfl) (by rfl) rfl
      case h =>   -- 3: t102 := Op.binOp BinOp.neq 3 (tmp 101) (const (Value.int IntKind.i64 0)) 3
        exact x_dec (x_neq rfl e101 rfl) (decide_eq_false (by omega))
      intro a10 hE e102 kp
      refine wpList_nil ?_
      replace e1 := hE.eval 1 (by rfl) e1
      replace e3 := hE.eval 3 (by rfl) e3
      replace e10 := hE.eval 10 (by rfl) e10
      replace e14 := hE.eval 14 (by rfl) e14
      replace k := k.env hE
      clear hE
      refine then_n ?_
      refine cond_f e102 rfl ?_
      refine wp_seq ?_
      refine wp_region_lit ?_   -- region 17
      have hE := Env.refl a10 [105, 106, 107, 108, 109, 110, 111, 112, 113, 114, 115, 116, 117, 118, 119, 120, 15]
      apply sq_det 105 hE k rfl (by rfl) (by rfl) rfl
      case h =>   -- 0: t105 := Op.move (tmp 1)
        exact x_move rfl (hE.eval 1 (by rfl) e1)
      intro a11 hE e105 kp
      apply sq_det 106 hE k rfl (by rfl) (by rfl) rfl
      case h =>   -- 1: t106 := Op.binOp BinOp.geq 3 (tmp 105) (const (Value.int IntKind.i64 0)) 3
        exact x_dec (x_geq rfl e105 rfl) (decide_eq_true (by omega))
      intro a12 hE e106 kp
      apply sq_det 107 hE k rfl (by rfl) (by rfl) rfl
      case h =>   -- 2: t107 := Op.move (tmp 106)
        exact x_move rfl e106
      intro a13 hE e107 kp
      apply sq_detg 108 hE k rfl (by rfl) (by rfl) rfl rfl e107
      case h =>   -- 3: t108 := Op.move (tmp 1)
        exact x_move rfl (hE.eval 1 (by rfl) e1)
      intro a14 hE e108 kp
      replace e107 := (kp 107 rfl).trans e107
      apply sq_detg 109 hE k rfl (by rfl) (by rfl) rfl rfl e107
      case h =>   -- 4: t109 := Op.move (tmp 10)
        exact x_move rfl (hE.eval 10 (by rfl) e10)
      intro a15 hE e109 kp
      replace e107 := (kp 107 rfl).trans e107
      replace e108 := (kp 108 rfl).trans e108
      apply sq_detg 110 hE k rfl (by rfl) (by rfl) rfl rfl e107
      case h =>   -- 5: t110 := Op.binOp BinOp.leq 3 (tmp 108) (tmp 109) 3
        exact x_dec (x_leq rfl e108 e109) (decide_eq_true (by omega))
      intro a16 hE e110 kp
      replace e107 := (kp 107 rfl).trans e107
      apply sq_det 111 hE k rfl (by rfl) (by rfl) rfl
      case h =>   -- 6: t111 := Op.pick (tmp 107) (tmp 110) (const (Value.bool false))
        exact x_pick_t rfl e107 e110
      intro a17 hE e111 kp
      apply sq_det 112 hE k rfl (by rfl) (by rfl) rfl
      case h =>   -- 7: t112 := Op.move (tmp 111)
        exact x_move rfl e111
      intro a18 hE e112 kp
      apply sq_detg 113 hE k rfl (by rfl) (by rfl) rfl rfl e112
      case h =>   -- 8: t113 := Op.move (tmp 3)
        exact x_move rfl (hE.eval 3 (by rfl) e3)
      intro a19 hE e113 kp
      replace e112 := (kp 112 rfl).trans e112
      apply sq_detg 114 hE k rfl (by rfl) (by rfl) rfl rfl e112
      case h =>   -- 9: t114 := Op.call {callee := Callee.builtin Builtin.len, args := #[tmp 113], arg
        exact x_len_l Try.underlying9 rfl e113
      intro a20 hE e114 kp
      replace e112 := (kp 112 rfl).trans e112
      apply sq_detg 115 hE k rfl (by rfl) (by rfl) rfl rfl e112
      case h =>   -- 10: t115 := Op.binOp BinOp.quo 3 (tmp 114) (const (Value.int IntKind.i64 16)) 3
        exact x_quoN (m := l.length) (j := 16) rfl e114 rfl rfl (by decide) (by omega)
      intro a21 hE e115 kp
      replace e112 := (kp 112 rfl).trans e112
      apply sq_detg 116 hE k rfl (by rfl) (by rfl) rfl rfl e112
      case h =>   -- 11: t116 := Op.move (tmp 10)
        exact x_move rfl (hE.eval 10 (by rfl) e10)
      intro a22 hE e116 kp
      replace e112 := (kp 112 rfl).trans e112
      replace e115 := (kp 115 rfl).trans e115
      apply sq_detg 117 hE k rfl (by rfl) (by rfl) rfl rfl e112
      case h =>   -- 12: t117 := Op.move (tmp 1)
        exact x_move rfl (hE.eval 1 (by rfl) e1)
      intro a23 hE e117 kp
      replace e112 := (kp 112 rfl).trans e112
      replace e115 := (kp 115 rfl).trans e115
      replace e116 := (kp 116 rfl).trans e116
      apply sq_detg 118 hE k rfl (by rfl) (by rfl) rfl rfl e112
      case h =>   -- 13: t118 := Op.binOp BinOp.sub 3 (tmp 116) (tmp 117) 3
        exact x_sub rfl e116 e117 (by omega)
      intro a24 hE e118 kp
      replace e112 := (kp 112 rfl).trans e112
      replace e115 := (kp 115 rfl).trans e115
      apply sq_detg 119 hE k rfl (by rfl) (by rfl) rfl rfl e112
      case h =>   -- 14: t119 := Op.binOp BinOp.leq 3 (tmp 115) (tmp 118) 3
        exact x_dec (x_leq rfl e115 e118) (decide_eq_true (by omega))
      intro a25 hE e119 kp
      replace e112 := (kp 112 rfl).trans e112
      apply sq_det 120 hE k rfl (by rfl) (by rfl) rfl
      case h =>   -- 15: t120 := Op.pick (tmp 112) (tmp 119) (const (Value.bool false))
        exact x_pick_t rfl e112 e119
      intro a26 hE e120 kp
      apply sq_det 15 hE k rfl (by rfl) (by rfl) rfl
      case h =>   -- 16: t15 := Op.assign (tmp 120)
        exact x_assign rfl e120
      intro a27 hE e15 kp
      refine wpList_nil ?_
      replace e14 := hE.eval 14 (by rfl) e14
      replace k := k.env hE
      clear hE e1 e3 e10 e102
      refine then_n ?_
      refine wp_seq ?_
      refine wp_region_lit ?_   -- region 18
      have hE := Env.refl a27 [121, 122, 123, 124, 125, 126, 127, 128, 129, 130, 131, 132]
      apply sq_det 121 hE k rfl (by rfl) (by rfl) rfl
      case h =>   -- 0: t121 := Op.move (tmp 15)
        exact x_move rfl (hE.eval 15 (by rfl) e15)
      intro a28 hE e121 kp
      apply sq_det 122 hE k rfl (by rfl) (by rfl) rfl
      case h =>   -- 1: t122 := Op.move (tmp 14)
        exact x_move rfl (hE.eval 14 (by rfl) e14)
      intro a29 hE e122 kp
      replace e121 := (kp 121 rfl).trans e121
      apply sq_det 123 hE k rfl (by rfl) (by rfl) rfl
      case h =>   -- 2: t123 := Op.binOp BinOp.eql 36 (tmp 122) (const (Value.int IntKind.i64 0)) 36
        exact x_eql rfl e122 rfl
      intro a30 hE e123 kp
      replace e121 := (kp 121 rfl).trans e121
      apply sq_det 124 hE k rfl (by rfl) (by rfl) rfl
      case h =>   -- 3: t124 := Op.binOp BinOp.neq 4 (tmp 121) (tmp 123) 4
        simp [go_sem, BigFrame.eval_const, BigFrame.eval_global, BigFrame.eval_func, ↓IntWalk.iteOmega, ev e121, ev e123]
        with_reducible rfl
      intro a31 hE e124 kp
      apply sq_det 125 hE k rfl (by rfl) (by rfl) rfl
      case h =>   -- 4: t125 := Op.move (tmp 124)
        exact x_move rfl e124
      intro a32 hE e125 kp
      apply sq_detg 126 hE k rfl (by rfl) (by rfl) rfl rfl e125
      case h =>   -- 5: t126 := Op.move (tmp 15)
        exact x_move rfl (hE.eval 15 (by rfl) e15)
      intro a33 hE e126 kp
      replace e125 := (kp 125 rfl).trans e125
      apply sq_detg 127 hE k rfl (by rfl) (by rfl) rfl rfl e125
      case h =>   -- 6: t127 := Op.unOp UnOp.not 4 (tmp 126)
        exact x_not rfl e126
      intro a34 hE e127 kp
      replace e125 := (kp 125 rfl).trans e125
      apply sq_detg 128 hE k rfl (by rfl) (by rfl) rfl rfl e125
      case h =>   -- 7: t128 := Op.move (tmp 127)
        exact x_move rfl e127
      intro a35 hE e128 kp
      replace e125 := (kp 125 rfl).trans e125
      refine sq_skipg 129 hE k rfl (by rfl) (by rfl) rfl rfl (.inl e128) ?_
      intro a36 hE e129 kp
      replace e125 := (kp 125 rfl).trans e125
      replace e128 := (kp 128 rfl).trans e128
      refine sq_skipg 130 hE k rfl (by rfl) (by rfl) rfl rfl (.inl e128) ?_
      intro a37 hE e130 kp
      replace e125 := (kp 125 rfl).trans e125
      replace e128 := (kp 128 rfl).trans e128
      apply sq_detg 131 hE k rfl (by rfl) (by rfl) rfl rfl e125
      case h =>   -- 10: t131 := Op.pick (tmp 128) (tmp 130) (const (Value.bool false))
        exact x_pick_f rfl e128 rfl
      intro a38 hE e131 kp
      replace e125 := (kp 125 rfl).trans e125
      apply sq_det 132 hE k rfl (by rfl) (by rfl) rfl
      case h =>   -- 11: t132 := Op.pick (tmp 125) (const (Value.bool true)) (tmp 131)
        exact x_pick_f rfl e125 e131
      intro a39 hE e132 kp
      refine wpList_nil ?_
      replace k := k.env hE
      clear hE e14 e15
      refine then_n ?_
      refine cond_f e132 rfl ?_
      refine wp_skip ?_
      refine then_n ?_
      refine sizes_nil _ _ k O hQ
    · replace hf := Bool.eq_false_iff.2 hf
      have hf' := of_decide_eq_false hf
      refine wp_seq ?_
      refine wp_region_lit ?_   -- region 13
      have hE := Env.refl a [95, 96, 97, 98, 14]
      apply sq_det 95 hE k rfl (by rfl) (by rfl) rfl
      case h =>   -- 0: t95 := Op.move (tmp 9)
        exact x_move rfl (hE.eval 9 (by rfl) e9)
      intro a40 hE e95 kp
      apply sq_det 96 hE k rfl (by rfl) (by rfl) rfl
      case h =>   -- 1: t96 := Op.move (tmp 1)
        exact x_move rfl (hE.eval 1 (by rfl) e1)
      intro a41 hE e96 kp
      replace e95 := (kp 95 rfl).trans e95
      apply sq_det 97 hE k rfl (by rfl) (by rfl) rfl
      case h =>   -- 2: t97 := Op.move (tmp 3)
        exact x_move rfl (hE.eval 3 (by rfl) e3)
      intro a42 hE e97 kp
      replace e95 := (kp 95 rfl).trans e95
      replace e96 := (kp 96 rfl).trans e96
      apply sq_call 98 hE k rfl (by rfl) (by rfl) rfl
      case h =>   -- (*tierce/disc.Disc).Write
        simp [go_sem, BigFrame.eval_const, BigFrame.eval_global, BigFrame.eval_func, ↓IntWalk.iteOmega, ev e95, ev e96, ev e97]
        with_reducible exact ⟨rfl, rfl⟩
      case hc => exact dwrite_range x l _ O (by omega) hm hf
      clear O
      rintro e w44 ⟨rfl, O⟩
      refine ⟨_, rfl, ?_⟩
      intro a43 hE e98 kp
      apply sq_det 14 hE k rfl (by rfl) (by rfl) rfl
      case h =>   -- 4: t14 := Op.assign (tmp 98)
        exact x_assign rfl e98
      intro a45 hE e14 kp
      refine wpList_nil ?_
      replace e1 := hE.eval 1 (by rfl) e1
      replace e3 := hE.eval 3 (by rfl) e3
      replace e10 := hE.eval 10 (by rfl) e10
      replace k := k.env hE
      clear hE e9
      refine then_n ?_
      refine wp_seq ?_
      refine wp_seq ?_
      refine wp_region_lit ?_   -- region 14
      have hE := Env.refl a45 [99, 100, 101, 102]
      apply sq_det 99 hE k rfl (by rfl) (by rfl) rfl
      case h =>   -- 0: t99 := Op.move (tmp 3)
        exact x_move rfl (hE.eval 3 (by rfl) e3)
      intro a46 hE e99 kp
      apply sq_det 100 hE k rfl (by rfl) (by rfl) rfl
      case h =>   -- 1: t100 := Op.call {callee := Callee.builtin Builtin.len, args := #[tmp 99], argT
        exact x_len_l Try.underlying9 rfl e99
      intro a47 hE e100 kp
      apply sq_det 101 hE k rfl (by rfl) (by rfl) rfl
      case h =>   -- 2: t101 := Op.binOp BinOp.rem 3 (tmp 100) (const (Value.int IntKind.i64 16)) 3
        exact x_remN (m := l.length) (j := 16) rfl e100 rfl rfl (by decide)
      intro a48 hE e101 kp
      apply sq_det 102 hE k rfl (by rfl) (by rfl) rfl
      case h =>   -- 3: t102 := Op.binOp BinOp.neq 3 (tmp 101) (const (Value.int IntKind.i64 0)) 3
        exact x_dec (x_neq rfl e101 rfl) (decide_eq_false (by omega))
      intro a49 hE e102 kp
      refine wpList_nil ?_
      replace e1 := hE.eval 1 (by rfl) e1
      replace e3 := hE.eval 3 (by rfl) e3
      replace e10 := hE.eval 10 (by rfl) e10
      replace e14 := hE.eval 14 (by rfl) e14
      replace k := k.env hE
      clear hE
      refine then_n ?_
      refine cond_f e102 rfl ?_
      by_cases hc0 : 0 ≤ x
      rotate_left
      · skip
        refine wp_seq ?_
        refine wp_region_lit ?_   -- region 17
        have hE := Env.refl a49 [105, 106, 107, 108, 109, 110, 111, 112, 113, 114, 115, 116, 117, 118, 119, 120, 15]
        apply sq_det 105 hE k rfl (by rfl) (by rfl) rfl
        case h =>   -- 0: t105 := Op.move (tmp 1)
          exact x_move rfl (hE.eval 1 (by rfl) e1)
        intro a50 hE e105 kp
        apply sq_det 106 hE k rfl (by rfl) (by rfl) rfl
        case h =>   -- 1: t106 := Op.binOp BinOp.geq 3 (tmp 105) (const (Value.int IntKind.i64 0)) 3
          exact x_dec (x_geq rfl e105 rfl) (decide_eq_false (by omega))
        intro a51 hE e106 kp
        apply sq_det 107 hE k rfl (by rfl) (by rfl) rfl
        case h =>   -- 2: t107 := Op.move (tmp 106)
          exact x_move rfl e106
        intro a52 hE e107 kp
        refine sq_skipg 108 hE k rfl (by rfl) (by rfl) rfl rfl (.inl e107) ?_
        intro a53 hE e108 kp
        replace e107 := (kp 107 rfl).trans e107
        refine sq_skipg 109 hE k rfl (by rfl) (by rfl) rfl rfl (.inl e107) ?_
        intro a54 hE e109 kp
        replace e107 := (kp 107 rfl).trans e107
        replace e108 := (kp 108 rfl).trans e108
        refine sq_skipg 110 hE k rfl (by rfl) (by rfl) rfl rfl (.inl e107) ?_
        intro a55 hE e110 kp
        replace e107 := (kp 107 rfl).trans e107
        apply sq_det 111 hE k rfl (by rfl) (by rfl) rfl
        case h =>   -- 6: t111 := Op.pick (tmp 107) (tmp 110) (const (Value.bool false))
          exact x_pick_f rfl e107 rfl
        intro a56 hE e111 kp
        apply sq_det 112 hE k rfl (by rfl) (by rfl) rfl
        case h =>   -- 7: t112 := Op.move (tmp 111)
          exact x_move rfl e111
        intro a57 hE e112 kp
        refine sq_skipg 113 hE k rfl (by rfl) (by rfl) rfl rfl (.inl e112) ?_
        intro a58 hE e113 kp
        replace e112 := (kp 112 rfl).trans e112
        refine sq_skipg 114 hE k rfl (by rfl) (by rfl) rfl rfl (.inl e112) ?_
        intro a59 hE e114 kp
        replace e112 := (kp 112 rfl).trans e112
        refine sq_skipg 115 hE k rfl (by rfl) (by rfl) rfl rfl (.inl e112) ?_
        intro a60 hE e115 kp
        replace e112 := (kp 112 rfl).trans e112
        refine sq_skipg 116 hE k rfl (by rfl) (by rfl) rfl rfl (.inl e112) ?_
        intro a61 hE e116 kp
        replace e112 := (kp 112 rfl).trans e112
        replace e115 := (kp 115 rfl).trans e115
        refine sq_skipg 117 hE k rfl (by rfl) (by rfl) rfl rfl (.inl e112) ?_
        intro a62 hE e117 kp
        replace e112 := (kp 112 rfl).trans e112
        replace e115 := (kp 115 rfl).trans e115
        replace e116 := (kp 116 rfl).trans e116
        refine sq_skipg 118 hE k rfl (by rfl) (by rfl) rfl rfl (.inl e112) ?_
        intro a63 hE e118 kp
        replace e112 := (kp 112 rfl).trans e112
        replace e115 := (kp 115 rfl).trans e115
        refine sq_skipg 119 hE k rfl (by rfl) (by rfl) rfl rfl (.inl e112) ?_
        intro a64 hE e119 kp
        replace e112 := (kp 112 rfl).trans e112
        apply sq_det 120 hE k rfl (by rfl) (by rfl) rfl
        case h =>   -- 15: t120 := Op.pick (tmp 112) (tmp 119) (const (Value.bool false))
          exact x_pick_f rfl e112 rfl
        intro a65 hE e120 kp
        apply sq_det 15 hE k rfl (by rfl) (by rfl) rfl
        case h =>   -- 16: t15 := Op.assign (tmp 120)
          exact x_assign rfl e120
        intro a66 hE e15 kp
        refine wpList_nil ?_
        replace e14 := hE.eval 14 (by rfl) e14
        replace k := k.env hE
        clear hE e1 e3 e10 e102
        refine then_n ?_
        refine wp_seq ?_
        refine wp_region_lit ?_   -- region 18
        have hE := Env.refl a66 [121, 122, 123, 124, 125, 126, 127, 128, 129, 130, 131, 132]
        apply sq_det 121 hE k rfl (by rfl) (by rfl) rfl
        case h =>   -- 0: t121 := Op.move (tmp 15)
          exact x_move rfl (hE.eval 15 (by rfl) e15)
        intro a67 hE e121 kp
        apply sq_det 122 hE k rfl (by rfl) (by rfl) rfl
        case h =>   -- 1: t122 := Op.move (tmp 14)
          exact x_move rfl (hE.eval 14 (by rfl) e14)
        intro a68 hE e122 kp
        replace e121 := (kp 121 rfl).trans e121
        apply sq_det 123 hE k rfl (by rfl) (by rfl) rfl
        case h =>   -- 2: t123 := Op.binOp BinOp.eql 36 (tmp 122) (const (Value.int IntKind.i64 0)) 36
          exact x_eql rfl e122 rfl
        intro a69 hE e123 kp
        replace e121 := (kp 121 rfl).trans e121
        apply sq_det 124 hE k rfl (by rfl) (by rfl) rfl
        case h =>   -- 3: t124 := Op.binOp BinOp.neq 4 (tmp 121) (tmp 123) 4
          simp [go_sem, BigFrame.eval_const, BigFrame.eval_global, BigFrame.eval_func, ↓IntWalk.iteOmega, ev e121, ev e123]
          with_reducible rfl
        intro a70 hE e124 kp
        apply sq_det 125 hE k rfl (by rfl) (by rfl) rfl
        case h =>   -- 4: t125 := Op.move (tmp 124)
          exact x_move rfl e124
        intro a71 hE e125 kp
        apply sq_detg 126 hE k rfl (by rfl) (by rfl) rfl rfl e125
        case h =>   -- 5: t126 := Op.move (tmp 15)
          exact x_move rfl (hE.eval 15 (by rfl) e15)
        intro a72 hE e126 kp
        replace e125 := (kp 125 rfl).trans e125
        apply sq_detg 127 hE k rfl (by rfl) (by rfl) rfl rfl e125
        case h =>   -- 6: t127 := Op.unOp UnOp.not 4 (tmp 126)
          exact x_not rfl e126
        intro a73 hE e127 kp
        replace e125 := (kp 125 rfl).trans e125
        apply sq_detg 128 hE k rfl (by rfl) (by rfl) rfl rfl e125
        case h =>   -- 7: t128 := Op.move (tmp 127)
          exact x_move rfl e127
        intro a74 hE e128 kp
        replace e125 := (kp 125 rfl).trans e125
        apply sq_detg 129 hE k rfl (by rfl) (by rfl) rfl rfl e128
        case h =>   -- 8: t129 := Op.move (tmp 14)
          exact x_move rfl (hE.eval 14 (by rfl) e14)
        intro a75 hE e129 kp
        replace e125 := (kp 125 rfl).trans e125
        replace e128 := (kp 128 rfl).trans e128
        apply sq_detg 130 hE k rfl (by rfl) (by rfl) rfl rfl e128
        case h =>   -- 9: t130 := Op.binOp BinOp.neq 36 (tmp 129) (const (Value.int IntKind.i64 9)) 36
          exact x_neq rfl e129 rfl
        intro a76 hE e130 kp
        replace e125 := (kp 125 rfl).trans e125
        replace e128 := (kp 128 rfl).trans e128
        apply sq_detg 131 hE k rfl (by rfl) (by rfl) rfl rfl e125
        case h =>   -- 10: t131 := Op.pick (tmp 128) (tmp 130) (const (Value.bool false))
          exact x_pick_t rfl e128 e130
        intro a77 hE e131 kp
        replace e125 := (kp 125 rfl).trans e125
        apply sq_det 132 hE k rfl (by rfl) (by rfl) rfl
        case h =>   -- 11: t132 := Op.pick (tmp 125) (const (Value.bool true)) (tmp 131)
          exact x_pick_f rfl e125 e131
        intro a78 hE e132 kp
        refine wpList_nil ?_
        replace k := k.env hE
        clear hE e14 e15
        refine then_n ?_
        refine cond_f e132 rfl ?_
        refine wp_skip ?_
        refine then_n ?_
        refine sizes_nil _ _ k O hQ
      by_cases hc1 : x ≤ n
      rotate_left
      · skip
        refine wp_seq ?_
        refine wp_region_lit ?_   -- region 17
        have hE := Env.refl a49 [105, 106, 107, 108, 109, 110, 111, 112, 113, 114, 115, 116, 117, 118, 119, 120, 15]
        apply sq_det 105 hE k rfl (by rfl) (by rfl) rfl
        case h =>   -- 0: t105 := Op.move (tmp 1)
          exact x_move rfl (hE.eval 1 (by rfl) e1)
        intro a79 hE e105 kp
        apply sq_det 106 hE k rfl (by rfl) (by rfl) rfl
        case h =>   -- 1: t106 := Op.binOp BinOp.geq 3 (tmp 105) (const (Value.int IntKind.i64 0)) 3
          exact x_dec (x_geq rfl e105 rfl) (decide_eq_true (by omega))
        intro a80 hE e106 kp
        apply sq_det 107 hE k rfl (by rfl) (by rfl) rfl
        case h =>   -- 2: t107 := Op.move (tmp 106)
          exact x_move rfl e106
        intro a81 hE e107 kp
        apply sq_detg 108 hE k rfl (by rfl) (by rfl) rfl rfl e107
        case h =>   -- 3: t108 := Op.move (tmp 1)
          exact x_move rfl (hE.eval 1 (by rfl) e1)
        intro a82 hE e108 kp
        replace e107 := (kp 107 rfl).trans e107
        apply sq_detg 109 hE k rfl (by rfl) (by rfl) rfl rfl e107
        case h =>   -- 4: t109 := Op.move (tmp 10)
          exact x_move rfl (hE.eval 10 (by rfl) e10)
        intro a83 hE e109 kp
        replace e107 := (kp 107 rfl).trans e107
        replace e108 := (kp 108 rfl).trans e108
        apply sq_detg 110 hE k rfl (by rfl) (by rfl) rfl rfl e107
        case h =>   -- 5: t110 := Op.binOp BinOp.leq 3 (tmp 108) (tmp 109) 3
          exact x_dec (x_leq rfl e108 e109) (decide_eq_false (by omega))
        intro a84 hE e110 kp
        replace e107 := (kp 107 rfl).trans e107
        apply sq_det 111 hE k rfl (by rfl) (by rfl) rfl
        case h =>   -- 6: t111 := Op.pick (tmp 107) (tmp 110) (const (Value.bool false))
          exact x_pick_t rfl e107 e110
        intro a85 hE e111 kp
        apply sq_det 112 hE k rfl (by rfl) (by rfl) rfl
        case h =>   -- 7: t112 := Op.move (tmp 111)
          exact x_move rfl e111
        intro a86 hE e112 kp
        refine sq_skipg 113 hE k rfl (by rfl) (by rfl) rfl rfl (.inl e112) ?_
        intro a87 hE e113 kp
        replace e112 := (kp 112 rfl).trans e112
        refine sq_skipg 114 hE k rfl (by rfl) (by rfl) rfl rfl (.inl e112) ?_
        intro a88 hE e114 kp
        replace e112 := (kp 112 rfl).trans e112
        refine sq_skipg 115 hE k rfl (by rfl) (by rfl) rfl rfl (.inl e112) ?_
        intro a89 hE e115 kp
        replace e112 := (kp 112 rfl).trans e112
        refine sq_skipg 116 hE k rfl (by rfl) (by rfl) rfl rfl (.inl e112) ?_
        intro a90 hE e116 kp
        replace e112 := (kp 112 rfl).trans e112
        replace e115 := (kp 115 rfl).trans e115
        refine sq_skipg 117 hE k rfl (by rfl) (by rfl) rfl rfl (.inl e112) ?_
        intro a91 hE e117 kp
        replace e112 := (kp 112 rfl).trans e112
        replace e115 := (kp 115 rfl).trans e115
        replace e116 := (kp 116 rfl).trans e116
        refine sq_skipg 118 hE k rfl (by rfl) (by rfl) rfl rfl (.inl e112) ?_
        intro a92 hE e118 kp
        replace e112 := (kp 112 rfl).trans e112
        replace e115 := (kp 115 rfl).trans e115
        refine sq_skipg 119 hE k rfl (by rfl) (by rfl) rfl rfl (.inl e112) ?_
        intro a93 hE e119 kp
        replace e112 := (kp 112 rfl).trans e112
        apply sq_det 120 hE k rfl (by rfl) (by rfl) rfl
        case h =>   -- 15: t120 := Op.pick (tmp 112) (tmp 119) (const (Value.bool false))
          exact x_pick_f rfl e112 rfl
        intro a94 hE e120 kp
        apply sq_det 15 hE k rfl (by rfl) (by rfl) rfl
        case h =>   -- 16: t15 := Op.assign (tmp 120)
          exact x_assign rfl e120
        intro a95 hE e15 kp
        refine wpList_nil ?_
        replace e14 := hE.eval 14 (by rfl) e14
        replace k := k.env hE
        clear hE e1 e3 e10 e102
        refine then_n ?_
        refine wp_seq ?_
        refine wp_region_lit ?_   -- region 18
        have hE := Env.refl a95 [121, 122, 123, 124, 125, 126, 127, 128, 129, 130, 131, 132]
        apply sq_det 121 hE k rfl (by rfl) (by rfl) rfl
        case h =>   -- 0: t121 := Op.move (tmp 15)
          exact x_move rfl (hE.eval 15 (by rfl) e15)
        intro a96 hE e121 kp
        apply sq_det 122 hE k rfl (by rfl) (by rfl) rfl
        case h =>   -- 1: t122 := Op.move (tmp 14)
          exact x_move rfl (hE.eval 14 (by rfl) e14)
        intro a97 hE e122 kp
        replace e121 := (kp 121 rfl).trans e121
        apply sq_det 123 hE k rfl (by rfl) (by rfl) rfl
        case h =>   -- 2: t123 := Op.binOp BinOp.eql 36 (tmp 122) (const (Value.int IntKind.i64 0)) 36
          exact x_eql rfl e122 rfl
        intro a98 hE e123 kp
        replace e121 := (kp 121 rfl).trans e121
        apply sq_det 124 hE k rfl (by rfl) (by rfl) rfl
        case h =>   -- 3: t124 := Op.binOp BinOp.neq 4 (tmp 121) (tmp 123) 4
          simp [go_sem, BigFrame.eval_const, BigFrame.eval_global, BigFrame.eval_func, ↓IntWalk.iteOmega, ev e121, ev e123]
          with_reducible rfl
        intro a99 hE e124 kp
        apply sq_det 125 hE k rfl (by rfl) (by rfl) rfl
        case h =>   -- 4: t125 := Op.move (tmp 124)
          exact x_move rfl e124
        intro a100 hE e125 kp
        apply sq_detg 126 hE k rfl (by rfl) (by rfl) rfl rfl e125
        case h =>   -- 5: t126 := Op.move (tmp 15)
          exact x_move rfl (hE.eval 15 (by rfl) e15)
        intro a101 hE e126 kp
        replace e125 := (kp 125 rfl).trans e125
        apply sq_detg 127 hE k rfl (by rfl) (by rfl) rfl rfl e125
        case h =>   -- 6: t127 := Op.unOp UnOp.not 4 (tmp 126)
          exact x_not rfl e126
        intro a102 hE e127 kp
        replace e125 := (kp 125 rfl).trans e125
        apply sq_detg 128 hE k rfl (by rfl) (by rfl) rfl rfl e125
        case h =>   -- 7: t128 := Op.move (tmp 127)
          exact x_move rfl e127
        intro a103 hE e128 kp
        replace e125 := (kp 125 rfl).trans e125
        apply sq_detg 129 hE k rfl (by rfl) (by rfl) rfl rfl e128
        case h =>   -- 8: t129 := Op.move (tmp 14)
          exact x_move rfl (hE.eval 14 (by rfl) e14)
        intro a104 hE e129 kp
        replace e125 := (kp 125 rfl).trans e125
        replace e128 := (kp 128 rfl).trans e128
        apply sq_detg 130 hE k rfl (by rfl) (by rfl) rfl rfl e128
        case h =>   -- 9: t130 := Op.binOp BinOp.neq 36 (tmp 129) (const (Value.int IntKind.i64 9)) 36
          exact x_neq rfl e129 rfl
        intro a105 hE e130 kp
        replace e125 := (kp 125 rfl).trans e125
        replace e128 := (kp 128 rfl).trans e128
        apply sq_detg 131 hE k rfl (by rfl) (by rfl) rfl rfl e125
        case h =>   -- 10: t131 := Op.pick (tmp 128) (tmp 130) (const (Value.bool false))
          exact x_pick_t rfl e128 e130
        intro a106 hE e131 kp
        replace e125 := (kp 125 rfl).trans e125
        apply sq_det 132 hE k rfl (by rfl) (by rfl) rfl
        case h =>   -- 11: t132 := Op.pick (tmp 125) (const (Value.bool true)) (tmp 131)
          exact x_pick_f rfl e125 e131
        intro a107 hE e132 kp
        refine wpList_nil ?_
        replace k := k.env hE
        clear hE e14 e15
        refine then_n ?_
        refine cond_f e132 rfl ?_
        refine wp_skip ?_
        refine then_n ?_
        refine sizes_nil _ _ k O hQ
      refine wp_seq ?_
      refine wp_region_lit ?_   -- region 17
      have hE := Env.refl a49 [105, 106, 107, 108, 109, 110, 111, 112, 113, 114, 115, 116, 117, 118, 119, 120, 15]
      apply sq_det 105 hE k rfl (by rfl) (by rfl) rfl
      case h =>   -- 0: t105 := Op.move (tmp 1)
        exact x_move rfl (hE.eval 1 (by rfl) e1)
      intro a108 hE e105 kp
      apply sq_det 106 hE k rfl (by rfl) (by rfl) rfl
      case h =>   -- 1: t106 := Op.binOp BinOp.geq 3 (tmp 105) (const (Value.int IntKind.i64 0)) 3
        exact x_dec (x_geq rfl e105 rfl) (decide_eq_true (by omega))
      intro a109 hE e106 kp
      apply sq_det 107 hE k rfl (by rfl) (by rfl) rfl
      case h =>   -- 2: t107 := Op.move (tmp 106)
        exact x_move rfl e106
      intro a110 hE e107 kp
      apply sq_detg 108 hE k rfl (by rfl) (by rfl) rfl rfl e107
      case h =>   -- 3: t108 := Op.move (tmp 1)
        exact x_move rfl (hE.eval 1 (by rfl) e1)
      intro a111 hE e108 kp
      replace e107 := (kp 107 rfl).trans e107
      apply sq_detg 109 hE k rfl (by rfl) (by rfl) rfl rfl e107
      case h =>   -- 4: t109 := Op.move (tmp 10)
        exact x_move rfl (hE.eval 10 (by rfl) e10)
      intro a112 hE e109 kp
      replace e107 := (kp 107 rfl).trans e107
      replace e108 := (kp 108 rfl).trans e108
      apply sq_detg 110 hE k rfl (by rfl) (by rfl) rfl rfl e107
      case h =>   -- 5: t110 := Op.binOp BinOp.leq 3 (tmp 108) (tmp 109) 3
        exact x_dec (x_leq rfl e108 e109) (decide_eq_true (by omega))
      intro a113 hE e110 kp
      replace e107 := (kp 107 rfl).trans e107
      apply sq_det 111 hE k rfl (by rfl) (by rfl) rfl
      case h =>   -- 6: t111 := Op.pick (tmp 107) (tmp 110) (const (Value.bool false))
        exact x_pick_t rfl e107 e110
      intro a114 hE e111 kp
      apply sq_det 112 hE k rfl (by rfl) (by rfl) rfl
      case h =>   -- 7: t112 := Op.move (tmp 111)
        exact x_move rfl e111
      intro a115 hE e112 kp
      apply sq_detg 113 hE k rfl (by rfl) (by rfl) rfl rfl e112
      case h =>   -- 8: t113 := Op.move (tmp 3)
        exact x_move rfl (hE.eval 3 (by rfl) e3)
      intro a116 hE e113 kp
      replace e112 := (kp 112 rfl).trans e112
      apply sq_detg 114 hE k rfl (by rfl) (by rfl) rfl rfl e112
      case h =>   -- 9: t114 := Op.call {callee := Callee.builtin Builtin.len, args := #[tmp 113], arg
        exact x_len_l Try.underlying9 rfl e113
      intro a117 hE e114 kp
      replace e112 := (kp 112 rfl).trans e112
      apply sq_detg 115 hE k rfl (by rfl) (by rfl) rfl rfl e112
      case h =>   -- 10: t115 := Op.binOp BinOp.quo 3 (tmp 114) (const (Value.int IntKind.i64 16)) 3
        exact x_quoN (m := l.length) (j := 16) rfl e114 rfl rfl (by decide) (by omega)
      intro a118 hE e115 kp
      replace e112 := (kp 112 rfl).trans e112
      apply sq_detg 116 hE k rfl (by rfl) (by rfl) rfl rfl e112
      case h =>   -- 11: t116 := Op.move (tmp 10)
        exact x_move rfl (hE.eval 10 (by rfl) e10)
      intro a119 hE e116 kp
      replace e112 := (kp 112 rfl).trans e112
      replace e115 := (kp 115 rfl).trans e115
      apply sq_detg 117 hE k rfl (by rfl) (by rfl) rfl rfl e112
      case h =>   -- 12: t117 := Op.move (tmp 1)
        exact x_move rfl (hE.eval 1 (by rfl) e1)
      intro a120 hE e117 kp
      replace e112 := (kp 112 rfl).trans e112
      replace e115 := (kp 115 rfl).trans e115
      replace e116 := (kp 116 rfl).trans e116
      apply sq_detg 118 hE k rfl (by rfl) (by rfl) rfl rfl e112
      case h =>   -- 13: t118 := Op.binOp BinOp.sub 3 (tmp 116) (tmp 117) 3
        exact x_sub rfl e116 e117 (by omega)
      intro a121 hE e118 kp
      replace e112 := (kp 112 rfl).trans e112
      replace e115 := (kp 115 rfl).trans e115
      apply sq_detg 119 hE k rfl (by rfl) (by rfl) rfl rfl e112
      case h =>   -- 14: t119 := Op.binOp BinOp.leq 3 (tmp 115) (tmp 118) 3
        exact x_dec (x_leq rfl e115 e118) (decide_eq_false (by omega))
      intro a122 hE e119 kp
      replace e112 := (kp 112 rfl).trans e112
      apply sq_det 120 hE k rfl (by rfl) (by rfl) rfl
      case h =>   -- 15: t120 := Op.pick (tmp 112) (tmp 119) (const (Value.bool false))
        exact x_pick_t rfl e112 e119
      intro a123 hE e120 kp
      apply sq_det 15 hE k rfl (by rfl) (by rfl) rfl
      case h =>   -- 16: t15 := Op.assign (tmp 120)
        exact x_assign rfl e120
      intro a124 hE e15 kp
      refine wpList_nil ?_
      replace e14 := hE.eval 14 (by rfl) e14
      replace k := k.env hE
      clear hE e1 e3 e10 e102
      refine then_n ?_
      refine wp_seq ?_
      refine wp_region_lit ?_   -- region 18
      have hE := Env.refl a124 [121, 122, 123, 124, 125, 126, 127, 128, 129, 130, 131, 132]
      apply sq_det 121 hE k rfl (by rfl) (by rfl) rfl
      case h =>   -- 0: t121 := Op.move (tmp 15)
        exact x_move rfl (hE.eval 15 (by rfl) e15)
      intro a125 hE e121 kp
      apply sq_det 122 hE k rfl (by rfl) (by rfl) rfl
      case h =>   -- 1: t122 := Op.move (tmp 14)
        exact x_move rfl (hE.eval 14 (by rfl) e14)
      intro a126 hE e122 kp
      replace e121 := (kp 121 rfl).trans e121
      apply sq_det 123 hE k rfl (by rfl) (by rfl) rfl
      case h =>   -- 2: t123 := Op.binOp BinOp.eql 36 (tmp 122) (const (Value.int IntKind.i64 0)) 36
        exact x_eql rfl e122 rfl
      intro a127 hE e123 kp
      replace e121 := (kp 121 rfl).trans e121
      apply sq_det 124 hE k rfl (by rfl) (by rfl) rfl
      case h =>   -- 3: t124 := Op.binOp BinOp.neq 4 (tmp 121) (tmp 123) 4
        simp [go_sem, BigFrame.eval_const, BigFrame.eval_global, BigFrame.eval_func, ↓IntWalk.iteOmega, ev e121, ev e123]
        with_reducible rfl
      intro a128 hE e124 kp
      apply sq_det 125 hE k rfl (by rfl) (by rfl) rfl
      case h =>   -- 4: t125 := Op.move (tmp 124)
        exact x_move rfl e124
      intro a129 hE e125 kp
      apply sq_detg 126 hE k rfl (by rfl) (by rfl) rfl rfl e125
      case h =>   -- 5: t126 := Op.move (tmp 15)
        exact x_move rfl (hE.eval 15 (by rfl) e15)
      intro a130 hE e126 kp
      replace e125 := (kp 125 rfl).trans e125
      apply sq_detg 127 hE k rfl (by rfl) (by rfl) rfl rfl e125
      case h =>   -- 6: t127 := Op.unOp UnOp.not 4 (tmp 126)
        exact x_not rfl e126
      intro a131 hE e127 kp
      replace e125 := (kp 125 rfl).trans e125
      apply sq_detg 128 hE k rfl (by rfl) (by rfl) rfl rfl e125
      case h =>   -- 7: t128 := Op.move (tmp 127)
        exact x_move rfl e127
      intro a132 hE e128 kp
      replace e125 := (kp 125 rfl).trans e125
      apply sq_detg 129 hE k rfl (by rfl) (by rfl) rfl rfl e128
      case h =>   -- 8: t129 := Op.move (tmp 14)
        exact x_move rfl (hE.eval 14 (by rfl) e14)
      intro a133 hE e129 kp
      replace e125 := (kp 125 rfl).trans e125
      replace e128 := (kp 128 rfl).trans e128
      apply sq_detg 130 hE k rfl (by rfl) (by rfl) rfl rfl e128
      case h =>   -- 9: t130 := Op.binOp BinOp.neq 36 (tmp 129) (const (Value.int IntKind.i64 9)) 36
        exact x_neq rfl e129 rfl
      intro a134 hE e130 kp
      replace e125 := (kp 125 rfl).trans e125
      replace e128 := (kp 128 rfl).trans e128
      apply sq_detg 131 hE k rfl (by rfl) (by rfl) rfl rfl e125
      case h =>   -- 10: t131 := Op.pick (tmp 128) (tmp 130) (const (Value.bool false))
        exact x_pick_t rfl e128 e130
      intro a135 hE e131 kp
      replace e125 := (kp 125 rfl).trans e125
      apply sq_det 132 hE k rfl (by rfl) (by rfl) rfl
      case h =>   -- 11: t132 := Op.pick (tmp 125) (const (Value.bool true)) (tmp 131)
        exact x_pick_f rfl e125 e131
      intro a136 hE e132 kp
      refine wpList_nil ?_
      replace k := k.env hE
      clear hE e14 e15
      refine then_n ?_
      refine cond_f e132 rfl ?_
      refine wp_skip ?_
      refine then_n ?_
      refine sizes_nil _ _ k O hQ
  · skip
    refine wp_seq ?_
    refine wp_region_lit ?_   -- region 13
    have hE := Env.refl a [95, 96, 97, 98, 14]
    apply sq_det 95 hE k rfl (by rfl) (by rfl) rfl
    case h =>   -- 0: t95 := Op.move (tmp 9)
      exact x_move rfl (hE.eval 9 (by rfl) e9)
    intro a137 hE e95 kp
    apply sq_det 96 hE k rfl (by rfl) (by rfl) rfl
    case h =>   -- 1: t96 := Op.move (tmp 1)
      exact x_move rfl (hE.eval 1 (by rfl) e1)
    intro a138 hE e96 kp
    replace e95 := (kp 95 rfl).trans e95
    apply sq_det 97 hE k rfl (by rfl) (by rfl) rfl
    case h =>   -- 2: t97 := Op.move (tmp 3)
      exact x_move rfl (hE.eval 3 (by rfl) e3)
    intro a139 hE e97 kp
    replace e95 := (kp 95 rfl).trans e95
    replace e96 := (kp 96 rfl).trans e96
    apply sq_call 98 hE k rfl (by rfl) (by rfl) rfl
    case h =>   -- (*tierce/disc.Disc).Write
      simp [go_sem, BigFrame.eval_const, BigFrame.eval_global, BigFrame.eval_func, ↓IntWalk.iteOmega, ev e95, ev e96, ev e97]
      with_reducible exact ⟨rfl, rfl⟩
    case hc => exact dwrite_arg x l _ O (by omega) hm
    clear O
    rintro e w141 ⟨rfl, O⟩
    refine ⟨_, rfl, ?_⟩
    intro a140 hE e98 kp
    apply sq_det 14 hE k rfl (by rfl) (by rfl) rfl
    case h =>   -- 4: t14 := Op.assign (tmp 98)
      exact x_assign rfl e98
    intro a142 hE e14 kp
    refine wpList_nil ?_
    replace e1 := hE.eval 1 (by rfl) e1
    replace e3 := hE.eval 3 (by rfl) e3
    replace e10 := hE.eval 10 (by rfl) e10
    replace k := k.env hE
    clear hE e9
    refine then_n ?_
    refine wp_seq ?_
    refine wp_seq ?_
    refine wp_region_lit ?_   -- region 14
    have hE := Env.refl a142 [99, 100, 101, 102]
    apply sq_det 99 hE k rfl (by rfl) (by rfl) rfl
    case h =>   -- 0: t99 := Op.move (tmp 3)
      exact x_move rfl (hE.eval 3 (by rfl) e3)
    intro a143 hE e99 kp
    apply sq_det 100 hE k rfl (by rfl) (by rfl) rfl
    case h =>   -- 1: t100 := Op.call {callee := Callee.builtin Builtin.len, args := #[tmp 99], argT
      exact x_len_l Try.underlying9 rfl e99
    intro a144 hE e100 kp
    apply sq_det 101 hE k rfl (by rfl) (by rfl) rfl
    case h =>   -- 2: t101 := Op.binOp BinOp.rem 3 (tmp 100) (const (Value.int IntKind.i64 16)) 3
      exact x_remN (m := l.length) (j := 16) rfl e100 rfl rfl (by decide)
    intro a145 hE e101 kp
    apply sq_det 102 hE k rfl (by rfl) (by rfl) rfl
    case h =>   -- 3: t102 := Op.binOp BinOp.neq 3 (tmp 101) (const (Value.int IntKind.i64 0)) 3
      exact x_dec (x_neq rfl e101 rfl) (decide_eq_true (by omega))
    intro a146 hE e102 kp
    refine wpList_nil ?_
    replace e1 := hE.eval 1 (by rfl) e1
    replace e3 := hE.eval 3 (by rfl) e3
    replace e10 := hE.eval 10 (by rfl) e10
    replace e14 := hE.eval 14 (by rfl) e14
    replace k := k.env hE
    clear hE
    refine then_n ?_
    refine cond_t e102 rfl ?_
    refine wp_seq ?_
    refine wp_region_lit ?_   -- region 15
    have hE := Env.refl a146 [103, 104]
    apply sq_det 103 hE k rfl (by rfl) (by rfl) rfl
    case h =>   -- 0: t103 := Op.move (tmp 14)
      exact x_move rfl (hE.eval 14 (by rfl) e14)
    intro a147 hE e103 kp
    apply sq_det 104 hE k rfl (by rfl) (by rfl) rfl
    case h =>   -- 1: t104 := Op.binOp BinOp.neq 36 (tmp 103) (const (Value.int IntKind.i64 1)) 36
      exact x_neq rfl e103 rfl
    intro a148 hE e104 kp
    refine wpList_nil ?_
    replace k := k.env hE
    clear hE e1 e3 e10 e14 e102
    refine then_n ?_
    refine cond_f e104 rfl ?_
    refine wp_skip ?_
    refine then_n ?_
    refine sizes_nil _ _ k O hQ
set_option maxRecDepth 100000 in
set_option maxHeartbeats 4000000 in
theorem discSizes_core (z x y : Int) (l : List UInt8) (W0 : World) : Calls Try.prog 6 #[.int .i64 z, .int .i64 x, .int .i64 y, .string (sB l)] W0 fun e w' => e = .returned (.bool true) ∧ Below W0.heap.size W0 w' := by
  have O := OwnT.start W0
  obtain ⟨n, hx⟩ : ∃ n : Nat, min (max z 0) 16384 = (n : Int) := ⟨(min (max z 0) 16384).toNat, by omega⟩
  have hn : n ≤ 16384 := by omega
  refine calls_F Try.func6 rfl 171 rfl (by rfl) ?_
  intro a1 k hargs
  have e0 : a1.eval (.tmp 0) = .int .i64 z := hargs 0 _ rfl
  have e1 : a1.eval (.tmp 1) = .int .i64 x := hargs 1 _ rfl
  have e2 : a1.eval (.tmp 2) = .int .i64 y := hargs 2 _ rfl
  have e3 : a1.eval (.tmp 3) = .string (sB l) := hargs 3 _ rfl
  clear hargs
  refine wp_seq ?_
  refine wp_region_lit ?_   -- region 0
  have hE := Env.refl a1 [8]
  apply sq_det 8 hE k rfl (by rfl) (by rfl) rfl
  case h =>   -- 0: t8 := Op.assign (const (Value.bool false))
    exact x_assign rfl rfl
  intro a2 hE e8 kp
  refine wpList_nil ?_
  replace e0 := hE.eval 0 (by rfl) e0
  replace e1 := hE.eval 1 (by rfl) e1
  replace e2 := hE.eval 2 (by rfl) e2
  replace e3 := hE.eval 3 (by rfl) e3
  replace k := k.env hE
  clear hE e8
  refine then_n ?_
  refine wp_seq ?_
  refine wp_seq ?_
  refine wp_region_lit ?_   -- region 1
  have hE := Env.refl a2 [19, 20]
  apply sq_call 19 hE k rfl (by rfl) (by rfl) rfl
  case h =>   -- tierce/tiercelaw04.awake
    simp [go_sem, BigFrame.eval_const, BigFrame.eval_global, BigFrame.eval_func, ↓IntWalk.iteOmega]
    with_reducible exact ⟨rfl, rfl⟩
  case hc => exact awake4 _
  rintro e w4 ⟨rfl, R⟩
  replace O := OwnT.ext O R
  refine ⟨_, rfl, ?_⟩
  intro a3 hE e19 kp
  apply sq_det 20 hE k rfl (by rfl) (by rfl) rfl
  case h =>   -- 1: t20 := Op.unOp UnOp.not 4 (tmp 19)
    exact x_not rfl e19
  intro a5 hE e20 kp
  refine wpList_nil ?_
  replace e0 := hE.eval 0 (by rfl) e0
  replace e1 := hE.eval 1 (by rfl) e1
  replace e2 := hE.eval 2 (by rfl) e2
  replace e3 := hE.eval 3 (by rfl) e3
  replace k := k.env hE
  clear hE
  refine then_n ?_
  refine cond_f e20 rfl ?_
  refine wp_skip ?_
  refine then_n ?_
  by_cases hl : l.length ≤ 200
  rotate_left
  · skip
    refine wp_seq ?_
    refine wp_seq ?_
    refine wp_region_lit ?_   -- region 3
    have hE := Env.refl a5 [21, 22, 23]
    apply sq_det 21 hE k rfl (by rfl) (by rfl) rfl
    case h =>   -- 0: t21 := Op.move (tmp 3)
      exact x_move rfl (hE.eval 3 (by rfl) e3)
    intro a6 hE e21 kp
    apply sq_det 22 hE k rfl (by rfl) (by rfl) rfl
    case h =>   -- 1: t22 := Op.call {callee := Callee.builtin Builtin.len, args := #[tmp 21], argT
      exact x_len_l Try.underlying9 rfl e21
    intro a7 hE e22 kp
    apply sq_det 23 hE k rfl (by rfl) (by rfl) rfl
    case h =>   -- 2: t23 := Op.binOp BinOp.gtr 3 (tmp 22) (const (Value.int IntKind.i64 200)) 3
      exact x_dec (x_gtr rfl e22 rfl) (decide_eq_true (by omega))
    intro a8 hE e23 kp
    refine wpList_nil ?_
    replace e0 := hE.eval 0 (by rfl) e0
    replace e1 := hE.eval 1 (by rfl) e1
    replace e2 := hE.eval 2 (by rfl) e2
    replace e3 := hE.eval 3 (by rfl) e3
    replace k := k.env hE
    clear hE e20
    refine then_n ?_
    refine cond_t e23 rfl ?_
    refine wp_seq ?_
    refine wp_region_lit ?_   -- region 4
    have hE := Env.refl a8 [8]
    apply sq_det 8 hE k rfl (by rfl) (by rfl) rfl
    case h =>   -- 0: t8 := Op.assign (const (Value.bool true))
      exact x_assign rfl rfl
    intro a9 hE e8 kp
    refine wpList_nil ?_
    replace k := k.env hE
    clear hE e0 e1 e2 e3 e23
    refine then_n ?_
    refine wp_ret ?_
    refine then_r ?_
    refine ret_F1 rfl k e8 ?_
    exact ⟨rfl, O.below⟩
  refine wp_seq ?_
  refine wp_seq ?_
  refine wp_region_lit ?_   -- region 3
  have hE := Env.refl a5 [21, 22, 23]
  apply sq_det 21 hE k rfl (by rfl) (by rfl) rfl
  case h =>   -- 0: t21 := Op.move (tmp 3)
    exact x_move rfl (hE.eval 3 (by rfl) e3)
  intro a10 hE e21 kp
  apply sq_det 22 hE k rfl (by rfl) (by rfl) rfl
  case h =>   -- 1: t22 := Op.call {callee := Callee.builtin Builtin.len, args := #[tmp 21], argT
    exact x_len_l Try.underlying9 rfl e21
  intro a11 hE e22 kp
  apply sq_det 23 hE k rfl (by rfl) (by rfl) rfl
  case h =>   -- 2: t23 := Op.binOp BinOp.gtr 3 (tmp 22) (const (Value.int IntKind.i64 200)) 3
    exact x_dec (x_gtr rfl e22 rfl) (decide_eq_false (by omega))
  intro a12 hE e23 kp
  refine wpList_nil ?_
  replace e0 := hE.eval 0 (by rfl) e0
  replace e1 := hE.eval 1 (by rfl) e1
  replace e2 := hE.eval 2 (by rfl) e2
  replace e3 := hE.eval 3 (by rfl) e3
  replace k := k.env hE
  clear hE e20
  refine then_n ?_
  refine cond_f e23 rfl ?_
  refine wp_skip ?_
  refine then_n ?_
  refine wp_seq ?_
  refine wp_region_lit ?_   -- region 5
  have hE := Env.refl a12 [24, 25, 26, 9]
  apply sq_call 24 hE k rfl (by rfl) (by rfl) rfl
  case h =>   -- tierce/mains.New
    simp [go_sem, BigFrame.eval_const, BigFrame.eval_global, BigFrame.eval_func, ↓IntWalk.iteOmega]
    with_reducible exact ⟨rfl, rfl⟩
  case hc => exact new_mn O
  clear O
  rintro e w14 ⟨mb, rfl, O⟩
  refine ⟨_, rfl, ?_⟩
  intro a13 hE e24 kp
  apply sq_det 25 hE k rfl (by rfl) (by rfl) rfl
  case h =>   -- 1: t25 := Op.move (tmp 0)
    exact x_move rfl (hE.eval 0 (by rfl) e0)
  intro a15 hE e25 kp
  replace e24 := (kp 24 rfl).trans e24
  apply sq_call 26 hE k rfl (by rfl) (by rfl) rfl
  case h =>   -- tierce/disc.New
    simp [go_sem, BigFrame.eval_const, BigFrame.eval_global, BigFrame.eval_func, ↓IntWalk.iteOmega, ev e24, ev e25]
    with_reducible exact ⟨rfl, rfl⟩
  case hc => exact dnew_any z n _ O hx
  clear O
  rintro e w17 ⟨p, B, cap, bm, rfl, O⟩
  refine ⟨_, rfl, ?_⟩
  intro a16 hE e26 kp
  apply sq_det 9 hE k rfl (by rfl) (by rfl) rfl
  case h =>   -- 3: t9 := Op.assign (tmp 26)
    exact x_assign rfl e26
  intro a18 hE e9 kp
  refine wpList_nil ?_
  replace e0 := hE.eval 0 (by rfl) e0
  replace e1 := hE.eval 1 (by rfl) e1
  replace e2 := hE.eval 2 (by rfl) e2
  replace e3 := hE.eval 3 (by rfl) e3
  replace k := k.env hE
  clear hE e23
  refine then_n ?_
  refine wp_seq ?_
  refine wp_region_lit ?_   -- region 6
  have hE := Env.refl a18 [27, 28, 29, 10]
  apply sq_det 27 hE k rfl (by rfl) (by rfl) rfl
  case h =>   -- 0: t27 := Op.move (tmp 0)
    exact x_move rfl (hE.eval 0 (by rfl) e0)
  intro a19 hE e27 kp
  apply sq_det 28 hE k rfl (by rfl) (by rfl) rfl
  case h =>   -- 1: t28 := Op.call {callee := Callee.builtin Builtin.max, args := #[tmp 27, const
    exact x_max rfl e27 rfl
  intro a20 hE e28 kp
  apply sq_det 29 hE k rfl (by rfl) (by rfl) rfl
  case h =>   -- 2: t29 := Op.call {callee := Callee.builtin Builtin.min, args := #[tmp 28, const
    exact x_min rfl e28 rfl
  intro a21 hE e29 kp
  replace e29 := e29.trans (int_eq hx)
  apply sq_det 10 hE k rfl (by rfl) (by rfl) rfl
  case h =>   -- 3: t10 := Op.assign (tmp 29)
    exact x_assign rfl e29
  intro a22 hE e10 kp
  refine wpList_nil ?_
  replace e0 := hE.eval 0 (by rfl) e0
  replace e1 := hE.eval 1 (by rfl) e1
  replace e2 := hE.eval 2 (by rfl) e2
  replace e3 := hE.eval 3 (by rfl) e3
  replace e9 := hE.eval 9 (by rfl) e9
  replace k := k.env hE
  clear hE
  refine then_n ?_
  refine wp_seq ?_
  refine wp_seq ?_
  refine wp_region_lit ?_   -- region 7
  have hE := Env.refl a22 [30, 31, 32, 33, 34, 35, 36, 37, 38, 39, 40, 41, 42, 43, 44]
  apply sq_det 30 hE k rfl (by rfl) (by rfl) rfl
  case h =>   -- 0: t30 := Op.move (tmp 9)
    exact x_move rfl (hE.eval 9 (by rfl) e9)
  intro a23 hE e30 kp
  apply sq_det 31 hE k rfl (by rfl) (by rfl) rfl
  case h =>   -- 1: t31 := Op.binOp BinOp.eql 54 (tmp 30) (const (Value.pointer none)) 54
    simp [go_sem, BigFrame.eval_const, BigFrame.eval_global, BigFrame.eval_func, ↓IntWalk.iteOmega, ev e30]
    with_reducible rfl
  intro a24 hE e31 kp
  apply sq_det 32 hE k rfl (by rfl) (by rfl) rfl
  case h =>   -- 2: t32 := Op.move (tmp 31)
    exact x_move rfl e31
  intro a25 hE e32 kp
  apply sq_detg 33 hE k rfl (by rfl) (by rfl) rfl rfl e32
  case h =>   -- 3: t33 := Op.move (tmp 9)
    exact x_move rfl (hE.eval 9 (by rfl) e9)
  intro a26 hE e33 kp
  replace e32 := (kp 32 rfl).trans e32
  apply sq_callg 34 hE k rfl (by rfl) (by rfl) rfl rfl e32
  case h =>   -- (*tierce/disc.Disc).Len
    simp [go_sem, BigFrame.eval_const, BigFrame.eval_global, BigFrame.eval_func, ↓IntWalk.iteOmega, ev e33]
    with_reducible exact ⟨rfl, rfl⟩
  case hc => exact dlen_any _ (OwnT.disc O)
  rintro e _ ⟨rfl, rfl⟩
  refine ⟨_, rfl, ?_⟩
  intro a27 hE e34 kp
  replace e32 := (kp 32 rfl).trans e32
  apply sq_detg 35 hE k rfl (by rfl) (by rfl) rfl rfl e32
  case h =>   -- 5: t35 := Op.move (tmp 10)
    exact x_move rfl (hE.eval 10 (by rfl) e10)
  intro a28 hE e35 kp
  replace e32 := (kp 32 rfl).trans e32
  replace e34 := (kp 34 rfl).trans e34
  apply sq_detg 36 hE k rfl (by rfl) (by rfl) rfl rfl e32
  case h =>   -- 6: t36 := Op.binOp BinOp.neq 3 (tmp 34) (tmp 35) 3
    exact x_dec (x_neq rfl e34 e35) (decide_eq_false (fun h => h rfl))
  intro a29 hE e36 kp
  replace e32 := (kp 32 rfl).trans e32
  apply sq_det 37 hE k rfl (by rfl) (by rfl) rfl
  case h =>   -- 7: t37 := Op.pick (tmp 32) (const (Value.bool true)) (tmp 36)
    exact x_pick_f rfl e32 e36
  intro a30 hE e37 kp
  apply sq_det 38 hE k rfl (by rfl) (by rfl) rfl
  case h =>   -- 8: t38 := Op.move (tmp 37)
    exact x_move rfl e37
  intro a31 hE e38 kp
  apply sq_detg 39 hE k rfl (by rfl) (by rfl) rfl rfl e38
  case h =>   -- 9: t39 := Op.move (tmp 9)
    exact x_move rfl (hE.eval 9 (by rfl) e9)
  intro a32 hE e39 kp
  replace e38 := (kp 38 rfl).trans e38
  apply sq_callg 40 hE k rfl (by rfl) (by rfl) rfl rfl e38
  case h =>   -- (*tierce/disc.Disc).Image
    simp [go_sem, BigFrame.eval_const, BigFrame.eval_global, BigFrame.eval_func, ↓IntWalk.iteOmega, ev e39]
    with_reducible exact ⟨rfl, rfl⟩
  case hc => exact dimage_any _ (OwnT.disc O)
  rintro e w34 ⟨rfl, R⟩
  replace O := OwnT.ext O R
  refine ⟨_, rfl, ?_⟩
  intro a33 hE e40 kp
  replace e38 := (kp 38 rfl).trans e38
  apply sq_detg 41 hE k rfl (by rfl) (by rfl) rfl rfl e38
  case h =>   -- 11: t41 := Op.move (tmp 0)
    exact x_move rfl (hE.eval 0 (by rfl) e0)
  intro a35 hE e41 kp
  replace e38 := (kp 38 rfl).trans e38
  replace e40 := (kp 40 rfl).trans e40
  apply sq_callg 42 hE k rfl (by rfl) (by rfl) rfl rfl e38
  case h =>   -- tierce/tierceref04.Zeros
    simp [go_sem, BigFrame.eval_const, BigFrame.eval_global, BigFrame.eval_func, ↓IntWalk.iteOmega, ev e41]
    with_reducible exact ⟨rfl, rfl⟩
  case hc => exact zeros4_any z n _ hx
  rintro e w37 ⟨rfl, R⟩
  replace O := OwnT.ext O R
  refine ⟨_, rfl, ?_⟩
  intro a36 hE e42 kp
  replace e38 := (kp 38 rfl).trans e38
  replace e40 := (kp 40 rfl).trans e40
  apply sq_detg 43 hE k rfl (by rfl) (by rfl) rfl rfl e38
  case h =>   -- 13: t43 := Op.binOp BinOp.neq 9 (tmp 40) (tmp 42) 9
    exact x_dec (x_nes (l := (List.replicate n zsec).flatten) (m := List.replicate (16 * n) 0) rfl e40 e42) (decide_eq_false (fun h => h (zflat n)))
  intro a38 hE e43 kp
  replace e38 := (kp 38 rfl).trans e38
  apply sq_det 44 hE k rfl (by rfl) (by rfl) rfl
  case h =>   -- 14: t44 := Op.pick (tmp 38) (const (Value.bool true)) (tmp 43)
    exact x_pick_f rfl e38 e43
  intro a39 hE e44 kp
  refine wpList_nil ?_
  replace e1 := hE.eval 1 (by rfl) e1
  replace e2 := hE.eval 2 (by rfl) e2
  replace e3 := hE.eval 3 (by rfl) e3
  replace e9 := hE.eval 9 (by rfl) e9
  replace e10 := hE.eval 10 (by rfl) e10
  replace k := k.env hE
  clear hE e0
  refine then_n ?_
  refine cond_f e44 rfl ?_
  refine wp_skip ?_
  refine then_n ?_
  by_cases hf : fitsB n x y = true
  · have hf' := of_decide_eq_true hf
    obtain ⟨hx0, hy0, hx1, hy1⟩ := hf'
    obtain ⟨x, rfl⟩ := Int.eq_ofNat_of_zero_le hx0
    obtain ⟨y, rfl⟩ := Int.eq_ofNat_of_zero_le hy0
    
    refine wp_seq ?_
    refine wp_region_lit ?_   -- region 9
    have hE := Env.refl a39 [46, 47, 48, 49, 45, 50, 51, 11, 12]
    apply sq_det 46 hE k rfl (by rfl) (by rfl) rfl
    case h =>   -- 0: t46 := Op.move (tmp 9)
      exact x_move rfl (hE.eval 9 (by rfl) e9)
    intro a40 hE e46 kp
    apply sq_det 47 hE k rfl (by rfl) (by rfl) rfl
    case h =>   -- 1: t47 := Op.move (tmp 1)
      exact x_move rfl (hE.eval 1 (by rfl) e1)
    intro a41 hE e47 kp
    replace e46 := (kp 46 rfl).trans e46
    apply sq_det 48 hE k rfl (by rfl) (by rfl) rfl
    case h =>   -- 2: t48 := Op.move (tmp 2)
      exact x_move rfl (hE.eval 2 (by rfl) e2)
    intro a42 hE e48 kp
    replace e46 := (kp 46 rfl).trans e46
    replace e47 := (kp 47 rfl).trans e47
    apply sq_call 49 hE k rfl (by rfl) (by rfl) rfl
    case h =>   -- (*tierce/disc.Disc).Read
      simp [go_sem, BigFrame.eval_const, BigFrame.eval_global, BigFrame.eval_func, ↓IntWalk.iteOmega, ev e46, ev e47, ev e48]
      with_reducible exact ⟨rfl, rfl⟩
    case hc => exact dread_ok x y _ (OwnT.disc O) (OwnT.get O 1 rfl) (by omega) rfl
    rintro e w44 ⟨rfl, R⟩
    replace O := OwnT.ext O R
    refine ⟨_, rfl, ?_⟩
    intro a43 hE e49 kp
    apply sq_det 45 hE k rfl (by rfl) (by rfl) rfl
    case h =>   -- 4: t45 := Op.move (tmp 49)
      exact x_move rfl e49
    intro a45 hE e45 kp
    apply sq_det 50 hE k rfl (by rfl) (by rfl) rfl
    case h =>   -- 5: t50 := Op.extract (tmp 45) 0
      simp [go_sem, BigFrame.eval_const, BigFrame.eval_global, BigFrame.eval_func, ↓IntWalk.iteOmega, ev e45]
      with_reducible rfl
    intro a46 hE e50 kp
    replace e45 := (kp 45 rfl).trans e45
    apply sq_det 51 hE k rfl (by rfl) (by rfl) rfl
    case h =>   -- 6: t51 := Op.extract (tmp 45) 1
      simp [go_sem, BigFrame.eval_const, BigFrame.eval_global, BigFrame.eval_func, ↓IntWalk.iteOmega, ev e45]
      with_reducible rfl
    intro a47 hE e51 kp
    replace e50 := (kp 50 rfl).trans e50
    apply sq_det 11 hE k rfl (by rfl) (by rfl) rfl
    case h =>   -- 7: t11 := Op.assign (tmp 50)
      exact x_assign rfl e50
    intro a48 hE e11 kp
    replace e51 := (kp 51 rfl).trans e51
    apply sq_det 12 hE k rfl (by rfl) (by rfl) rfl
    case h =>   -- 8: t12 := Op.assign (tmp 51)
      exact x_assign rfl e51
    intro a49 hE e12 kp
    replace e11 := (kp 11 rfl).trans e11
    refine wpList_nil ?_
    replace e1 := hE.eval 1 (by rfl) e1
    replace e2 := hE.eval 2 (by rfl) e2
    replace e3 := hE.eval 3 (by rfl) e3
    replace e9 := hE.eval 9 (by rfl) e9
    replace e10 := hE.eval 10 (by rfl) e10
    replace k := k.env hE
    clear hE e44
    refine then_n ?_
    refine wp_seq ?_
    refine wp_region_lit ?_   -- region 10
    have hE := Env.refl a49 [52, 53, 54, 55, 56, 57, 58, 59, 60, 61, 62, 63, 64, 65, 66, 67, 68, 69, 13]
    apply sq_det 52 hE k rfl (by rfl) (by rfl) rfl
    case h =>   -- 0: t52 := Op.move (tmp 1)
      exact x_move rfl (hE.eval 1 (by rfl) e1)
    intro a50 hE e52 kp
    apply sq_det 53 hE k rfl (by rfl) (by rfl) rfl
    case h =>   -- 1: t53 := Op.binOp BinOp.geq 3 (tmp 52) (const (Value.int IntKind.i64 0)) 3
      exact x_dec (x_geq rfl e52 rfl) (decide_eq_true (by omega))
    intro a51 hE e53 kp
    apply sq_det 54 hE k rfl (by rfl) (by rfl) rfl
    case h =>   -- 2: t54 := Op.move (tmp 53)
      exact x_move rfl e53
    intro a52 hE e54 kp
    apply sq_detg 55 hE k rfl (by rfl) (by rfl) rfl rfl e54
    case h =>   -- 3: t55 := Op.move (tmp 2)
      exact x_move rfl (hE.eval 2 (by rfl) e2)
    intro a53 hE e55 kp
    replace e54 := (kp 54 rfl).trans e54
    apply sq_detg 56 hE k rfl (by rfl) (by rfl) rfl rfl e54
    case h =>   -- 4: t56 := Op.binOp BinOp.geq 3 (tmp 55) (const (Value.int IntKind.i64 0)) 3
      exact x_dec (x_geq rfl e55 rfl) (decide_eq_true (by omega))
    intro a54 hE e56 kp
    replace e54 := (kp 54 rfl).trans e54
    apply sq_det 57 hE k rfl (by rfl) (by rfl) rfl
    case h =>   -- 5: t57 := Op.pick (tmp 54) (tmp 56) (const (Value.bool false))
      exact x_pick_t rfl e54 e56
    intro a55 hE e57 kp
    apply sq_det 58 hE k rfl (by rfl) (by rfl) rfl
    case h =>   -- 6: t58 := Op.move (tmp 57)
      exact x_move rfl e57
    intro a56 hE e58 kp
    apply sq_detg 59 hE k rfl (by rfl) (by rfl) rfl rfl e58
    case h =>   -- 7: t59 := Op.move (tmp 1)
      exact x_move rfl (hE.eval 1 (by rfl) e1)
    intro a57 hE e59 kp
    replace e58 := (kp 58 rfl).trans e58
    apply sq_detg 60 hE k rfl (by rfl) (by rfl) rfl rfl e58
    case h =>   -- 8: t60 := Op.move (tmp 10)
      exact x_move rfl (hE.eval 10 (by rfl) e10)
    intro a58 hE e60 kp
    replace e58 := (kp 58 rfl).trans e58
    replace e59 := (kp 59 rfl).trans e59
    apply sq_detg 61 hE k rfl (by rfl) (by rfl) rfl rfl e58
    case h =>   -- 9: t61 := Op.binOp BinOp.leq 3 (tmp 59) (tmp 60) 3
      exact x_dec (x_leq rfl e59 e60) (decide_eq_true (by omega))
    intro a59 hE e61 kp
    replace e58 := (kp 58 rfl).trans e58
    apply sq_det 62 hE k rfl (by rfl) (by rfl) rfl
    case h =>   -- 10: t62 := Op.pick (tmp 58) (tmp 61) (const (Value.bool false))
      exact x_pick_t rfl e58 e61
    intro a60 hE e62 kp
    apply sq_det 63 hE k rfl (by rfl) (by rfl) rfl
    case h =>   -- 11: t63 := Op.move (tmp 62)
      exact x_move rfl e62
    intro a61 hE e63 kp
    apply sq_detg 64 hE k rfl (by rfl) (by rfl) rfl rfl e63
    case h =>   -- 12: t64 := Op.move (tmp 2)
      exact x_move rfl (hE.eval 2 (by rfl) e2)
    intro a62 hE e64 kp
    replace e63 := (kp 63 rfl).trans e63
    apply sq_detg 65 hE k rfl (by rfl) (by rfl) rfl rfl e63
    case h =>   -- 13: t65 := Op.move (tmp 10)
      exact x_move rfl (hE.eval 10 (by rfl) e10)
    intro a63 hE e65 kp
    replace e63 := (kp 63 rfl).trans e63
    replace e64 := (kp 64 rfl).trans e64
    apply sq_detg 66 hE k rfl (by rfl) (by rfl) rfl rfl e63
    case h =>   -- 14: t66 := Op.move (tmp 1)
      exact x_move rfl (hE.eval 1 (by rfl) e1)
    intro a64 hE e66 kp
    replace e63 := (kp 63 rfl).trans e63
    replace e64 := (kp 64 rfl).trans e64
    replace e65 := (kp 65 rfl).trans e65
    apply sq_detg 67 hE k rfl (by rfl) (by rfl) rfl rfl e63
    case h =>   -- 15: t67 := Op.binOp BinOp.sub 3 (tmp 65) (tmp 66) 3
      exact x_sub rfl e65 e66 (by omega)
    intro a65 hE e67 kp
    replace e63 := (kp 63 rfl).trans e63
    replace e64 := (kp 64 rfl).trans e64
    apply sq_detg 68 hE k rfl (by rfl) (by rfl) rfl rfl e63
    case h =>   -- 16: t68 := Op.binOp BinOp.leq 3 (tmp 64) (tmp 67) 3
      exact x_dec (x_leq rfl e64 e67) (decide_eq_true (by omega))
    intro a66 hE e68 kp
    replace e63 := (kp 63 rfl).trans e63
    apply sq_det 69 hE k rfl (by rfl) (by rfl) rfl
    case h =>   -- 17: t69 := Op.pick (tmp 63) (tmp 68) (const (Value.bool false))
      exact x_pick_t rfl e63 e68
    intro a67 hE e69 kp
    apply sq_det 13 hE k rfl (by rfl) (by rfl) rfl
    case h =>   -- 18: t13 := Op.assign (tmp 69)
      exact x_assign rfl e69
    intro a68 hE e13 kp
    refine wpList_nil ?_
    replace e1 := hE.eval 1 (by rfl) e1
    replace e2 := hE.eval 2 (by rfl) e2
    replace e3 := hE.eval 3 (by rfl) e3
    replace e9 := hE.eval 9 (by rfl) e9
    replace e10 := hE.eval 10 (by rfl) e10
    replace e11 := hE.eval 11 (by rfl) e11
    replace e12 := hE.eval 12 (by rfl) e12
    replace k := k.env hE
    clear hE
    refine then_n ?_
    refine wp_seq ?_
    refine wp_seq ?_
    refine wp_region_lit ?_   -- region 11
    have hE := Env.refl a68 [70, 71, 72, 73, 74, 75, 76, 77, 78, 79, 80, 81, 82, 83, 84, 85, 86, 87, 88, 89, 90, 91, 92, 93, 94]
    apply sq_det 70 hE k rfl (by rfl) (by rfl) rfl
    case h =>   -- 0: t70 := Op.move (tmp 13)
      exact x_move rfl (hE.eval 13 (by rfl) e13)
    intro a69 hE e70 kp
    apply sq_det 71 hE k rfl (by rfl) (by rfl) rfl
    case h =>   -- 1: t71 := Op.move (tmp 12)
      exact x_move rfl (hE.eval 12 (by rfl) e12)
    intro a70 hE e71 kp
    replace e70 := (kp 70 rfl).trans e70
    apply sq_det 72 hE k rfl (by rfl) (by rfl) rfl
    case h =>   -- 2: t72 := Op.binOp BinOp.eql 36 (tmp 71) (const (Value.int IntKind.i64 0)) 36
      exact x_eql rfl e71 rfl
    intro a71 hE e72 kp
    replace e70 := (kp 70 rfl).trans e70
    apply sq_det 73 hE k rfl (by rfl) (by rfl) rfl
    case h =>   -- 3: t73 := Op.binOp BinOp.neq 4 (tmp 70) (tmp 72) 4
      simp [go_sem, BigFrame.eval_const, BigFrame.eval_global, BigFrame.eval_func, ↓IntWalk.iteOmega, ev e70, ev e72]
      with_reducible rfl
    intro a72 hE e73 kp
    apply sq_det 74 hE k rfl (by rfl) (by rfl) rfl
    case h =>   -- 4: t74 := Op.move (tmp 73)
      exact x_move rfl e73
    intro a73 hE e74 kp
    apply sq_detg 75 hE k rfl (by rfl) (by rfl) rfl rfl e74
    case h =>   -- 5: t75 := Op.move (tmp 13)
      exact x_move rfl (hE.eval 13 (by rfl) e13)
    intro a74 hE e75 kp
    replace e74 := (kp 74 rfl).trans e74
    apply sq_detg 76 hE k rfl (by rfl) (by rfl) rfl rfl e74
    case h =>   -- 6: t76 := Op.unOp UnOp.not 4 (tmp 75)
      exact x_not rfl e75
    intro a75 hE e76 kp
    replace e74 := (kp 74 rfl).trans e74
    apply sq_detg 77 hE k rfl (by rfl) (by rfl) rfl rfl e74
    case h =>   -- 7: t77 := Op.move (tmp 76)
      exact x_move rfl e76
    intro a76 hE e77 kp
    replace e74 := (kp 74 rfl).trans e74
    refine sq_skipg 78 hE k rfl (by rfl) (by rfl) rfl rfl (.inl e77) ?_
    intro a77 hE e78 kp
    replace e74 := (kp 74 rfl).trans e74
    replace e77 := (kp 77 rfl).trans e77
    refine sq_skipg 79 hE k rfl (by rfl) (by rfl) rfl rfl (.inl e77) ?_
    intro a78 hE e79 kp
    replace e74 := (kp 74 rfl).trans e74
    replace e77 := (kp 77 rfl).trans e77
    refine sq_skipg 80 hE k rfl (by rfl) (by rfl) rfl rfl (.inl e77) ?_
    intro a79 hE e80 kp
    replace e74 := (kp 74 rfl).trans e74
    replace e77 := (kp 77 rfl).trans e77
    refine sq_skipg 81 hE k rfl (by rfl) (by rfl) rfl rfl (.inr e80) ?_
    intro a80 hE e81 kp
    replace e74 := (kp 74 rfl).trans e74
    replace e77 := (kp 77 rfl).trans e77
    replace e80 := (kp 80 rfl).trans e80
    refine sq_skipg 82 hE k rfl (by rfl) (by rfl) rfl rfl (.inr e80) ?_
    intro a81 hE e82 kp
    replace e74 := (kp 74 rfl).trans e74
    replace e77 := (kp 77 rfl).trans e77
    replace e80 := (kp 80 rfl).trans e80
    refine sq_skipg 83 hE k rfl (by rfl) (by rfl) rfl rfl (.inl e77) ?_
    intro a82 hE e83 kp
    replace e74 := (kp 74 rfl).trans e74
    replace e77 := (kp 77 rfl).trans e77
    apply sq_detg 84 hE k rfl (by rfl) (by rfl) rfl rfl e74
    case h =>   -- 14: t84 := Op.pick (tmp 77) (tmp 83) (const (Value.bool false))
      exact x_pick_f rfl e77 rfl
    intro a83 hE e84 kp
    replace e74 := (kp 74 rfl).trans e74
    apply sq_det 85 hE k rfl (by rfl) (by rfl) rfl
    case h =>   -- 15: t85 := Op.pick (tmp 74) (const (Value.bool true)) (tmp 84)
      exact x_pick_f rfl e74 e84
    intro a84 hE e85 kp
    apply sq_det 86 hE k rfl (by rfl) (by rfl) rfl
    case h =>   -- 16: t86 := Op.move (tmp 85)
      exact x_move rfl e85
    intro a85 hE e86 kp
    apply sq_detg 87 hE k rfl (by rfl) (by rfl) rfl rfl e86
    case h =>   -- 17: t87 := Op.move (tmp 13)
      exact x_move rfl (hE.eval 13 (by rfl) e13)
    intro a86 hE e87 kp
    replace e86 := (kp 86 rfl).trans e86
    apply sq_detg 88 hE k rfl (by rfl) (by rfl) rfl rfl e86
    case h =>   -- 18: t88 := Op.move (tmp 87)
      exact x_move rfl e87
    intro a87 hE e88 kp
    replace e86 := (kp 86 rfl).trans e86
    apply sq_detg 89 hE k rfl (by rfl) (by rfl) rfl rfl e88
    case h =>   -- 19: t89 := Op.move (tmp 11)
      exact x_move rfl (hE.eval 11 (by rfl) e11)
    intro a88 hE e89 kp
    replace e86 := (kp 86 rfl).trans e86
    replace e88 := (kp 88 rfl).trans e88
    apply sq_detg 90 hE k rfl (by rfl) (by rfl) rfl rfl e88
    case h =>   -- 20: t90 := Op.move (tmp 2)
      exact x_move rfl (hE.eval 2 (by rfl) e2)
    intro a89 hE e90 kp
    replace e86 := (kp 86 rfl).trans e86
    replace e88 := (kp 88 rfl).trans e88
    replace e89 := (kp 89 rfl).trans e89
    apply sq_callg 91 hE k rfl (by rfl) (by rfl) rfl rfl e88
    case h =>   -- tierce/tierceref04.Zeros
      simp [go_sem, BigFrame.eval_const, BigFrame.eval_global, BigFrame.eval_func, ↓IntWalk.iteOmega, ev e90]
      with_reducible exact ⟨rfl, rfl⟩
    case hc => exact zeros4_any ↑y y _ (by omega)
    rintro e w91 ⟨rfl, R⟩
    replace O := OwnT.ext O R
    refine ⟨_, rfl, ?_⟩
    intro a90 hE e91 kp
    replace e86 := (kp 86 rfl).trans e86
    replace e88 := (kp 88 rfl).trans e88
    replace e89 := (kp 89 rfl).trans e89
    apply sq_detg 92 hE k rfl (by rfl) (by rfl) rfl rfl e88
    case h =>   -- 22: t92 := Op.binOp BinOp.neq 9 (tmp 89) (tmp 91) 9
      exact x_dec (x_nes (l := readL (List.replicate n zsec) (fun _ => none) x y) (m := List.replicate (16 * y) 0) rfl e89 e91) (decide_eq_false (fun h => h (read_zero (by omega))))
    intro a92 hE e92 kp
    replace e86 := (kp 86 rfl).trans e86
    replace e88 := (kp 88 rfl).trans e88
    apply sq_detg 93 hE k rfl (by rfl) (by rfl) rfl rfl e86
    case h =>   -- 23: t93 := Op.pick (tmp 88) (tmp 92) (const (Value.bool false))
      exact x_pick_t rfl e88 e92
    intro a93 hE e93 kp
    replace e86 := (kp 86 rfl).trans e86
    apply sq_det 94 hE k rfl (by rfl) (by rfl) rfl
    case h =>   -- 24: t94 := Op.pick (tmp 86) (const (Value.bool true)) (tmp 93)
      exact x_pick_f rfl e86 e93
    intro a94 hE e94 kp
    refine wpList_nil ?_
    replace e1 := hE.eval 1 (by rfl) e1
    replace e3 := hE.eval 3 (by rfl) e3
    replace e9 := hE.eval 9 (by rfl) e9
    replace e10 := hE.eval 10 (by rfl) e10
    replace k := k.env hE
    clear hE e2 e11 e12 e13
    refine then_n ?_
    refine cond_f e94 rfl ?_
    refine wp_skip ?_
    refine then_n ?_
    refine sizes_write _ _ k e1 e3 e9 e10 O hl hn ?_
    intro a9 w9 k e8 hb
    refine ret_F1 rfl k e8 ?_
    exact ⟨rfl, hb⟩
  · replace hf := Bool.eq_false_iff.2 hf
    have hf' := of_decide_eq_false hf
    refine wp_seq ?_
    refine wp_region_lit ?_   -- region 9
    have hE := Env.refl a39 [46, 47, 48, 49, 45, 50, 51, 11, 12]
    apply sq_det 46 hE k rfl (by rfl) (by rfl) rfl
    case h =>   -- 0: t46 := Op.move (tmp 9)
      exact x_move rfl (hE.eval 9 (by rfl) e9)
    intro a95 hE e46 kp
    apply sq_det 47 hE k rfl (by rfl) (by rfl) rfl
    case h =>   -- 1: t47 := Op.move (tmp 1)
      exact x_move rfl (hE.eval 1 (by rfl) e1)
    intro a96 hE e47 kp
    replace e46 := (kp 46 rfl).trans e46
    apply sq_det 48 hE k rfl (by rfl) (by rfl) rfl
    case h =>   -- 2: t48 := Op.move (tmp 2)
      exact x_move rfl (hE.eval 2 (by rfl) e2)
    intro a97 hE e48 kp
    replace e46 := (kp 46 rfl).trans e46
    replace e47 := (kp 47 rfl).trans e47
    apply sq_call 49 hE k rfl (by rfl) (by rfl) rfl
    case h =>   -- (*tierce/disc.Disc).Read
      simp [go_sem, BigFrame.eval_const, BigFrame.eval_global, BigFrame.eval_func, ↓IntWalk.iteOmega, ev e46, ev e47, ev e48]
      with_reducible exact ⟨rfl, rfl⟩
    case hc => exact dread_range x y _ (OwnT.disc O) (OwnT.get O 1 rfl) hf
    rintro e w99 ⟨rfl, R⟩
    replace O := OwnT.ext O R
    refine ⟨_, rfl, ?_⟩
    intro a98 hE e49 kp
    apply sq_det 45 hE k rfl (by rfl) (by rfl) rfl
    case h =>   -- 4: t45 := Op.move (tmp 49)
      exact x_move rfl e49
    intro a100 hE e45 kp
    apply sq_det 50 hE k rfl (by rfl) (by rfl) rfl
    case h =>   -- 5: t50 := Op.extract (tmp 45) 0
      simp [go_sem, BigFrame.eval_const, BigFrame.eval_global, BigFrame.eval_func, ↓IntWalk.iteOmega, ev e45]
      with_reducible rfl
    intro a101 hE e50 kp
    replace e45 := (kp 45 rfl).trans e45
    apply sq_det 51 hE k rfl (by rfl) (by rfl) rfl
    case h =>   -- 6: t51 := Op.extract (tmp 45) 1
      simp [go_sem, BigFrame.eval_const, BigFrame.eval_global, BigFrame.eval_func, ↓IntWalk.iteOmega, ev e45]
      with_reducible rfl
    intro a102 hE e51 kp
    replace e50 := (kp 50 rfl).trans e50
    apply sq_det 11 hE k rfl (by rfl) (by rfl) rfl
    case h =>   -- 7: t11 := Op.assign (tmp 50)
      exact x_assign rfl e50
    intro a103 hE e11 kp
    replace e51 := (kp 51 rfl).trans e51
    apply sq_det 12 hE k rfl (by rfl) (by rfl) rfl
    case h =>   -- 8: t12 := Op.assign (tmp 51)
      exact x_assign rfl e51
    intro a104 hE e12 kp
    replace e11 := (kp 11 rfl).trans e11
    refine wpList_nil ?_
    replace e1 := hE.eval 1 (by rfl) e1
    replace e2 := hE.eval 2 (by rfl) e2
    replace e3 := hE.eval 3 (by rfl) e3
    replace e9 := hE.eval 9 (by rfl) e9
    replace e10 := hE.eval 10 (by rfl) e10
    replace k := k.env hE
    clear hE e44
    refine then_n ?_
    by_cases hc0 : 0 ≤ x
    rotate_left
    · skip
      refine wp_seq ?_
      refine wp_region_lit ?_   -- region 10
      have hE := Env.refl a104 [52, 53, 54, 55, 56, 57, 58, 59, 60, 61, 62, 63, 64, 65, 66, 67, 68, 69, 13]
      apply sq_det 52 hE k rfl (by rfl) (by rfl) rfl
      case h =>   -- 0: t52 := Op.move (tmp 1)
        exact x_move rfl (hE.eval 1 (by rfl) e1)
      intro a105 hE e52 kp
      apply sq_det 53 hE k rfl (by rfl) (by rfl) rfl
      case h =>   -- 1: t53 := Op.binOp BinOp.geq 3 (tmp 52) (const (Value.int IntKind.i64 0)) 3
        exact x_dec (x_geq rfl e52 rfl) (decide_eq_false (by omega))
      intro a106 hE e53 kp
      apply sq_det 54 hE k rfl (by rfl) (by rfl) rfl
      case h =>   -- 2: t54 := Op.move (tmp 53)
        exact x_move rfl e53
      intro a107 hE e54 kp
      refine sq_skipg 55 hE k rfl (by rfl) (by rfl) rfl rfl (.inl e54) ?_
      intro a108 hE e55 kp
      replace e54 := (kp 54 rfl).trans e54
      refine sq_skipg 56 hE k rfl (by rfl) (by rfl) rfl rfl (.inl e54) ?_
      intro a109 hE e56 kp
      replace e54 := (kp 54 rfl).trans e54
      apply sq_det 57 hE k rfl (by rfl) (by rfl) rfl
      case h =>   -- 5: t57 := Op.pick (tmp 54) (tmp 56) (const (Value.bool false))
        exact x_pick_f rfl e54 rfl
      intro a110 hE e57 kp
      apply sq_det 58 hE k rfl (by rfl) (by rfl) rfl
      case h =>   -- 6: t58 := Op.move (tmp 57)
        exact x_move rfl e57
      intro a111 hE e58 kp
      refine sq_skipg 59 hE k rfl (by rfl) (by rfl) rfl rfl (.inl e58) ?_
      intro a112 hE e59 kp
      replace e58 := (kp 58 rfl).trans e58
      refine sq_skipg 60 hE k rfl (by rfl) (by rfl) rfl rfl (.inl e58) ?_
      intro a113 hE e60 kp
      replace e58 := (kp 58 rfl).trans e58
      replace e59 := (kp 59 rfl).trans e59
      refine sq_skipg 61 hE k rfl (by rfl) (by rfl) rfl rfl (.inl e58) ?_
      intro a114 hE e61 kp
      replace e58 := (kp 58 rfl).trans e58
      apply sq_det 62 hE k rfl (by rfl) (by rfl) rfl
      case h =>   -- 10: t62 := Op.pick (tmp 58) (tmp 61) (const (Value.bool false))
        exact x_pick_f rfl e58 rfl
      intro a115 hE e62 kp
      apply sq_det 63 hE k rfl (by rfl) (by rfl) rfl
      case h =>   -- 11: t63 := Op.move (tmp 62)
        exact x_move rfl e62
      intro a116 hE e63 kp
      refine sq_skipg 64 hE k rfl (by rfl) (by rfl) rfl rfl (.inl e63) ?_
      intro a117 hE e64 kp
      replace e63 := (kp 63 rfl).trans e63
      refine sq_skipg 65 hE k rfl (by rfl) (by rfl) rfl rfl (.inl e63) ?_
      intro a118 hE e65 kp
      replace e63 := (kp 63 rfl).trans e63
      replace e64 := (kp 64 rfl).trans e64
      refine sq_skipg 66 hE k rfl (by rfl) (by rfl) rfl rfl (.inl e63) ?_
      intro a119 hE e66 kp
      replace e63 := (kp 63 rfl).trans e63
      replace e64 := (kp 64 rfl).trans e64
      replace e65 := (kp 65 rfl).trans e65
      refine sq_skipg 67 hE k rfl (by rfl) (by rfl) rfl rfl (.inl e63) ?_
      intro a120 hE e67 kp
      replace e63 := (kp 63 rfl).trans e63
      replace e64 := (kp 64 rfl).trans e64
      refine sq_skipg 68 hE k rfl (by rfl) (by rfl) rfl rfl (.inl e63) ?_
      intro a121 hE e68 kp
      replace e63 := (kp 63 rfl).trans e63
      apply sq_det 69 hE k rfl (by rfl) (by rfl) rfl
      case h =>   -- 17: t69 := Op.pick (tmp 63) (tmp 68) (const (Value.bool false))
        exact x_pick_f rfl e63 rfl
      intro a122 hE e69 kp
      apply sq_det 13 hE k rfl (by rfl) (by rfl) rfl
      case h =>   -- 18: t13 := Op.assign (tmp 69)
        exact x_assign rfl e69
      intro a123 hE e13 kp
      refine wpList_nil ?_
      replace e1 := hE.eval 1 (by rfl) e1
      replace e2 := hE.eval 2 (by rfl) e2
      replace e3 := hE.eval 3 (by rfl) e3
      replace e9 := hE.eval 9 (by rfl) e9
      replace e10 := hE.eval 10 (by rfl) e10
      replace e11 := hE.eval 11 (by rfl) e11
      replace e12 := hE.eval 12 (by rfl) e12
      replace k := k.env hE
      clear hE
      refine then_n ?_
      refine wp_seq ?_
      refine wp_seq ?_
      refine wp_region_lit ?_   -- region 11
      have hE := Env.refl a123 [70, 71, 72, 73, 74, 75, 76, 77, 78, 79, 80, 81, 82, 83, 84, 85, 86, 87, 88, 89, 90, 91, 92, 93, 94]
      apply sq_det 70 hE k rfl (by rfl) (by rfl) rfl
      case h =>   -- 0: t70 := Op.move (tmp 13)
        exact x_move rfl (hE.eval 13 (by rfl) e13)
      intro a124 hE e70 kp
      apply sq_det 71 hE k rfl (by rfl) (by rfl) rfl
      case h =>   -- 1: t71 := Op.move (tmp 12)
        exact x_move rfl (hE.eval 12 (by rfl) e12)
      intro a125 hE e71 kp
      replace e70 := (kp 70 rfl).trans e70
      apply sq_det 72 hE k rfl (by rfl) (by rfl) rfl
      case h =>   -- 2: t72 := Op.binOp BinOp.eql 36 (tmp 71) (const (Value.int IntKind.i64 0)) 36
        exact x_eql rfl e71 rfl
      intro a126 hE e72 kp
      replace e70 := (kp 70 rfl).trans e70
      apply sq_det 73 hE k rfl (by rfl) (by rfl) rfl
      case h =>   -- 3: t73 := Op.binOp BinOp.neq 4 (tmp 70) (tmp 72) 4
        simp [go_sem, BigFrame.eval_const, BigFrame.eval_global, BigFrame.eval_func, ↓IntWalk.iteOmega, ev e70, ev e72]
        with_reducible rfl
      intro a127 hE e73 kp
      apply sq_det 74 hE k rfl (by rfl) (by rfl) rfl
      case h =>   -- 4: t74 := Op.move (tmp 73)
        exact x_move rfl e73
      intro a128 hE e74 kp
      apply sq_detg 75 hE k rfl (by rfl) (by rfl) rfl rfl e74
      case h =>   -- 5: t75 := Op.move (tmp 13)
        exact x_move rfl (hE.eval 13 (by rfl) e13)
      intro a129 hE e75 kp
      replace e74 := (kp 74 rfl).trans e74
      apply sq_detg 76 hE k rfl (by rfl) (by rfl) rfl rfl e74
      case h =>   -- 6: t76 := Op.unOp UnOp.not 4 (tmp 75)
        exact x_not rfl e75
      intro a130 hE e76 kp
      replace e74 := (kp 74 rfl).trans e74
      apply sq_detg 77 hE k rfl (by rfl) (by rfl) rfl rfl e74
      case h =>   -- 7: t77 := Op.move (tmp 76)
        exact x_move rfl e76
      intro a131 hE e77 kp
      replace e74 := (kp 74 rfl).trans e74
      apply sq_detg 78 hE k rfl (by rfl) (by rfl) rfl rfl e77
      case h =>   -- 8: t78 := Op.move (tmp 12)
        exact x_move rfl (hE.eval 12 (by rfl) e12)
      intro a132 hE e78 kp
      replace e74 := (kp 74 rfl).trans e74
      replace e77 := (kp 77 rfl).trans e77
      apply sq_detg 79 hE k rfl (by rfl) (by rfl) rfl rfl e77
      case h =>   -- 9: t79 := Op.binOp BinOp.neq 36 (tmp 78) (const (Value.int IntKind.i64 9)) 36
        exact x_neq rfl e78 rfl
      intro a133 hE e79 kp
      replace e74 := (kp 74 rfl).trans e74
      replace e77 := (kp 77 rfl).trans e77
      apply sq_detg 80 hE k rfl (by rfl) (by rfl) rfl rfl e77
      case h =>   -- 10: t80 := Op.move (tmp 79)
        exact x_move rfl e79
      intro a134 hE e80 kp
      replace e74 := (kp 74 rfl).trans e74
      replace e77 := (kp 77 rfl).trans e77
      apply sq_detg 81 hE k rfl (by rfl) (by rfl) rfl rfl e80
      case h =>   -- 11: t81 := Op.move (tmp 11)
        exact x_move rfl (hE.eval 11 (by rfl) e11)
      intro a135 hE e81 kp
      replace e74 := (kp 74 rfl).trans e74
      replace e77 := (kp 77 rfl).trans e77
      replace e80 := (kp 80 rfl).trans e80
      apply sq_detg 82 hE k rfl (by rfl) (by rfl) rfl rfl e80
      case h =>   -- 12: t82 := Op.binOp BinOp.neq 9 (tmp 81) (const (Value.string {data := #[]})) 9
        exact x_dec (x_nes (l := []) (m := []) rfl e81 rfl) (decide_eq_false (fun h => h rfl))
      intro a136 hE e82 kp
      replace e74 := (kp 74 rfl).trans e74
      replace e77 := (kp 77 rfl).trans e77
      replace e80 := (kp 80 rfl).trans e80
      apply sq_detg 83 hE k rfl (by rfl) (by rfl) rfl rfl e77
      case h =>   -- 13: t83 := Op.pick (tmp 80) (const (Value.bool true)) (tmp 82)
        exact x_pick_f rfl e80 e82
      intro a137 hE e83 kp
      replace e74 := (kp 74 rfl).trans e74
      replace e77 := (kp 77 rfl).trans e77
      apply sq_detg 84 hE k rfl (by rfl) (by rfl) rfl rfl e74
      case h =>   -- 14: t84 := Op.pick (tmp 77) (tmp 83) (const (Value.bool false))
        exact x_pick_t rfl e77 e83
      intro a138 hE e84 kp
      replace e74 := (kp 74 rfl).trans e74
      apply sq_det 85 hE k rfl (by rfl) (by rfl) rfl
      case h =>   -- 15: t85 := Op.pick (tmp 74) (const (Value.bool true)) (tmp 84)
        exact x_pick_f rfl e74 e84
      intro a139 hE e85 kp
      apply sq_det 86 hE k rfl (by rfl) (by rfl) rfl
      case h =>   -- 16: t86 := Op.move (tmp 85)
        exact x_move rfl e85
      intro a140 hE e86 kp
      apply sq_detg 87 hE k rfl (by rfl) (by rfl) rfl rfl e86
      case h =>   -- 17: t87 := Op.move (tmp 13)
        exact x_move rfl (hE.eval 13 (by rfl) e13)
      intro a141 hE e87 kp
      replace e86 := (kp 86 rfl).trans e86
      apply sq_detg 88 hE k rfl (by rfl) (by rfl) rfl rfl e86
      case h =>   -- 18: t88 := Op.move (tmp 87)
        exact x_move rfl e87
      intro a142 hE e88 kp
      replace e86 := (kp 86 rfl).trans e86
      refine sq_skipg 89 hE k rfl (by rfl) (by rfl) rfl rfl (.inl e88) ?_
      intro a143 hE e89 kp
      replace e86 := (kp 86 rfl).trans e86
      replace e88 := (kp 88 rfl).trans e88
      refine sq_skipg 90 hE k rfl (by rfl) (by rfl) rfl rfl (.inl e88) ?_
      intro a144 hE e90 kp
      replace e86 := (kp 86 rfl).trans e86
      replace e88 := (kp 88 rfl).trans e88
      replace e89 := (kp 89 rfl).trans e89
      refine sq_skipg 91 hE k rfl (by rfl) (by rfl) rfl rfl (.inl e88) ?_
      intro a145 hE e91 kp
      replace e86 := (kp 86 rfl).trans e86
      replace e88 := (kp 88 rfl).trans e88
      replace e89 := (kp 89 rfl).trans e89
      refine sq_skipg 92 hE k rfl (by rfl) (by rfl) rfl rfl (.inl e88) ?_
      intro a146 hE e92 kp
      replace e86 := (kp 86 rfl).trans e86
      replace e88 := (kp 88 rfl).trans e88
      apply sq_detg 93 hE k rfl (by rfl) (by rfl) rfl rfl e86
      case h =>   -- 23: t93 := Op.pick (tmp 88) (tmp 92) (const (Value.bool false))
        exact x_pick_f rfl e88 rfl
      intro a147 hE e93 kp
      replace e86 := (kp 86 rfl).trans e86
      apply sq_det 94 hE k rfl (by rfl) (by rfl) rfl
      case h =>   -- 24: t94 := Op.pick (tmp 86) (const (Value.bool true)) (tmp 93)
        exact x_pick_f rfl e86 e93
      intro a148 hE e94 kp
      refine wpList_nil ?_
      replace e1 := hE.eval 1 (by rfl) e1
      replace e3 := hE.eval 3 (by rfl) e3
      replace e9 := hE.eval 9 (by rfl) e9
      replace e10 := hE.eval 10 (by rfl) e10
      replace k := k.env hE
      clear hE e2 e11 e12 e13
      refine then_n ?_
      refine cond_f e94 rfl ?_
      refine wp_skip ?_
      refine then_n ?_
      refine sizes_write _ _ k e1 e3 e9 e10 O hl hn ?_
      intro a9 w9 k e8 hb
      refine ret_F1 rfl k e8 ?_
      exact ⟨rfl, hb⟩
    by_cases hc1 : 0 ≤ y
    rotate_left
    · skip
      refine wp_seq ?_
      refine wp_region_lit ?_   -- region 10
      have hE := Env.refl a104 [52, 53, 54, 55, 56, 57, 58, 59, 60, 61, 62, 63, 64, 65, 66, 67, 68, 69, 13]
      apply sq_det 52 hE k rfl (by rfl) (by rfl) rfl
      case h =>   -- 0: t52 := Op.move (tmp 1)
        exact x_move rfl (hE.eval 1 (by rfl) e1)
      intro a149 hE e52 kp
      apply sq_det 53 hE k rfl (by rfl) (by rfl) rfl
      case h =>   -- 1: t53 := Op.binOp BinOp.geq 3 (tmp 52) (const (Value.int IntKind.i64 0)) 3
        exact x_dec (x_geq rfl e52 rfl) (decide_eq_true (by omega))
      intro a150 hE e53 kp
      apply sq_det 54 hE k rfl (by rfl) (by rfl) rfl
      case h =>   -- 2: t54 := Op.move (tmp 53)
        exact x_move rfl e53
      intro a151 hE e54 kp
      apply sq_detg 55 hE k rfl (by rfl) (by rfl) rfl rfl e54
      case h =>   -- 3: t55 := Op.move (tmp 2)
        exact x_move rfl (hE.eval 2 (by rfl) e2)
      intro a152 hE e55 kp
      replace e54 := (kp 54 rfl).trans e54
      apply sq_detg 56 hE k rfl (by rfl) (by rfl) rfl rfl e54
      case h =>   -- 4: t56 := Op.binOp BinOp.geq 3 (tmp 55) (const (Value.int IntKind.i64 0)) 3
        exact x_dec (x_geq rfl e55 rfl) (decide_eq_false (by omega))
      intro a153 hE e56 kp
      replace e54 := (kp 54 rfl).trans e54
      apply sq_det 57 hE k rfl (by rfl) (by rfl) rfl
      case h =>   -- 5: t57 := Op.pick (tmp 54) (tmp 56) (const (Value.bool false))
        exact x_pick_t rfl e54 e56
      intro a154 hE e57 kp
      apply sq_det 58 hE k rfl (by rfl) (by rfl) rfl
      case h =>   -- 6: t58 := Op.move (tmp 57)
        exact x_move rfl e57
      intro a155 hE e58 kp
      refine sq_skipg 59 hE k rfl (by rfl) (by rfl) rfl rfl (.inl e58) ?_
      intro a156 hE e59 kp
      replace e58 := (kp 58 rfl).trans e58
      refine sq_skipg 60 hE k rfl (by rfl) (by rfl) rfl rfl (.inl e58) ?_
      intro a157 hE e60 kp
      replace e58 := (kp 58 rfl).trans e58
      replace e59 := (kp 59 rfl).trans e59
      refine sq_skipg 61 hE k rfl (by rfl) (by rfl) rfl rfl (.inl e58) ?_
      intro a158 hE e61 kp
      replace e58 := (kp 58 rfl).trans e58
      apply sq_det 62 hE k rfl (by rfl) (by rfl) rfl
      case h =>   -- 10: t62 := Op.pick (tmp 58) (tmp 61) (const (Value.bool false))
        exact x_pick_f rfl e58 rfl
      intro a159 hE e62 kp
      apply sq_det 63 hE k rfl (by rfl) (by rfl) rfl
      case h =>   -- 11: t63 := Op.move (tmp 62)
        exact x_move rfl e62
      intro a160 hE e63 kp
      refine sq_skipg 64 hE k rfl (by rfl) (by rfl) rfl rfl (.inl e63) ?_
      intro a161 hE e64 kp
      replace e63 := (kp 63 rfl).trans e63
      refine sq_skipg 65 hE k rfl (by rfl) (by rfl) rfl rfl (.inl e63) ?_
      intro a162 hE e65 kp
      replace e63 := (kp 63 rfl).trans e63
      replace e64 := (kp 64 rfl).trans e64
      refine sq_skipg 66 hE k rfl (by rfl) (by rfl) rfl rfl (.inl e63) ?_
      intro a163 hE e66 kp
      replace e63 := (kp 63 rfl).trans e63
      replace e64 := (kp 64 rfl).trans e64
      replace e65 := (kp 65 rfl).trans e65
      refine sq_skipg 67 hE k rfl (by rfl) (by rfl) rfl rfl (.inl e63) ?_
      intro a164 hE e67 kp
      replace e63 := (kp 63 rfl).trans e63
      replace e64 := (kp 64 rfl).trans e64
      refine sq_skipg 68 hE k rfl (by rfl) (by rfl) rfl rfl (.inl e63) ?_
      intro a165 hE e68 kp
      replace e63 := (kp 63 rfl).trans e63
      apply sq_det 69 hE k rfl (by rfl) (by rfl) rfl
      case h =>   -- 17: t69 := Op.pick (tmp 63) (tmp 68) (const (Value.bool false))
        exact x_pick_f rfl e63 rfl
      intro a166 hE e69 kp
      apply sq_det 13 hE k rfl (by rfl) (by rfl) rfl
      case h =>   -- 18: t13 := Op.assign (tmp 69)
        exact x_assign rfl e69
      intro a167 hE e13 kp
      refine wpList_nil ?_
      replace e1 := hE.eval 1 (by rfl) e1
      replace e2 := hE.eval 2 (by rfl) e2
      replace e3 := hE.eval 3 (by rfl) e3
      replace e9 := hE.eval 9 (by rfl) e9
      replace e10 := hE.eval 10 (by rfl) e10
      replace e11 := hE.eval 11 (by rfl) e11
      replace e12 := hE.eval 12 (by rfl) e12
      replace k := k.env hE
      clear hE
      refine then_n ?_
      refine wp_seq ?_
      refine wp_seq ?_
      refine wp_region_lit ?_   -- region 11
      have hE := Env.refl a167 [70, 71, 72, 73, 74, 75, 76, 77, 78, 79, 80, 81, 82, 83, 84, 85, 86, 87, 88, 89, 90, 91, 92, 93, 94]
      apply sq_det 70 hE k rfl (by rfl) (by rfl) rfl
      case h =>   -- 0: t70 := Op.move (tmp 13)
        exact x_move rfl (hE.eval 13 (by rfl) e13)
      intro a168 hE e70 kp
      apply sq_det 71 hE k rfl (by rfl) (by rfl) rfl
      case h =>   -- 1: t71 := Op.move (tmp 12)
        exact x_move rfl (hE.eval 12 (by rfl) e12)
      intro a169 hE e71 kp
      replace e70 := (kp 70 rfl).trans e70
      apply sq_det 72 hE k rfl (by rfl) (by rfl) rfl
      case h =>   -- 2: t72 := Op.binOp BinOp.eql 36 (tmp 71) (const (Value.int IntKind.i64 0)) 36
        exact x_eql rfl e71 rfl
      intro a170 hE e72 kp
      replace e70 := (kp 70 rfl).trans e70
      apply sq_det 73 hE k rfl (by rfl) (by rfl) rfl
      case h =>   -- 3: t73 := Op.binOp BinOp.neq 4 (tmp 70) (tmp 72) 4
        simp [go_sem, BigFrame.eval_const, BigFrame.eval_global, BigFrame.eval_func, ↓IntWalk.iteOmega, ev e70, ev e72]
        with_reducible rfl
      intro a171 hE e73 kp
      apply sq_det 74 hE k rfl (by rfl) (by rfl) rfl
      case h =>   -- 4: t74 := Op.move (tmp 73)
        exact x_move rfl e73
      intro a172 hE e74 kp
      apply sq_detg 75 hE k rfl (by rfl) (by rfl) rfl rfl e74
      case h =>   -- 5: t75 := Op.move (tmp 13)
        exact x_move rfl (hE.eval 13 (by rfl) e13)
      intro a173 hE e75 kp
      replace e74 := (kp 74 rfl).trans e74
      apply sq_detg 76 hE k rfl (by rfl) (by rfl) rfl rfl e74
      case h =>   -- 6: t76 := Op.unOp UnOp.not 4 (tmp 75)
        exact x_not rfl e75
      intro a174 hE e76 kp
      replace e74 := (kp 74 rfl).trans e74
      apply sq_detg 77 hE k rfl (by rfl) (by rfl) rfl rfl e74
      case h =>   -- 7: t77 := Op.move (tmp 76)
        exact x_move rfl e76
      intro a175 hE e77 kp
      replace e74 := (kp 74 rfl).trans e74
      apply sq_detg 78 hE k rfl (by rfl) (by rfl) rfl rfl e77
      case h =>   -- 8: t78 := Op.move (tmp 12)
        exact x_move rfl (hE.eval 12 (by rfl) e12)
      intro a176 hE e78 kp
      replace e74 := (kp 74 rfl).trans e74
      replace e77 := (kp 77 rfl).trans e77
      apply sq_detg 79 hE k rfl (by rfl) (by rfl) rfl rfl e77
      case h =>   -- 9: t79 := Op.binOp BinOp.neq 36 (tmp 78) (const (Value.int IntKind.i64 9)) 36
        exact x_neq rfl e78 rfl
      intro a177 hE e79 kp
      replace e74 := (kp 74 rfl).trans e74
      replace e77 := (kp 77 rfl).trans e77
      apply sq_detg 80 hE k rfl (by rfl) (by rfl) rfl rfl e77
      case h =>   -- 10: t80 := Op.move (tmp 79)
        exact x_move rfl e79
      intro a178 hE e80 kp
      replace e74 := (kp 74 rfl).trans e74
      replace e77 := (kp 77 rfl).trans e77
      apply sq_detg 81 hE k rfl (by rfl) (by rfl) rfl rfl e80
      case h =>   -- 11: t81 := Op.move (tmp 11)
        exact x_move rfl (hE.eval 11 (by rfl) e11)
      intro a179 hE e81 kp
      replace e74 := (kp 74 rfl).trans e74
      replace e77 := (kp 77 rfl).trans e77
      replace e80 := (kp 80 rfl).trans e80
      apply sq_detg 82 hE k rfl (by rfl) (by rfl) rfl rfl e80
      case h =>   -- 12: t82 := Op.binOp BinOp.neq 9 (tmp 81) (const (Value.string {data := #[]})) 9
        exact x_dec (x_nes (l := []) (m := []) rfl e81 rfl) (decide_eq_false (fun h => h rfl))
      intro a180 hE e82 kp
      replace e74 := (kp 74 rfl).trans e74
      replace e77 := (kp 77 rfl).trans e77
      replace e80 := (kp 80 rfl).trans e80
      apply sq_detg 83 hE k rfl (by rfl) (by rfl) rfl rfl e77
      case h =>   -- 13: t83 := Op.pick (tmp 80) (const (Value.bool true)) (tmp 82)
        exact x_pick_f rfl e80 e82
      intro a181 hE e83 kp
      replace e74 := (kp 74 rfl).trans e74
      replace e77 := (kp 77 rfl).trans e77
      apply sq_detg 84 hE k rfl (by rfl) (by rfl) rfl rfl e74
      case h =>   -- 14: t84 := Op.pick (tmp 77) (tmp 83) (const (Value.bool false))
        exact x_pick_t rfl e77 e83
      intro a182 hE e84 kp
      replace e74 := (kp 74 rfl).trans e74
      apply sq_det 85 hE k rfl (by rfl) (by rfl) rfl
      case h =>   -- 15: t85 := Op.pick (tmp 74) (const (Value.bool true)) (tmp 84)
        exact x_pick_f rfl e74 e84
      intro a183 hE e85 kp
      apply sq_det 86 hE k rfl (by rfl) (by rfl) rfl
      case h =>   -- 16: t86 := Op.move (tmp 85)
        exact x_move rfl e85
      intro a184 hE e86 kp
      apply sq_detg 87 hE k rfl (by rfl) (by rfl) rfl rfl e86
      case h =>   -- 17: t87 := Op.move (tmp 13)
        exact x_move rfl (hE.eval 13 (by rfl) e13)
      intro a185 hE e87 kp
      replace e86 := (kp 86 rfl).trans e86
      apply sq_detg 88 hE k rfl (by rfl) (by rfl) rfl rfl e86
      case h =>   -- 18: t88 := Op.move (tmp 87)
        exact x_move rfl e87
      intro a186 hE e88 kp
      replace e86 := (kp 86 rfl).trans e86
      refine sq_skipg 89 hE k rfl (by rfl) (by rfl) rfl rfl (.inl e88) ?_
      intro a187 hE e89 kp
      replace e86 := (kp 86 rfl).trans e86
      replace e88 := (kp 88 rfl).trans e88
      refine sq_skipg 90 hE k rfl (by rfl) (by rfl) rfl rfl (.inl e88) ?_
      intro a188 hE e90 kp
      replace e86 := (kp 86 rfl).trans e86
      replace e88 := (kp 88 rfl).trans e88
      replace e89 := (kp 89 rfl).trans e89
      refine sq_skipg 91 hE k rfl (by rfl) (by rfl) rfl rfl (.inl e88) ?_
      intro a189 hE e91 kp
      replace e86 := (kp 86 rfl).trans e86
      replace e88 := (kp 88 rfl).trans e88
      replace e89 := (kp 89 rfl).trans e89
      refine sq_skipg 92 hE k rfl (by rfl) (by rfl) rfl rfl (.inl e88) ?_
      intro a190 hE e92 kp
      replace e86 := (kp 86 rfl).trans e86
      replace e88 := (kp 88 rfl).trans e88
      apply sq_detg 93 hE k rfl (by rfl) (by rfl) rfl rfl e86
      case h =>   -- 23: t93 := Op.pick (tmp 88) (tmp 92) (const (Value.bool false))
        exact x_pick_f rfl e88 rfl
      intro a191 hE e93 kp
      replace e86 := (kp 86 rfl).trans e86
      apply sq_det 94 hE k rfl (by rfl) (by rfl) rfl
      case h =>   -- 24: t94 := Op.pick (tmp 86) (const (Value.bool true)) (tmp 93)
        exact x_pick_f rfl e86 e93
      intro a192 hE e94 kp
      refine wpList_nil ?_
      replace e1 := hE.eval 1 (by rfl) e1
      replace e3 := hE.eval 3 (by rfl) e3
      replace e9 := hE.eval 9 (by rfl) e9
      replace e10 := hE.eval 10 (by rfl) e10
      replace k := k.env hE
      clear hE e2 e11 e12 e13
      refine then_n ?_
      refine cond_f e94 rfl ?_
      refine wp_skip ?_
      refine then_n ?_
      refine sizes_write _ _ k e1 e3 e9 e10 O hl hn ?_
      intro a9 w9 k e8 hb
      refine ret_F1 rfl k e8 ?_
      exact ⟨rfl, hb⟩
    by_cases hc2 : x ≤ n
    rotate_left
    · skip
      refine wp_seq ?_
      refine wp_region_lit ?_   -- region 10
      have hE := Env.refl a104 [52, 53, 54, 55, 56, 57, 58, 59, 60, 61, 62, 63, 64, 65, 66, 67, 68, 69, 13]
      apply sq_det 52 hE k rfl (by rfl) (by rfl) rfl
      case h =>   -- 0: t52 := Op.move (tmp 1)
        exact x_move rfl (hE.eval 1 (by rfl) e1)
      intro a193 hE e52 kp
      apply sq_det 53 hE k rfl (by rfl) (by rfl) rfl
      case h =>   -- 1: t53 := Op.binOp BinOp.geq 3 (tmp 52) (const (Value.int IntKind.i64 0)) 3
        exact x_dec (x_geq rfl e52 rfl) (decide_eq_true (by omega))
      intro a194 hE e53 kp
      apply sq_det 54 hE k rfl (by rfl) (by rfl) rfl
      case h =>   -- 2: t54 := Op.move (tmp 53)
        exact x_move rfl e53
      intro a195 hE e54 kp
      apply sq_detg 55 hE k rfl (by rfl) (by rfl) rfl rfl e54
      case h =>   -- 3: t55 := Op.move (tmp 2)
        exact x_move rfl (hE.eval 2 (by rfl) e2)
      intro a196 hE e55 kp
      replace e54 := (kp 54 rfl).trans e54
      apply sq_detg 56 hE k rfl (by rfl) (by rfl) rfl rfl e54
      case h =>   -- 4: t56 := Op.binOp BinOp.geq 3 (tmp 55) (const (Value.int IntKind.i64 0)) 3
        exact x_dec (x_geq rfl e55 rfl) (decide_eq_true (by omega))
      intro a197 hE e56 kp
      replace e54 := (kp 54 rfl).trans e54
      apply sq_det 57 hE k rfl (by rfl) (by rfl) rfl
      case h =>   -- 5: t57 := Op.pick (tmp 54) (tmp 56) (const (Value.bool false))
        exact x_pick_t rfl e54 e56
      intro a198 hE e57 kp
      apply sq_det 58 hE k rfl (by rfl) (by rfl) rfl
      case h =>   -- 6: t58 := Op.move (tmp 57)
        exact x_move rfl e57
      intro a199 hE e58 kp
      apply sq_detg 59 hE k rfl (by rfl) (by rfl) rfl rfl e58
      case h =>   -- 7: t59 := Op.move (tmp 1)
        exact x_move rfl (hE.eval 1 (by rfl) e1)
      intro a200 hE e59 kp
      replace e58 := (kp 58 rfl).trans e58
      apply sq_detg 60 hE k rfl (by rfl) (by rfl) rfl rfl e58
      case h =>   -- 8: t60 := Op.move (tmp 10)
        exact x_move rfl (hE.eval 10 (by rfl) e10)
      intro a201 hE e60 kp
      replace e58 := (kp 58 rfl).trans e58
      replace e59 := (kp 59 rfl).trans e59
      apply sq_detg 61 hE k rfl (by rfl) (by rfl) rfl rfl e58
      case h =>   -- 9: t61 := Op.binOp BinOp.leq 3 (tmp 59) (tmp 60) 3
        exact x_dec (x_leq rfl e59 e60) (decide_eq_false (by omega))
      intro a202 hE e61 kp
      replace e58 := (kp 58 rfl).trans e58
      apply sq_det 62 hE k rfl (by rfl) (by rfl) rfl
      case h =>   -- 10: t62 := Op.pick (tmp 58) (tmp 61) (const (Value.bool false))
        exact x_pick_t rfl e58 e61
      intro a203 hE e62 kp
      apply sq_det 63 hE k rfl (by rfl) (by rfl) rfl
      case h =>   -- 11: t63 := Op.move (tmp 62)
        exact x_move rfl e62
      intro a204 hE e63 kp
      refine sq_skipg 64 hE k rfl (by rfl) (by rfl) rfl rfl (.inl e63) ?_
      intro a205 hE e64 kp
      replace e63 := (kp 63 rfl).trans e63
      refine sq_skipg 65 hE k rfl (by rfl) (by rfl) rfl rfl (.inl e63) ?_
      intro a206 hE e65 kp
      replace e63 := (kp 63 rfl).trans e63
      replace e64 := (kp 64 rfl).trans e64
      refine sq_skipg 66 hE k rfl (by rfl) (by rfl) rfl rfl (.inl e63) ?_
      intro a207 hE e66 kp
      replace e63 := (kp 63 rfl).trans e63
      replace e64 := (kp 64 rfl).trans e64
      replace e65 := (kp 65 rfl).trans e65
      refine sq_skipg 67 hE k rfl (by rfl) (by rfl) rfl rfl (.inl e63) ?_
      intro a208 hE e67 kp
      replace e63 := (kp 63 rfl).trans e63
      replace e64 := (kp 64 rfl).trans e64
      refine sq_skipg 68 hE k rfl (by rfl) (by rfl) rfl rfl (.inl e63) ?_
      intro a209 hE e68 kp
      replace e63 := (kp 63 rfl).trans e63
      apply sq_det 69 hE k rfl (by rfl) (by rfl) rfl
      case h =>   -- 17: t69 := Op.pick (tmp 63) (tmp 68) (const (Value.bool false))
        exact x_pick_f rfl e63 rfl
      intro a210 hE e69 kp
      apply sq_det 13 hE k rfl (by rfl) (by rfl) rfl
      case h =>   -- 18: t13 := Op.assign (tmp 69)
        exact x_assign rfl e69
      intro a211 hE e13 kp
      refine wpList_nil ?_
      replace e1 := hE.eval 1 (by rfl) e1
      replace e2 := hE.eval 2 (by rfl) e2
      replace e3 := hE.eval 3 (by rfl) e3
      replace e9 := hE.eval 9 (by rfl) e9
      replace e10 := hE.eval 10 (by rfl) e10
      replace e11 := hE.eval 11 (by rfl) e11
      replace e12 := hE.eval 12 (by rfl) e12
      replace k := k.env hE
      clear hE
      refine then_n ?_
      refine wp_seq ?_
      refine wp_seq ?_
      refine wp_region_lit ?_   -- region 11
      have hE := Env.refl a211 [70, 71, 72, 73, 74, 75, 76, 77, 78, 79, 80, 81, 82, 83, 84, 85, 86, 87, 88, 89, 90, 91, 92, 93, 94]
      apply sq_det 70 hE k rfl (by rfl) (by rfl) rfl
      case h =>   -- 0: t70 := Op.move (tmp 13)
        exact x_move rfl (hE.eval 13 (by rfl) e13)
      intro a212 hE e70 kp
      apply sq_det 71 hE k rfl (by rfl) (by rfl) rfl
      case h =>   -- 1: t71 := Op.move (tmp 12)
        exact x_move rfl (hE.eval 12 (by rfl) e12)
      intro a213 hE e71 kp
      replace e70 := (kp 70 rfl).trans e70
      apply sq_det 72 hE k rfl (by rfl) (by rfl) rfl
      case h =>   -- 2: t72 := Op.binOp BinOp.eql 36 (tmp 71) (const (Value.int IntKind.i64 0)) 36
        exact x_eql rfl e71 rfl
      intro a214 hE e72 kp
      replace e70 := (kp 70 rfl).trans e70
      apply sq_det 73 hE k rfl (by rfl) (by rfl) rfl
      case h =>   -- 3: t73 := Op.binOp BinOp.neq 4 (tmp 70) (tmp 72) 4
        simp [go_sem, BigFrame.eval_const, BigFrame.eval_global, BigFrame.eval_func, ↓IntWalk.iteOmega, ev e70, ev e72]
        with_reducible rfl
      intro a215 hE e73 kp
      apply sq_det 74 hE k rfl (by rfl) (by rfl) rfl
      case h =>   -- 4: t74 := Op.move (tmp 73)
        exact x_move rfl e73
      intro a216 hE e74 kp
      apply sq_detg 75 hE k rfl (by rfl) (by rfl) rfl rfl e74
      case h =>   -- 5: t75 := Op.move (tmp 13)
        exact x_move rfl (hE.eval 13 (by rfl) e13)
      intro a217 hE e75 kp
      replace e74 := (kp 74 rfl).trans e74
      apply sq_detg 76 hE k rfl (by rfl) (by rfl) rfl rfl e74
      case h =>   -- 6: t76 := Op.unOp UnOp.not 4 (tmp 75)
        exact x_not rfl e75
      intro a218 hE e76 kp
      replace e74 := (kp 74 rfl).trans e74
      apply sq_detg 77 hE k rfl (by rfl) (by rfl) rfl rfl e74
      case h =>   -- 7: t77 := Op.move (tmp 76)
        exact x_move rfl e76
      intro a219 hE e77 kp
      replace e74 := (kp 74 rfl).trans e74
      apply sq_detg 78 hE k rfl (by rfl) (by rfl) rfl rfl e77
      case h =>   -- 8: t78 := Op.move (tmp 12)
        exact x_move rfl (hE.eval 12 (by rfl) e12)
      intro a220 hE e78 kp
      replace e74 := (kp 74 rfl).trans e74
      replace e77 := (kp 77 rfl).trans e77
      apply sq_detg 79 hE k rfl (by rfl) (by rfl) rfl rfl e77
      case h =>   -- 9: t79 := Op.binOp BinOp.neq 36 (tmp 78) (const (Value.int IntKind.i64 9)) 36
        exact x_neq rfl e78 rfl
      intro a221 hE e79 kp
      replace e74 := (kp 74 rfl).trans e74
      replace e77 := (kp 77 rfl).trans e77
      apply sq_detg 80 hE k rfl (by rfl) (by rfl) rfl rfl e77
      case h =>   -- 10: t80 := Op.move (tmp 79)
        exact x_move rfl e79
      intro a222 hE e80 kp
      replace e74 := (kp 74 rfl).trans e74
      replace e77 := (kp 77 rfl).trans e77
      apply sq_detg 81 hE k rfl (by rfl) (by rfl) rfl rfl e80
      case h =>   -- 11: t81 := Op.move (tmp 11)
        exact x_move rfl (hE.eval 11 (by rfl) e11)
      intro a223 hE e81 kp
      replace e74 := (kp 74 rfl).trans e74
      replace e77 := (kp 77 rfl).trans e77
      replace e80 := (kp 80 rfl).trans e80
      apply sq_detg 82 hE k rfl (by rfl) (by rfl) rfl rfl e80
      case h =>   -- 12: t82 := Op.binOp BinOp.neq 9 (tmp 81) (const (Value.string {data := #[]})) 9
        exact x_dec (x_nes (l := []) (m := []) rfl e81 rfl) (decide_eq_false (fun h => h rfl))
      intro a224 hE e82 kp
      replace e74 := (kp 74 rfl).trans e74
      replace e77 := (kp 77 rfl).trans e77
      replace e80 := (kp 80 rfl).trans e80
      apply sq_detg 83 hE k rfl (by rfl) (by rfl) rfl rfl e77
      case h =>   -- 13: t83 := Op.pick (tmp 80) (const (Value.bool true)) (tmp 82)
        exact x_pick_f rfl e80 e82
      intro a225 hE e83 kp
      replace e74 := (kp 74 rfl).trans e74
      replace e77 := (kp 77 rfl).trans e77
      apply sq_detg 84 hE k rfl (by rfl) (by rfl) rfl rfl e74
      case h =>   -- 14: t84 := Op.pick (tmp 77) (tmp 83) (const (Value.bool false))
        exact x_pick_t rfl e77 e83
      intro a226 hE e84 kp
      replace e74 := (kp 74 rfl).trans e74
      apply sq_det 85 hE k rfl (by rfl) (by rfl) rfl
      case h =>   -- 15: t85 := Op.pick (tmp 74) (const (Value.bool true)) (tmp 84)
        exact x_pick_f rfl e74 e84
      intro a227 hE e85 kp
      apply sq_det 86 hE k rfl (by rfl) (by rfl) rfl
      case h =>   -- 16: t86 := Op.move (tmp 85)
        exact x_move rfl e85
      intro a228 hE e86 kp
      apply sq_detg 87 hE k rfl (by rfl) (by rfl) rfl rfl e86
      case h =>   -- 17: t87 := Op.move (tmp 13)
        exact x_move rfl (hE.eval 13 (by rfl) e13)
      intro a229 hE e87 kp
      replace e86 := (kp 86 rfl).trans e86
      apply sq_detg 88 hE k rfl (by rfl) (by rfl) rfl rfl e86
      case h =>   -- 18: t88 := Op.move (tmp 87)
        exact x_move rfl e87
      intro a230 hE e88 kp
      replace e86 := (kp 86 rfl).trans e86
      refine sq_skipg 89 hE k rfl (by rfl) (by rfl) rfl rfl (.inl e88) ?_
      intro a231 hE e89 kp
      replace e86 := (kp 86 rfl).trans e86
      replace e88 := (kp 88 rfl).trans e88
      refine sq_skipg 90 hE k rfl (by rfl) (by rfl) rfl rfl (.inl e88) ?_
      intro a232 hE e90 kp
      replace e86 := (kp 86 rfl).trans e86
      replace e88 := (kp 88 rfl).trans e88
      replace e89 := (kp 89 rfl).trans e89
      refine sq_skipg 91 hE k rfl (by rfl) (by rfl) rfl rfl (.inl e88) ?_
      intro a233 hE e91 kp
      replace e86 := (kp 86 rfl).trans e86
      replace e88 := (kp 88 rfl).trans e88
      replace e89 := (kp 89 rfl).trans e89
      refine sq_skipg 92 hE k rfl (by rfl) (by rfl) rfl rfl (.inl e88) ?_
      intro a234 hE e92 kp
      replace e86 := (kp 86 rfl).trans e86
      replace e88 := (kp 88 rfl).trans e88
      apply sq_detg 93 hE k rfl (by rfl) (by rfl) rfl rfl e86
      case h =>   -- 23: t93 := Op.pick (tmp 88) (tmp 92) (const (Value.bool false))
        exact x_pick_f rfl e88 rfl
      intro a235 hE e93 kp
      replace e86 := (kp 86 rfl).trans e86
      apply sq_det 94 hE k rfl (by rfl) (by rfl) rfl
      case h =>   -- 24: t94 := Op.pick (tmp 86) (const (Value.bool true)) (tmp 93)
        exact x_pick_f rfl e86 e93
      intro a236 hE e94 kp
      refine wpList_nil ?_
      replace e1 := hE.eval 1 (by rfl) e1
      replace e3 := hE.eval 3 (by rfl) e3
      replace e9 := hE.eval 9 (by rfl) e9
      replace e10 := hE.eval 10 (by rfl) e10
      replace k := k.env hE
      clear hE e2 e11 e12 e13
      refine then_n ?_
      refine cond_f e94 rfl ?_
      refine wp_skip ?_
      refine then_n ?_
      refine sizes_write _ _ k e1 e3 e9 e10 O hl hn ?_
      intro a9 w9 k e8 hb
      refine ret_F1 rfl k e8 ?_
      exact ⟨rfl, hb⟩
    refine wp_seq ?_
    refine wp_region_lit ?_   -- region 10
    have hE := Env.refl a104 [52, 53, 54, 55, 56, 57, 58, 59, 60, 61, 62, 63, 64, 65, 66, 67, 68, 69, 13]
    apply sq_det 52 hE k rfl (by rfl) (by rfl) rfl
    case h =>   -- 0: t52 := Op.move (tmp 1)
      exact x_move rfl (hE.eval 1 (by rfl) e1)
    intro a237 hE e52 kp
    apply sq_det 53 hE k rfl (by rfl) (by rfl) rfl
    case h =>   -- 1: t53 := Op.binOp BinOp.geq 3 (tmp 52) (const (Value.int IntKind.i64 0)) 3
      exact x_dec (x_geq rfl e52 rfl) (decide_eq_true (by omega))
    intro a238 hE e53 kp
    apply sq_det 54 hE k rfl (by rfl) (by rfl) rfl
    case h =>   -- 2: t54 := Op.move (tmp 53)
      exact x_move rfl e53
    intro a239 hE e54 kp
    apply sq_detg 55 hE k rfl (by rfl) (by rfl) rfl rfl e54
    case h =>   -- 3: t55 := Op.move (tmp 2)
      exact x_move rfl (hE.eval 2 (by rfl) e2)
    intro a240 hE e55 kp
    replace e54 := (kp 54 rfl).trans e54
    apply sq_detg 56 hE k rfl (by rfl) (by rfl) rfl rfl e54
    case h =>   -- 4: t56 := Op.binOp BinOp.geq 3 (tmp 55) (const (Value.int IntKind.i64 0)) 3
      exact x_dec (x_geq rfl e55 rfl) (decide_eq_true (by omega))
    intro a241 hE e56 kp
    replace e54 := (kp 54 rfl).trans e54
    apply sq_det 57 hE k rfl (by rfl) (by rfl) rfl
    case h =>   -- 5: t57 := Op.pick (tmp 54) (tmp 56) (const (Value.bool false))
      exact x_pick_t rfl e54 e56
    intro a242 hE e57 kp
    apply sq_det 58 hE k rfl (by rfl) (by rfl) rfl
    case h =>   -- 6: t58 := Op.move (tmp 57)
      exact x_move rfl e57
    intro a243 hE e58 kp
    apply sq_detg 59 hE k rfl (by rfl) (by rfl) rfl rfl e58
    case h =>   -- 7: t59 := Op.move (tmp 1)
      exact x_move rfl (hE.eval 1 (by rfl) e1)
    intro a244 hE e59 kp
    replace e58 := (kp 58 rfl).trans e58
    apply sq_detg 60 hE k rfl (by rfl) (by rfl) rfl rfl e58
    case h =>   -- 8: t60 := Op.move (tmp 10)
      exact x_move rfl (hE.eval 10 (by rfl) e10)
    intro a245 hE e60 kp
    replace e58 := (kp 58 rfl).trans e58
    replace e59 := (kp 59 rfl).trans e59
    apply sq_detg 61 hE k rfl (by rfl) (by rfl) rfl rfl e58
    case h =>   -- 9: t61 := Op.binOp BinOp.leq 3 (tmp 59) (tmp 60) 3
      exact x_dec (x_leq rfl e59 e60) (decide_eq_true (by omega))
    intro a246 hE e61 kp
    replace e58 := (kp 58 rfl).trans e58
    apply sq_det 62 hE k rfl (by rfl) (by rfl) rfl
    case h =>   -- 10: t62 := Op.pick (tmp 58) (tmp 61) (const (Value.bool false))
      exact x_pick_t rfl e58 e61
    intro a247 hE e62 kp
    apply sq_det 63 hE k rfl (by rfl) (by rfl) rfl
    case h =>   -- 11: t63 := Op.move (tmp 62)
      exact x_move rfl e62
    intro a248 hE e63 kp
    apply sq_detg 64 hE k rfl (by rfl) (by rfl) rfl rfl e63
    case h =>   -- 12: t64 := Op.move (tmp 2)
      exact x_move rfl (hE.eval 2 (by rfl) e2)
    intro a249 hE e64 kp
    replace e63 := (kp 63 rfl).trans e63
    apply sq_detg 65 hE k rfl (by rfl) (by rfl) rfl rfl e63
    case h =>   -- 13: t65 := Op.move (tmp 10)
      exact x_move rfl (hE.eval 10 (by rfl) e10)
    intro a250 hE e65 kp
    replace e63 := (kp 63 rfl).trans e63
    replace e64 := (kp 64 rfl).trans e64
    apply sq_detg 66 hE k rfl (by rfl) (by rfl) rfl rfl e63
    case h =>   -- 14: t66 := Op.move (tmp 1)
      exact x_move rfl (hE.eval 1 (by rfl) e1)
    intro a251 hE e66 kp
    replace e63 := (kp 63 rfl).trans e63
    replace e64 := (kp 64 rfl).trans e64
    replace e65 := (kp 65 rfl).trans e65
    apply sq_detg 67 hE k rfl (by rfl) (by rfl) rfl rfl e63
    case h =>   -- 15: t67 := Op.binOp BinOp.sub 3 (tmp 65) (tmp 66) 3
      exact x_sub rfl e65 e66 (by omega)
    intro a252 hE e67 kp
    replace e63 := (kp 63 rfl).trans e63
    replace e64 := (kp 64 rfl).trans e64
    apply sq_detg 68 hE k rfl (by rfl) (by rfl) rfl rfl e63
    case h =>   -- 16: t68 := Op.binOp BinOp.leq 3 (tmp 64) (tmp 67) 3
      exact x_dec (x_leq rfl e64 e67) (decide_eq_false (by omega))
    intro a253 hE e68 kp
    replace e63 := (kp 63 rfl).trans e63
    apply sq_det 69 hE k rfl (by rfl) (by rfl) rfl
    case h =>   -- 17: t69 := Op.pick (tmp 63) (tmp 68) (const (Value.bool false))
      exact x_pick_t rfl e63 e68
    intro a254 hE e69 kp
    apply sq_det 13 hE k rfl (by rfl) (by rfl) rfl
    case h =>   -- 18: t13 := Op.assign (tmp 69)
      exact x_assign rfl e69
    intro a255 hE e13 kp
    refine wpList_nil ?_
    replace e1 := hE.eval 1 (by rfl) e1
    replace e2 := hE.eval 2 (by rfl) e2
    replace e3 := hE.eval 3 (by rfl) e3
    replace e9 := hE.eval 9 (by rfl) e9
    replace e10 := hE.eval 10 (by rfl) e10
    replace e11 := hE.eval 11 (by rfl) e11
    replace e12 := hE.eval 12 (by rfl) e12
    replace k := k.env hE
    clear hE
    refine then_n ?_
    refine wp_seq ?_
    refine wp_seq ?_
    refine wp_region_lit ?_   -- region 11
    have hE := Env.refl a255 [70, 71, 72, 73, 74, 75, 76, 77, 78, 79, 80, 81, 82, 83, 84, 85, 86, 87, 88, 89, 90, 91, 92, 93, 94]
    apply sq_det 70 hE k rfl (by rfl) (by rfl) rfl
    case h =>   -- 0: t70 := Op.move (tmp 13)
      exact x_move rfl (hE.eval 13 (by rfl) e13)
    intro a256 hE e70 kp
    apply sq_det 71 hE k rfl (by rfl) (by rfl) rfl
    case h =>   -- 1: t71 := Op.move (tmp 12)
      exact x_move rfl (hE.eval 12 (by rfl) e12)
    intro a257 hE e71 kp
    replace e70 := (kp 70 rfl).trans e70
    apply sq_det 72 hE k rfl (by rfl) (by rfl) rfl
    case h =>   -- 2: t72 := Op.binOp BinOp.eql 36 (tmp 71) (const (Value.int IntKind.i64 0)) 36
      exact x_eql rfl e71 rfl
    intro a258 hE e72 kp
    replace e70 := (kp 70 rfl).trans e70
    apply sq_det 73 hE k rfl (by rfl) (by rfl) rfl
    case h =>   -- 3: t73 := Op.binOp BinOp.neq 4 (tmp 70) (tmp 72) 4
      simp [go_sem, BigFrame.eval_const, BigFrame.eval_global, BigFrame.eval_func, ↓IntWalk.iteOmega, ev e70, ev e72]
      with_reducible rfl
    intro a259 hE e73 kp
    apply sq_det 74 hE k rfl (by rfl) (by rfl) rfl
    case h =>   -- 4: t74 := Op.move (tmp 73)
      exact x_move rfl e73
    intro a260 hE e74 kp
    apply sq_detg 75 hE k rfl (by rfl) (by rfl) rfl rfl e74
    case h =>   -- 5: t75 := Op.move (tmp 13)
      exact x_move rfl (hE.eval 13 (by rfl) e13)
    intro a261 hE e75 kp
    replace e74 := (kp 74 rfl).trans e74
    apply sq_detg 76 hE k rfl (by rfl) (by rfl) rfl rfl e74
    case h =>   -- 6: t76 := Op.unOp UnOp.not 4 (tmp 75)
      exact x_not rfl e75
    intro a262 hE e76 kp
    replace e74 := (kp 74 rfl).trans e74
    apply sq_detg 77 hE k rfl (by rfl) (by rfl) rfl rfl e74
    case h =>   -- 7: t77 := Op.move (tmp 76)
      exact x_move rfl e76
    intro a263 hE e77 kp
    replace e74 := (kp 74 rfl).trans e74
    apply sq_detg 78 hE k rfl (by rfl) (by rfl) rfl rfl e77
    case h =>   -- 8: t78 := Op.move (tmp 12)
      exact x_move rfl (hE.eval 12 (by rfl) e12)
    intro a264 hE e78 kp
    replace e74 := (kp 74 rfl).trans e74
    replace e77 := (kp 77 rfl).trans e77
    apply sq_detg 79 hE k rfl (by rfl) (by rfl) rfl rfl e77
    case h =>   -- 9: t79 := Op.binOp BinOp.neq 36 (tmp 78) (const (Value.int IntKind.i64 9)) 36
      exact x_neq rfl e78 rfl
    intro a265 hE e79 kp
    replace e74 := (kp 74 rfl).trans e74
    replace e77 := (kp 77 rfl).trans e77
    apply sq_detg 80 hE k rfl (by rfl) (by rfl) rfl rfl e77
    case h =>   -- 10: t80 := Op.move (tmp 79)
      exact x_move rfl e79
    intro a266 hE e80 kp
    replace e74 := (kp 74 rfl).trans e74
    replace e77 := (kp 77 rfl).trans e77
    apply sq_detg 81 hE k rfl (by rfl) (by rfl) rfl rfl e80
    case h =>   -- 11: t81 := Op.move (tmp 11)
      exact x_move rfl (hE.eval 11 (by rfl) e11)
    intro a267 hE e81 kp
    replace e74 := (kp 74 rfl).trans e74
    replace e77 := (kp 77 rfl).trans e77
    replace e80 := (kp 80 rfl).trans e80
    apply sq_detg 82 hE k rfl (by rfl) (by rfl) rfl rfl e80
    case h =>   -- 12: t82 := Op.binOp BinOp.neq 9 (tmp 81) (const (Value.string {data := #[]})) 9
      exact x_dec (x_nes (l := []) (m := []) rfl e81 rfl) (decide_eq_false (fun h => h rfl))
    intro a268 hE e82 kp
    replace e74 := (kp 74 rfl).trans e74
    replace e77 := (kp 77 rfl).trans e77
    replace e80 := (kp 80 rfl).trans e80
    apply sq_detg 83 hE k rfl (by rfl) (by rfl) rfl rfl e77
    case h =>   -- 13: t83 := Op.pick (tmp 80) (const (Value.bool true)) (tmp 82)
      exact x_pick_f rfl e80 e82
    intro a269 hE e83 kp
    replace e74 := (kp 74 rfl).trans e74
    replace e77 := (kp 77 rfl).trans e77
    apply sq_detg 84 hE k rfl (by rfl) (by rfl) rfl rfl e74
    case h =>   -- 14: t84 := Op.pick (tmp 77) (tmp 83) (const (Value.bool false))
      exact x_pick_t rfl e77 e83
    intro a270 hE e84 kp
    replace e74 := (kp 74 rfl).trans e74
    apply sq_det 85 hE k rfl (by rfl) (by rfl) rfl
    case h =>   -- 15: t85 := Op.pick (tmp 74) (const (Value.bool true)) (tmp 84)
      exact x_pick_f rfl e74 e84
    intro a271 hE e85 kp
    apply sq_det 86 hE k rfl (by rfl) (by rfl) rfl
    case h =>   -- 16: t86 := Op.move (tmp 85)
      exact x_move rfl e85
    intro a272 hE e86 kp
    apply sq_detg 87 hE k rfl (by rfl) (by rfl) rfl rfl e86
    case h =>   -- 17: t87 := Op.move (tmp 13)
      exact x_move rfl (hE.eval 13 (by rfl) e13)
    intro a273 hE e87 kp
    replace e86 := (kp 86 rfl).trans e86
    apply sq_detg 88 hE k rfl (by rfl) (by rfl) rfl rfl e86
    case h =>   -- 18: t88 := Op.move (tmp 87)
      exact x_move rfl e87
    intro a274 hE e88 kp
    replace e86 := (kp 86 rfl).trans e86
    refine sq_skipg 89 hE k rfl (by rfl) (by rfl) rfl rfl (.inl e88) ?_
    intro a275 hE e89 kp
    replace e86 := (kp 86 rfl).trans e86
    replace e88 := (kp 88 rfl).trans e88
    refine sq_skipg 90 hE k rfl (by rfl) (by rfl) rfl rfl (.inl e88) ?_
    intro a276 hE e90 kp
    replace e86 := (kp 86 rfl).trans e86
    replace e88 := (kp 88 rfl).trans e88
    replace e89 := (kp 89 rfl).trans e89
    refine sq_skipg 91 hE k rfl (by rfl) (by rfl) rfl rfl (.inl e88) ?_
    intro a277 hE e91 kp
    replace e86 := (kp 86 rfl).trans e86
    replace e88 := (kp 88 rfl).trans e88
    replace e89 := (kp 89 rfl).trans e89
    refine sq_skipg 92 hE k rfl (by rfl) (by rfl) rfl rfl (.inl e88) ?_
    intro a278 hE e92 kp
    replace e86 := (kp 86 rfl).trans e86
    replace e88 := (kp 88 rfl).trans e88
    apply sq_detg 93 hE k rfl (by rfl) (by rfl) rfl rfl e86
    case h =>   -- 23: t93 := Op.pick (tmp 88) (tmp 92) (const (Value.bool false))
      exact x_pick_f rfl e88 rfl
    intro a279 hE e93 kp
    replace e86 := (kp 86 rfl).trans e86
    apply sq_det 94 hE k rfl (by rfl) (by rfl) rfl
    case h =>   -- 24: t94 := Op.pick (tmp 86) (const (Value.bool true)) (tmp 93)
      exact x_pick_f rfl e86 e93
    intro a280 hE e94 kp
    refine wpList_nil ?_
    replace e1 := hE.eval 1 (by rfl) e1
    replace e3 := hE.eval 3 (by rfl) e3
    replace e9 := hE.eval 9 (by rfl) e9
    replace e10 := hE.eval 10 (by rfl) e10
    replace k := k.env hE
    clear hE e2 e11 e12 e13
    refine then_n ?_
    refine cond_f e94 rfl ?_
    refine wp_skip ?_
    refine then_n ?_
    refine sizes_write _ _ k e1 e3 e9 e10 O hl hn ?_
    intro a9 w9 k e8 hb
    refine ret_F1 rfl k e8 ?_
    exact ⟨rfl, hb⟩
theorem discSizes_walk (w : World) (v0 v1 v2 v3 : Value) (h0 : Arg Try.prog w 3 v0) (h1 : Arg Try.prog w 3 v1) (h2 : Arg Try.prog w 3 v2) (h3 : Arg Try.prog w 9 v3) :
    Calls Try.prog 6 #[v0, v1, v2, v3] w fun e w' => e = .returned (.bool true) ∧ Below w.heap.size w w' := by
  obtain ⟨z, rfl, _⟩ := arg_int Try.underlying3 h0
  obtain ⟨x, rfl, _⟩ := arg_int Try.underlying3 h1
  obtain ⟨y, rfl, _⟩ := arg_int Try.underlying3 h2
  obtain ⟨s, rfl, _⟩ := arg_string Try.underlying9 h3
  rw [← sB_of s]
  exact discSizes_core z x y _ w
end Go.Proofs.Ytdpohbaeopidmaa
