/- chunk's law: ChunkApart (printed by XChunkAp.gen.py). -/
import Derived.Test.YtdpohbaeopidmaaKChunkApart20
namespace Go.Proofs.Ytdpohbaeopidmaa
set_option linter.unusedVariables false
set_option linter.unusedSimpArgs false
open Go.RowKit Go.Maps

theorem elemP : ElemI Try.prog 109 90 2 16 := ⟨Try.underlying109, by
  have h : (Try.prog.info? 90).map (fun i => (i.zero, i.size, i.bytes)) = some (some (.agg #[.int .i64 0, .int .i64 0]), 2, 16) := by kernel_rfl
  obtain ⟨i, h1, h2, h3, h4⟩ := info_parts h
  exact ⟨i, _, h1, h2, h3, h4, rfl⟩⟩
theorem elemS' : ElemI Try.prog 77 9 1 16 := elemS
def encS (z : Nat) : List Value := [.int .i64 ((z / 10 : Nat) : Int), .int .i64 ((z % 10 : Nat) : Int)]
def txI (k i : Nat) : List Sec := (List.range i).map fun z => List.replicate (16 * k) (UInt8.ofNat (z + 1))
theorem txI_succ (k i : Nat) : txI k (i + 1) = txI k i ++ [List.replicate (16 * k) (UInt8.ofNat (i + 1))] := by simp [txI, List.range_succ]
theorem txI_at {k n z : Nat} (h : z < n) : (txI k n)[z]? = some (List.replicate (16 * k) (UInt8.ofNat (z + 1))) := by simp [txI, h]
theorem conv_u8i (x : Int) (w : World) (h : 0 ≤ x ∧ x ≤ 255) : (convert 3 5 (.int .i64 x)).run Try.prog w = .ok (.int .u8 x) w := by
  obtain ⟨m, rfl⟩ := Int.eq_ofNat_of_zero_le h.1
  exact conv_u8 m w (by omega)
theorem spot_cell {w : World} {g c z : Nat} (h : w.ownsRow 0 90 2 (.slice (some ⟨g, 0, none⟩) 20 c) 20 ((List.range 20).flatMap encS)) (hz : z < 20) : w.cell? ⟨g, z * 2, none⟩ = some (.int .i64 ((z / 10 : Nat) : Int)) ∧ w.cell? ⟨g, z * 2 + 1, none⟩ = some (.int .i64 ((z % 10 : Nat) : Int)) := by
  have hR := rowE_of (enc := encS) (fun _ => rfl) (by decide) h
  obtain ⟨b, o, e, _, hc⟩ := hR z z (by simp [hz])
  cases e
  have h0 := hc 0 _ rfl
  have h1 := hc 1 _ rfl
  rw [Nat.zero_add] at h0 h1
  exact ⟨h0, h1⟩
theorem text_cell {w : World} {g c z n : Nat} {Tx : List Sec} {s : Sec} (h : w.ownsRow 0 9 1 (.slice (some ⟨g, 0, none⟩) n c) n (strsV Tx)) (hz : Tx[z]? = some s) : w.cell? ⟨g, z, none⟩ = some (.string (sB s)) ∧ w.frozen? ⟨g, z, none⟩ = false :=
  row1_cell h (i := z) (v := .string (sB s)) (by simp [strsV, hz])
/-- The texts, behind a deed on chunk w. -/
theorem tx_set {Tx : List Sec} {k w x m : Nat} {l s : List UInt8} {La Lb La' Lb' : Int → Option Sec} (hT : ∀ z, z < 20 → Tx[z]? = some (ckC k La Lb z)) (hl : Tx.length = 20) (hw : w < 20) (h : ckW k La Lb w x m l La' Lb') (hx : x + m ≤ k) (hs : ckC k La' Lb' w = s) :
    (∀ z, z < 20 → (Tx.set w s)[z]? = some (ckC k La' Lb' z)) ∧ (Tx.set w s).length = 20 := by
  refine ⟨fun z hz => ?_, by rw [List.length_set]; exact hl⟩
  by_cases e : w = z
  · subst e
    rw [List.getElem?_set_self (by omega), hs]
  · rw [List.getElem?_set_ne e, hT z hz, ck_other h hx (fun e' => e e'.symm)]

set_option maxRecDepth 100000 in
set_option maxHeartbeats 4000000 in
theorem apart_end {H : Nat} {A0 : World} {p mb cap bm db p2 cap2 bm2 kz g1 g2 c1 c2 : Nat} {B B2 : Option Addr} {La Lb : Int → Option Sec} {M : Mn} {Tx : List Sec} {Q : Exit → Act → World → Prop} (a : Act) (w : World) (k : Fr 242 a)
    (e11 : a.eval (.tmp 11) = .int .i64 ↑kz) (e12 : a.eval (.tmp 12) = .pointer (some ⟨mb, 0, none⟩)) (e13 : a.eval (.tmp 13) = .pointer (some ⟨db, 0, none⟩)) (e15 : a.eval (.tmp 15) = .slice (some ⟨g1, 0, none⟩) 20 c1) (e16 : a.eval (.tmp 16) = .slice (some ⟨g2, 0, none⟩) 20 c2)
    (O : OwnT H A0 [tDisc p mb B (10 * kz) cap bm (zz (10 * kz)) La, tMn mb M, tDisc p2 mb B2 (10 * kz + 3) cap2 bm2 (zz (10 * kz + 3)) Lb, tBlk db 149 #[.pointer (some ⟨p, 0, none⟩), .pointer (some ⟨p2, 0, none⟩), .int .i64 ↑kz], tRow 90 2 (.slice (some ⟨g1, 0, none⟩) 20 c1) 20 ((List.range 20).flatMap encS), tRow 9 1 (.slice (some ⟨g2, 0, none⟩) 20 c2) 20 (strsV Tx)] w) (hk : 1 ≤ kz ∧ kz ≤ 8) (hF : M.Free) (hT : ∀ z, z < 20 → Tx[z]? = some (ckC kz La Lb z)) (hQ : ∀ a w, Fr 242 a → a.eval (.tmp 10) = .bool true → Below H A0 w → Q .ret a w) : Code.wp Try.prog (codeAt [1, 1, 1, 1, 1, 1, 1, 1, 1, 1, 1, 1] (Try.f11.body.getD .skip)) Q a w := by
  conv => arg 2; whnf
  refine wp_seq ?_
  refine wp_seq ?_
  refine wp_region_lit ?_
  have hE := Env.refl a [21]
  apply sq_det 21 hE k rfl (by rfl) (by rfl) rfl
  case h =>
    exact x_assign rfl rfl
  intro a1 hE e21 kp
  refine wpList_nil ?_
  replace e11 := hE.eval 11 (by rfl) e11
  replace e12 := hE.eval 12 (by rfl) e12
  replace e13 := hE.eval 13 (by rfl) e13
  replace e15 := hE.eval 15 (by rfl) e15
  replace e16 := hE.eval 16 (by rfl) e16
  replace k := k.env hE
  clear hE
  refine then_n ?_
  refine wp_block ?_
  refine wp_loop (fun a w => Fr 242 a ∧ a.eval (.tmp 11) = .int .i64 ↑kz ∧ a.eval (.tmp 12) = .pointer (some ⟨mb, 0, none⟩) ∧ a.eval (.tmp 13) = .pointer (some ⟨db, 0, none⟩) ∧ a.eval (.tmp 15) = .slice (some ⟨g1, 0, none⟩) 20 c1 ∧ a.eval (.tmp 16) = .slice (some ⟨g2, 0, none⟩) 20 c2 ∧ ∃ z : Nat, a.eval (.tmp 21) = .int .i64 ↑z ∧ z ≤ 20 ∧ OwnT H A0 [tDisc p mb B (10 * kz) cap bm (zz (10 * kz)) La, tMn mb M, tDisc p2 mb B2 (10 * kz + 3) cap2 bm2 (zz (10 * kz + 3)) Lb, tBlk db 149 #[.pointer (some ⟨p, 0, none⟩), .pointer (some ⟨p2, 0, none⟩), .int .i64 ↑kz], tRow 90 2 (.slice (some ⟨g1, 0, none⟩) 20 c1) 20 ((List.range 20).flatMap encS), tRow 9 1 (.slice (some ⟨g2, 0, none⟩) 20 c2) 20 (strsV Tx)] w) (fun a w => 20 - (intOf (a.eval (.tmp 21))).toNat) ?_ ?_
  · exact ⟨k, e11, e12, e13, e15, e16, 0, e21, Nat.zero_le _, O⟩
  intro a2 w3 hI
  clear k e11 e12 e13 e15 e16
  obtain ⟨k, e11, e12, e13, e15, e16, h_⟩ := hI
  clear O e21
  obtain ⟨z, e21, hz, O⟩ := h_
  have mz := e21
  by_cases hlt : z < 20
  · have hltI : (z : Int) < 20 := by omega
    obtain ⟨zt, hzt⟩ : ∃ y, z / 10 = y := ⟨_, rfl⟩
    obtain ⟨zs, hzs⟩ : ∃ y, z % 10 = y := ⟨_, rfl⟩
    refine wp_seq ?_
    refine wp_seq ?_
    refine wp_region_lit ?_
    have hE := Env.refl a2 [155, 156]
    apply sq_det 155 hE k rfl (by rfl) (by rfl) rfl
    case h =>
      exact x_move rfl (hE.eval 21 (by rfl) e21)
    intro a4 hE e155 kp
    apply sq_det 156 hE k rfl (by rfl) (by rfl) rfl
    case h =>
      exact x_dec (x_lss rfl e155 rfl) (decide_eq_true (by omega))
    intro a5 hE e156 kp
    refine wpList_nil ?_
    replace e11 := hE.eval 11 (by rfl) e11
    replace e12 := hE.eval 12 (by rfl) e12
    replace e13 := hE.eval 13 (by rfl) e13
    replace e15 := hE.eval 15 (by rfl) e15
    replace e16 := hE.eval 16 (by rfl) e16
    replace e21 := hE.eval 21 (by rfl) e21
    replace k := k.env hE
    clear hE
    refine then_n ?_
    refine cond_t e156 rfl ?_
    refine wp_skip ?_
    refine then_n ?_
    refine wp_seq ?_
    refine wp_block ?_
    have cs : w3.cell? ⟨g1, z * 2, none⟩ = some (.int .i64 (zt : Int)) ∧ w3.cell? ⟨g1, z * 2 + 1, none⟩ = some (.int .i64 (zs : Int)) := by have h := spot_cell (OwnT.get O 4 rfl) (z := z) hlt; rw [hzt, hzs] at h; exact h
    refine wp_seq ?_
    refine wp_region_lit ?_
    have hE := Env.refl a5 [160, 161, 162, 163, 164, 165, 166, 159, 167, 168, 22, 23]
    apply sq_det 160 hE k rfl (by rfl) (by rfl) rfl
    case h =>
      exact x_move rfl (hE.eval 13 (by rfl) e13)
    intro a6 hE e160 kp
    apply sq_det 161 hE k rfl (by rfl) (by rfl) rfl
    case h =>
      exact x_move rfl (hE.eval 15 (by rfl) e15)
    intro a7 hE e161 kp
    replace e160 := (kp 160 rfl).trans e160
    apply sq_det 162 hE k rfl (by rfl) (by rfl) rfl
    case h =>
      exact x_move rfl (hE.eval 21 (by rfl) e21)
    intro a8 hE e162 kp
    replace e160 := (kp 160 rfl).trans e160
    replace e161 := (kp 161 rfl).trans e161
    apply sq_det 163 hE k rfl (by rfl) (by rfl) rfl
    case h =>
      simp [go_sem, BigFrame.eval_const, BigFrame.eval_global, BigFrame.eval_func, ↓IntWalk.iteOmega, ev e161, ev e162]
      with_reducible rfl
    intro a9 hE e163 kp
    replace e160 := (kp 160 rfl).trans e160
    apply sq_det 164 hE k rfl (by rfl) (by rfl) rfl
    case h =>
      simp [go_sem, BigFrame.eval_const, BigFrame.eval_global, BigFrame.eval_func, ↓IntWalk.iteOmega, ev e163, cs.1, cs.2]
      with_reducible rfl
    intro a10 hE e164 kp
    replace e160 := (kp 160 rfl).trans e160
    apply sq_det 165 hE k rfl (by rfl) (by rfl) rfl
    case h =>
      exact x_move rfl (hE.eval 11 (by rfl) e11)
    intro a11 hE e165 kp
    replace e160 := (kp 160 rfl).trans e160
    replace e164 := (kp 164 rfl).trans e164
    apply sq_call 166 hE k rfl (by rfl) (by rfl) rfl
    case h =>
      simp [go_sem, BigFrame.eval_const, BigFrame.eval_global, BigFrame.eval_func, ↓IntWalk.iteOmega, ev e160, ev e164, ev e165]
      with_reducible exact ⟨rfl, rfl⟩
    case hc => exact kread z zt zs _ O hlt hzt hzs hk hF
    rintro e w13 ⟨rfl, R⟩
    replace O := OwnT.ext O R
    refine ⟨_, rfl, ?_⟩
    intro a12 hE e166 kp
    apply sq_det 159 hE k rfl (by rfl) (by rfl) rfl
    case h =>
      exact x_move rfl e166
    intro a14 hE e159 kp
    apply sq_det 167 hE k rfl (by rfl) (by rfl) rfl
    case h =>
      simp [go_sem, BigFrame.eval_const, BigFrame.eval_global, BigFrame.eval_func, ↓IntWalk.iteOmega, ev e159]
      with_reducible rfl
    intro a15 hE e167 kp
    replace e159 := (kp 159 rfl).trans e159
    apply sq_det 168 hE k rfl (by rfl) (by rfl) rfl
    case h =>
      simp [go_sem, BigFrame.eval_const, BigFrame.eval_global, BigFrame.eval_func, ↓IntWalk.iteOmega, ev e159]
      with_reducible rfl
    intro a16 hE e168 kp
    replace e167 := (kp 167 rfl).trans e167
    apply sq_det 22 hE k rfl (by rfl) (by rfl) rfl
    case h =>
      exact x_assign rfl e167
    intro a17 hE e22 kp
    replace e168 := (kp 168 rfl).trans e168
    apply sq_det 23 hE k rfl (by rfl) (by rfl) rfl
    case h =>
      exact x_assign rfl e168
    intro a18 hE e23 kp
    replace e22 := (kp 22 rfl).trans e22
    refine wpList_nil ?_
    replace e11 := hE.eval 11 (by rfl) e11
    replace e12 := hE.eval 12 (by rfl) e12
    replace e13 := hE.eval 13 (by rfl) e13
    replace e15 := hE.eval 15 (by rfl) e15
    replace e16 := hE.eval 16 (by rfl) e16
    replace e21 := hE.eval 21 (by rfl) e21
    replace k := k.env hE
    clear hE e156
    refine then_n ?_
    have ctx := (text_cell (OwnT.get O 5 rfl) (hT z hlt)).1
    refine wp_seq ?_
    refine wp_region_lit ?_
    have hE := Env.refl a18 [169, 170, 171, 172, 173, 174, 175, 176, 177, 178]
    apply sq_det 169 hE k rfl (by rfl) (by rfl) rfl
    case h =>
      exact x_move rfl (hE.eval 23 (by rfl) e23)
    intro a19 hE e169 kp
    apply sq_det 170 hE k rfl (by rfl) (by rfl) rfl
    case h =>
      exact x_dec (x_neq rfl e169 rfl) (decide_eq_false (by omega))
    intro a20 hE e170 kp
    apply sq_det 171 hE k rfl (by rfl) (by rfl) rfl
    case h =>
      exact x_move rfl e170
    intro a21 hE e171 kp
    apply sq_detg 172 hE k rfl (by rfl) (by rfl) rfl rfl e171
    case h =>
      exact x_move rfl (hE.eval 22 (by rfl) e22)
    intro a22 hE e172 kp
    replace e171 := (kp 171 rfl).trans e171
    apply sq_detg 173 hE k rfl (by rfl) (by rfl) rfl rfl e171
    case h =>
      exact x_move rfl (hE.eval 16 (by rfl) e16)
    intro a23 hE e173 kp
    replace e171 := (kp 171 rfl).trans e171
    replace e172 := (kp 172 rfl).trans e172
    apply sq_detg 174 hE k rfl (by rfl) (by rfl) rfl rfl e171
    case h =>
      exact x_move rfl (hE.eval 21 (by rfl) e21)
    intro a24 hE e174 kp
    replace e171 := (kp 171 rfl).trans e171
    replace e172 := (kp 172 rfl).trans e172
    replace e173 := (kp 173 rfl).trans e173
    apply sq_detg 175 hE k rfl (by rfl) (by rfl) rfl rfl e171
    case h =>
      simp [go_sem, BigFrame.eval_const, BigFrame.eval_global, BigFrame.eval_func, ↓IntWalk.iteOmega, ev e173, ev e174]
      with_reducible rfl
    intro a25 hE e175 kp
    replace e171 := (kp 171 rfl).trans e171
    replace e172 := (kp 172 rfl).trans e172
    apply sq_detg 176 hE k rfl (by rfl) (by rfl) rfl rfl e171
    case h =>
      simp [go_sem, BigFrame.eval_const, BigFrame.eval_global, BigFrame.eval_func, ↓IntWalk.iteOmega, ev e175, ctx]
      with_reducible rfl
    intro a26 hE e176 kp
    replace e171 := (kp 171 rfl).trans e171
    replace e172 := (kp 172 rfl).trans e172
    apply sq_detg 177 hE k rfl (by rfl) (by rfl) rfl rfl e171
    case h =>
      exact x_dec (x_nes (l := ckC kz La Lb z) (m := ckC kz La Lb z) rfl e172 e176) (decide_eq_false (fun h => h rfl))
    intro a27 hE e177 kp
    replace e171 := (kp 171 rfl).trans e171
    apply sq_det 178 hE k rfl (by rfl) (by rfl) rfl
    case h =>
      exact x_pick_f rfl e171 e177
    intro a28 hE e178 kp
    refine wpList_nil ?_
    replace e11 := hE.eval 11 (by rfl) e11
    replace e12 := hE.eval 12 (by rfl) e12
    replace e13 := hE.eval 13 (by rfl) e13
    replace e15 := hE.eval 15 (by rfl) e15
    replace e16 := hE.eval 16 (by rfl) e16
    replace e21 := hE.eval 21 (by rfl) e21
    replace k := k.env hE
    clear hE e22 e23
    refine then_n ?_
    refine cond_f e178 rfl ?_
    refine wp_skip ?_
    refine block_n ?_
    refine then_n ?_
    refine wp_region_lit ?_
    have hE := Env.refl a28 [157, 158, 21]
    apply sq_det 157 hE k rfl (by rfl) (by rfl) rfl
    case h =>
      exact x_move rfl e21
    intro a29 hE e157 kp
    replace e21 := (kp 21 rfl).trans e21
    apply sq_det 158 hE k rfl (by rfl) (by rfl) rfl
    case h =>
      exact x_add rfl e157 rfl (by omega)
    intro a30 hE e158 kp
    replace e21 := (kp 21 rfl).trans e21
    apply sq_det 21 hE k rfl (by rfl) (by rfl) rfl
    case h =>
      exact x_assign rfl e158
    intro a31 hE e21 kp
    refine wpList_nil ?_
    replace e11 := hE.eval 11 (by rfl) e11
    replace e12 := hE.eval 12 (by rfl) e12
    replace e13 := hE.eval 13 (by rfl) e13
    replace e15 := hE.eval 15 (by rfl) e15
    replace e16 := hE.eval 16 (by rfl) e16
    replace k := k.env hE
    clear hE e178
    refine then_n ?_
    refine ⟨⟨k, e11, e12, e13, e15, e16, z + 1, e21, by omega, O⟩, ?_⟩
    rw [e21, mz]; simp only [intOf]; omega
  · have hltI : ¬ (z : Int) < 20 := by omega
    refine wp_seq ?_
    refine wp_seq ?_
    refine wp_region_lit ?_
    have hE := Env.refl a2 [155, 156]
    apply sq_det 155 hE k rfl (by rfl) (by rfl) rfl
    case h =>
      exact x_move rfl (hE.eval 21 (by rfl) e21)
    intro a32 hE e155 kp
    apply sq_det 156 hE k rfl (by rfl) (by rfl) rfl
    case h =>
      exact x_dec (x_lss rfl e155 rfl) (decide_eq_false (by omega))
    intro a33 hE e156 kp
    refine wpList_nil ?_
    replace e11 := hE.eval 11 (by rfl) e11
    replace e12 := hE.eval 12 (by rfl) e12
    replace e13 := hE.eval 13 (by rfl) e13
    replace e15 := hE.eval 15 (by rfl) e15
    replace e16 := hE.eval 16 (by rfl) e16
    replace e21 := hE.eval 21 (by rfl) e21
    replace k := k.env hE
    clear hE
    refine then_n ?_
    refine cond_f e156 rfl ?_
    refine wp_exit ?_
    refine then_x ?_
    refine then_x ?_
    refine block_x ?_
    refine then_n ?_
    refine wp_seq ?_
    refine wp_region_lit ?_
    have hE := Env.refl a33 [24]
    apply sq_det 24 hE k rfl (by rfl) (by rfl) rfl
    case h =>
      exact x_assign rfl rfl
    intro a34 hE e24 kp
    refine wpList_nil ?_
    replace e12 := hE.eval 12 (by rfl) e12
    replace e15 := hE.eval 15 (by rfl) e15
    replace k := k.env hE
    clear hE e11 e13 e16 e21 e156
    refine then_n ?_
    have hsp := OwnT.get O 4 rfl
    have k0 := spot_cell hsp (z := 0) (by decide)
    have k1 := spot_cell hsp (z := 1) (by decide)
    have q0 : w3.cell? ⟨g1, 0, none⟩ = some (.int .i64 0) := k0.1
    have q1 : w3.cell? ⟨g1, 1, none⟩ = some (.int .i64 0) := k0.2
    clear hsp k0 k1
    
    refine wp_seq ?_
    refine wp_region_lit ?_
    have hE := Env.refl a34 [180, 181, 182, 183, 184, 179, 185, 186, 25, 26]
    apply sq_det 180 hE k rfl (by rfl) (by rfl) rfl
    case h =>
      exact x_move rfl (hE.eval 24 (by rfl) e24)
    intro a35 hE e180 kp
    apply sq_det 181 hE k rfl (by rfl) (by rfl) rfl
    case h =>
      exact x_move rfl (hE.eval 15 (by rfl) e15)
    intro a36 hE e181 kp
    replace e180 := (kp 180 rfl).trans e180
    apply sq_det 182 hE k rfl (by rfl) (by rfl) rfl
    case h =>
      simp [go_sem, BigFrame.eval_const, BigFrame.eval_global, BigFrame.eval_func, ↓IntWalk.iteOmega, ev e181]
      with_reducible rfl
    intro a37 hE e182 kp
    replace e180 := (kp 180 rfl).trans e180
    apply sq_det 183 hE k rfl (by rfl) (by rfl) rfl
    case h =>
      simp [go_sem, BigFrame.eval_const, BigFrame.eval_global, BigFrame.eval_func, ↓IntWalk.iteOmega, ev e182, q0, q1]
      with_reducible rfl
    intro a38 hE e183 kp
    replace e180 := (kp 180 rfl).trans e180
    apply sq_call 184 hE k rfl (by rfl) (by rfl) rfl
    case h =>
      simp [go_sem, BigFrame.eval_const, BigFrame.eval_global, BigFrame.eval_func, ↓IntWalk.iteOmega, ev e180, ev e183]
      with_reducible exact ⟨rfl, rfl⟩
    case hc => exact kread_nil 0 0 0 1 _
    rintro e w40 ⟨rfl, R⟩
    replace O := OwnT.ext O R
    refine ⟨_, rfl, ?_⟩
    intro a39 hE e184 kp
    apply sq_det 179 hE k rfl (by rfl) (by rfl) rfl
    case h =>
      exact x_move rfl e184
    intro a41 hE e179 kp
    apply sq_det 185 hE k rfl (by rfl) (by rfl) rfl
    case h =>
      simp [go_sem, BigFrame.eval_const, BigFrame.eval_global, BigFrame.eval_func, ↓IntWalk.iteOmega, ev e179]
      with_reducible rfl
    intro a42 hE e185 kp
    replace e179 := (kp 179 rfl).trans e179
    apply sq_det 186 hE k rfl (by rfl) (by rfl) rfl
    case h =>
      simp [go_sem, BigFrame.eval_const, BigFrame.eval_global, BigFrame.eval_func, ↓IntWalk.iteOmega, ev e179]
      with_reducible rfl
    intro a43 hE e186 kp
    replace e185 := (kp 185 rfl).trans e185
    apply sq_det 25 hE k rfl (by rfl) (by rfl) rfl
    case h =>
      exact x_assign rfl e185
    intro a44 hE e25 kp
    replace e186 := (kp 186 rfl).trans e186
    apply sq_det 26 hE k rfl (by rfl) (by rfl) rfl
    case h =>
      exact x_assign rfl e186
    intro a45 hE e26 kp
    refine wpList_nil ?_
    replace e12 := hE.eval 12 (by rfl) e12
    replace e15 := hE.eval 15 (by rfl) e15
    replace e24 := hE.eval 24 (by rfl) e24
    replace k := k.env hE
    clear hE
    refine then_n ?_
    refine wp_seq ?_
    refine wp_region_lit ?_
    have hE := Env.refl a45 [188, 189, 190, 187, 191, 192, 27, 28]
    apply sq_det 188 hE k rfl (by rfl) (by rfl) rfl
    case h =>
      exact x_move rfl (hE.eval 12 (by rfl) e12)
    intro a46 hE e188 kp
    apply sq_call 189 hE k rfl (by rfl) (by rfl) rfl
    case h =>
      simp [go_sem, BigFrame.eval_const, BigFrame.eval_global, BigFrame.eval_func, ↓IntWalk.iteOmega, ev e188]
      with_reducible exact ⟨rfl, rfl⟩
    case hc => exact dnew_any 9 9 _ O (by decide)
    clear O
    rintro e w48 ⟨p9, B9, cap9, bm9, rfl, O⟩
    refine ⟨_, rfl, ?_⟩
    intro a47 hE e189 kp
    apply sq_call 190 hE k rfl (by rfl) (by rfl) rfl
    case h =>
      simp [go_sem, BigFrame.eval_const, BigFrame.eval_global, BigFrame.eval_func, ↓IntWalk.iteOmega, ev e189]
      with_reducible exact ⟨rfl, rfl⟩
    case hc => exact cnew_nil _ 1 _
    rintro e _ ⟨rfl, rfl⟩
    refine ⟨_, rfl, ?_⟩
    intro a49 hE e190 kp
    apply sq_det 187 hE k rfl (by rfl) (by rfl) rfl
    case h =>
      exact x_move rfl e190
    intro a50 hE e187 kp
    apply sq_det 191 hE k rfl (by rfl) (by rfl) rfl
    case h =>
      simp [go_sem, BigFrame.eval_const, BigFrame.eval_global, BigFrame.eval_func, ↓IntWalk.iteOmega, ev e187]
      with_reducible rfl
    intro a51 hE e191 kp
    replace e187 := (kp 187 rfl).trans e187
    apply sq_det 192 hE k rfl (by rfl) (by rfl) rfl
    case h =>
      simp [go_sem, BigFrame.eval_const, BigFrame.eval_global, BigFrame.eval_func, ↓IntWalk.iteOmega, ev e187]
      with_reducible rfl
    intro a52 hE e192 kp
    replace e191 := (kp 191 rfl).trans e191
    apply sq_det 27 hE k rfl (by rfl) (by rfl) rfl
    case h =>
      exact x_assign rfl e191
    intro a53 hE e27 kp
    replace e192 := (kp 192 rfl).trans e192
    apply sq_det 28 hE k rfl (by rfl) (by rfl) rfl
    case h =>
      exact x_assign rfl e192
    intro a54 hE e28 kp
    refine wpList_nil ?_
    replace e15 := hE.eval 15 (by rfl) e15
    replace e24 := hE.eval 24 (by rfl) e24
    replace e26 := hE.eval 26 (by rfl) e26
    replace k := k.env hE
    clear hE e12
    refine then_n ?_
    refine wp_seq ?_
    refine wp_typed (R := Ext) (w0 := w48) [[], [0], [0, 1], [0, 1, 2], [0, 1, 2, 3], [0, 1, 2, 3, 4], [0, 1, 2, 3, 4, 5], [0, 1, 2, 3, 4, 5, 6], [0, 1, 2, 3, 4, 5, 6], [0, 1, 2, 3, 4, 5, 6, 8], [0, 1, 2, 3, 4, 5, 6, 8, 9], [0, 1, 2, 3, 4, 5, 6, 7, 8, 9, 10], [0, 1, 2, 3, 4, 5, 6, 7, 8, 9, 10, 11], [0, 1, 2, 3, 4, 5, 6, 7, 8, 9, 10, 11, 12], [0, 1, 2, 3, 4, 5, 6, 7, 8, 9, 10, 11, 12, 13], [0, 1, 2, 3, 4, 5, 6, 7, 8, 9, 10, 11, 12, 13, 14], [0, 1, 2, 3, 4, 5, 6, 7, 8, 9, 10, 11, 12, 13, 14], [0, 1, 2, 3, 4, 5, 6, 7, 8, 9, 10, 11, 12, 13, 14, 16], [0, 1, 2, 3, 4, 5, 6, 7, 8, 9, 10, 11, 12, 13, 14, 16, 17], [0, 1, 2, 3, 4, 5, 6, 7, 8, 9, 10, 11, 12, 13, 14], [0, 1, 2, 3, 4, 5, 6, 7, 8, 9, 10, 11, 12, 13, 14, 19], [0, 1, 2, 3, 4, 5, 6, 7, 8, 9, 10, 11, 12, 13, 14, 19, 20], [0, 1, 2, 3, 4, 5, 6, 7, 8, 9, 10, 11, 12, 13, 14, 15, 16, 17, 18, 19, 20, 21], [0, 1, 2, 3, 4, 5, 6, 7, 8, 9, 10, 11, 12, 13, 14, 15, 16, 17, 18, 19, 20, 21, 22], [0, 1, 2, 3, 4, 5, 6, 7, 8, 9, 10, 11, 12, 13, 14, 15, 16, 17, 18, 19, 20, 21, 22, 23], [0, 1, 2, 3, 4, 5, 6, 7, 8, 9, 10, 11, 12, 13, 14, 15, 16, 17, 18, 19, 20, 21, 22, 23, 24], [0, 1, 2, 3, 4, 5, 6, 7, 8, 9, 10, 11, 12, 13, 14, 15, 16, 17, 18, 19, 20, 21, 22, 23, 24, 25], [0, 1, 2, 3, 4, 5, 6, 7, 8, 9, 10, 11, 12, 13, 14, 15, 16, 17, 18, 19, 20, 21, 22, 23, 24, 25], [0, 1, 2, 3, 4, 5, 6, 7, 8, 9, 10, 11, 12, 13, 14, 15, 16, 17, 18, 19, 20, 21, 22, 23, 24, 25, 27], [0, 1, 2, 3, 4, 5, 6, 7, 8, 9, 10, 11, 12, 13, 14, 15, 16, 17, 18, 19, 20, 21, 22, 23, 24, 25, 27, 28], [0, 1, 2, 3, 4, 5, 6, 7, 8, 9, 10, 11, 12, 13, 14, 15, 16, 17, 18, 19, 20, 21, 22, 23, 24, 25, 26, 27, 28, 29], [0, 1, 2, 3, 4, 5, 6, 7, 8, 9, 10, 11, 12, 13, 14, 15, 16, 17, 18, 19, 20, 21, 22, 23, 24, 25, 26, 27, 28, 29, 30], [0, 1, 2, 3, 4, 5, 6, 7, 8, 9, 10, 11, 12, 13, 14, 15, 16, 17, 18, 19, 20, 21, 22, 23, 24, 25, 26, 27, 28, 29, 30, 31], [0, 1, 2, 3, 4, 5, 6, 7, 8, 9, 10, 11, 12, 13, 14, 15, 16, 17, 18, 19, 20, 21, 22, 23, 24, 25, 26, 27, 28, 29, 30, 31, 32], [0, 1, 2, 3, 4, 5, 6, 7, 8, 9, 10, 11, 12, 13, 14, 15, 16, 17, 18, 19, 20, 21, 22, 23, 24, 25, 26, 27, 28, 29, 30, 31, 32, 33], [0, 1, 2, 3, 4, 5, 6, 7, 8, 9, 10, 11, 12, 13, 14, 15, 16, 17, 18, 19, 20, 21, 22, 23, 24, 25, 26, 27, 28, 29, 30, 31, 32, 33, 34], [0, 1, 2, 3, 4, 5, 6, 7, 8, 9, 10, 11, 12, 13, 14, 15, 16, 17, 18, 19, 20, 21, 22, 23, 24, 25, 26, 27, 28, 29, 30, 31, 32, 33, 34, 35], [0, 1, 2, 3, 4, 5, 6, 7, 8, 9, 10, 11, 12, 13, 14, 15, 16, 17, 18, 19, 20, 21, 22, 23, 24, 25, 26, 27, 28, 29, 30, 31, 32, 33, 34, 35, 36], [0, 1, 2, 3, 4, 5, 6, 7, 8, 9, 10, 11, 12, 13, 14, 15, 16, 17, 18, 19, 20, 21, 22, 23, 24, 25, 26, 27, 28, 29, 30, 31, 32, 33, 34, 35, 36, 37], [0, 1, 2, 3, 4, 5, 6, 7, 8, 9, 10, 11, 12, 13, 14, 15, 16, 17, 18, 19, 20, 21, 22, 23, 24, 25, 26, 27, 28, 29, 30, 31, 32, 33, 34, 35, 36, 37, 38], [0, 1, 2, 3, 4, 5, 6, 7, 8, 9, 10, 11, 12, 13, 14, 15, 16, 17, 18, 19, 20, 21, 22, 23, 24, 25, 26, 27, 28, 29, 30, 31, 32, 33, 34, 35, 36, 37, 38, 39], [0, 1, 2, 3, 4, 5, 6, 7, 8, 9, 10, 11, 12, 13, 14, 15, 16, 17, 18, 19, 20, 21, 22, 23, 24, 25, 26, 27, 28, 29, 30, 31, 32, 33, 34, 35, 36, 37, 38], [0, 1, 2, 3, 4, 5, 6, 7, 8, 9, 10, 11, 12, 13, 14, 15, 16, 17, 18, 19, 20, 21, 22, 23, 24, 25, 26, 27, 28, 29, 30, 31, 32, 33, 34, 35, 36, 37, 38, 39, 40, 41], [0, 1, 2, 3, 4, 5, 6, 7, 8, 9, 10, 11, 12, 13, 14, 15, 16, 17, 18, 19, 20, 21, 22, 23, 24, 25, 26, 27, 28, 29, 30, 31, 32, 33, 34, 35, 36, 37, 38, 39, 40, 41, 42], [0, 1, 2, 3, 4, 5, 6, 7, 8, 9, 10, 11, 12, 13, 14, 15, 16, 17, 18, 19, 20, 21, 22, 23, 24, 25, 26, 27, 28, 29, 30, 31, 32, 33, 34, 35, 36, 37, 38], [0, 1, 2, 3, 4, 5, 6, 7, 8, 9, 10, 11, 12, 13, 14, 15, 16, 17, 18, 19, 20, 21, 22, 23, 24, 25, 26, 27, 28, 29, 30, 31, 32, 33, 34, 35, 36, 37, 38, 39, 40, 41, 42, 44], [0, 1, 2, 3, 4, 5, 6, 7, 8, 9, 10, 11, 12, 13, 14, 15, 16, 17, 18, 19, 20, 21, 22, 23, 24, 25, 26, 27, 28, 29, 30, 31, 32, 33, 34, 35, 36, 37, 38, 39, 40, 41, 42, 43, 44, 45], [0, 1, 2, 3, 4, 5, 6, 7, 8, 9, 10, 11, 12, 13, 14, 15, 16, 17, 18, 19, 20, 21, 22, 23, 24, 25, 26, 27, 28, 29, 30, 31, 32, 33, 34, 35, 36, 37, 38, 39, 40, 41, 42, 43, 44, 45, 46], [0, 1, 2, 3, 4, 5, 6, 7, 8, 9, 10, 11, 12, 13, 14, 15, 16, 17, 18, 19, 20, 21, 22, 23, 24, 25, 26, 27, 28, 29, 30, 31, 32, 33, 34, 35, 36, 37, 38, 39, 40, 41, 42, 43, 44, 45, 46, 47], [0, 1, 2, 3, 4, 5, 6, 7, 8, 9, 10, 11, 12, 13, 14, 15, 16, 17, 18, 19, 20, 21, 22, 23, 24, 25, 26, 27, 28, 29, 30, 31, 32, 33, 34, 35, 36, 37, 38, 39, 40, 41, 42, 43, 44, 45, 46, 47, 48]] [193, 194, 195, 196, 197, 198, 199, 200, 201, 202, 203, 204, 205, 206, 207, 208, 209, 210, 211, 212, 213, 214, 215, 216, 217, 218, 219, 220, 221, 222, 223, 224, 225, 226, 227, 228, 229, 230, 231, 232, 233, 234, 235, 236, 237, 238, 239, 240, 241, 10] Ext.refl (fun _ _ _ => Ext.trans) (Ext.drew _) (by kernel_rfl) ?_
    apply Build.det 193 Ext.refl (by rfl) (by rw [k.size]; rfl) rfl
    case h =>
      intro ax wx hE hR hF
      exact x_move rfl (hE.eval 26 (by rfl) e26)
    apply Build.det 194 Ext.refl (by rfl) (by rw [k.size]; rfl) rfl
    case h =>
      intro ax wx hE hR hF
      have e193 : ax.eval (.tmp 193) = _ := hF 0 (det 193 _) (by decide) (.head _)
      exact x_eql rfl e193 rfl
    apply Build.det 195 Ext.refl (by rfl) (by rw [k.size]; rfl) rfl
    case h =>
      intro ax wx hE hR hF
      have e194 : ax.eval (.tmp 194) = _ := hF 1 (det 194 _) (by decide) (.head _)
      exact x_move rfl e194
    apply Build.detg 196 Ext.refl (by rfl) (by rw [k.size]; rfl) rfl rfl
    case h =>
      intro ax wx hE hR hF
      have e195 : ax.eval (.tmp 195) = _ := hF 2 (det 195 _) (by decide) (.head _)
      refine ⟨e195, ?_⟩
      exact x_move rfl (hE.eval 28 (by rfl) e28)
    apply Build.detg 197 Ext.refl (by rfl) (by rw [k.size]; rfl) rfl rfl
    case h =>
      intro ax wx hE hR hF
      have e196 : ax.eval (.tmp 196) = _ := hF 3 (det 196 _) (by decide) (.head _)
      have e195 : ax.eval (.tmp 195) = _ := hF 2 (det 195 _) (by decide) (.tail _ (.head _))
      refine ⟨e195, ?_⟩
      exact x_eql rfl e196 rfl
    apply Build.det 198 Ext.refl (by rfl) (by rw [k.size]; rfl) rfl
    case h =>
      intro ax wx hE hR hF
      have e195 : ax.eval (.tmp 195) = _ := hF 2 (det 195 _) (by decide) (.tail _ (.tail _ (.head _)))
      have e197 : ax.eval (.tmp 197) = _ := hF 4 (det 197 _) (by decide) (.head _)
      exact x_pick_t rfl e195 e197
    apply Build.det 199 Ext.refl (by rfl) (by rw [k.size]; rfl) rfl
    case h =>
      intro ax wx hE hR hF
      have e198 : ax.eval (.tmp 198) = _ := hF 5 (det 198 _) (by decide) (.head _)
      exact x_move rfl e198
    apply Build.detg 200 Ext.refl (by rfl) (by rw [k.size]; rfl) rfl rfl
    case h =>
      intro ax wx hE hR hF
      have e199 : ax.eval (.tmp 199) = _ := hF 6 (det 199 _) (by decide) (.head _)
      refine ⟨e199, ?_⟩
      exact x_move rfl (hE.eval 24 (by rfl) e24)
    apply Build.detg 201 Ext.refl (by rfl) (by rw [k.size]; rfl) rfl rfl
    case h =>
      intro ax wx hE hR hF
      have e199 : ax.eval (.tmp 199) = _ := hF 6 (det 199 _) (by decide) (.tail _ (.head _))
      refine ⟨e199, ?_⟩
      exact x_move rfl (hE.eval 15 (by rfl) e15)
    apply Build.detg 202 Ext.refl (by rfl) (by rw [k.size]; rfl) rfl rfl
    case h =>
      intro ax wx hE hR hF
      have e201 : ax.eval (.tmp 201) = _ := hF 8 (det 201 _) (by decide) (.head _)
      have e199 : ax.eval (.tmp 199) = _ := hF 6 (det 199 _) (by decide) (.tail _ (.tail _ (.head _)))
      refine ⟨e199, ?_⟩
      simp [go_sem, BigFrame.eval_const, BigFrame.eval_global, BigFrame.eval_func, ↓IntWalk.iteOmega, ev e201]
      with_reducible rfl
    apply Build.detg 203 Ext.refl (by rfl) (by rw [k.size]; rfl) rfl rfl
    case h =>
      intro ax wx hE hR hF
      have e202 : ax.eval (.tmp 202) = _ := hF 9 (det 202 _) (by decide) (.head _)
      have e199 : ax.eval (.tmp 199) = _ := hF 6 (det 199 _) (by decide) (.tail _ (.tail _ (.tail _ (.head _))))
      refine ⟨e199, ?_⟩
      have hsp := OwnT.get (OwnT.ext O hR) 5 rfl; have k0 := spot_cell hsp (z := 0) (by decide); have q0 : wx.cell? ⟨g1, 0, none⟩ = some (.int .i64 0) := k0.1; have q1 : wx.cell? ⟨g1, 1, none⟩ = some (.int .i64 0) := k0.2; clear hsp k0
      simp [go_sem, BigFrame.eval_const, BigFrame.eval_global, BigFrame.eval_func, ↓IntWalk.iteOmega, ev e202, q0, q1]
      with_reducible rfl
    apply Build.callg 204 Ext.refl (by rfl) (by rw [k.size]; rfl) rfl rfl
    case h =>
      intro ax wx hE hR hF
      have e200 : ax.eval (.tmp 200) = _ := hF 7 (det 200 _) (by decide) (.tail _ (.tail _ (.tail _ (.head _))))
      have e203 : ax.eval (.tmp 203) = _ := hF 10 (det 203 _) (by decide) (.head _)
      have e199 : ax.eval (.tmp 199) = _ := hF 6 (det 199 _) (by decide) (.tail _ (.tail _ (.tail _ (.tail _ (.head _)))))
      refine ⟨e199, ?_⟩
      simp [go_sem, BigFrame.eval_const, BigFrame.eval_global, BigFrame.eval_func, ↓IntWalk.iteOmega, ev e200, ev e203]
      with_reducible exact ⟨rfl, rfl⟩
    case hc => intro wx hR; exact kwrite_nil 0 0 0 [] wx
    apply Build.detg 205 Ext.refl (by rfl) (by rw [k.size]; rfl) rfl rfl
    case h =>
      intro ax wx hE hR hF
      have e204 : ax.eval (.tmp 204) = _ := hF 11 (det 204 _) (by decide) (.head _)
      have e199 : ax.eval (.tmp 199) = _ := hF 6 (det 199 _) (by decide) (.tail _ (.tail _ (.tail _ (.tail _ (.tail _ (.head _))))))
      refine ⟨e199, ?_⟩
      exact x_eql rfl e204 rfl
    apply Build.det 206 Ext.refl (by rfl) (by rw [k.size]; rfl) rfl
    case h =>
      intro ax wx hE hR hF
      have e199 : ax.eval (.tmp 199) = _ := hF 6 (det 199 _) (by decide) (.tail _ (.tail _ (.tail _ (.tail _ (.tail _ (.tail _ (.head _)))))))
      have e205 : ax.eval (.tmp 205) = _ := hF 12 (det 205 _) (by decide) (.head _)
      exact x_pick_t rfl e199 e205
    apply Build.det 207 Ext.refl (by rfl) (by rw [k.size]; rfl) rfl
    case h =>
      intro ax wx hE hR hF
      have e206 : ax.eval (.tmp 206) = _ := hF 13 (det 206 _) (by decide) (.head _)
      exact x_move rfl e206
    apply Build.detg 208 Ext.refl (by rfl) (by rw [k.size]; rfl) rfl rfl
    case h =>
      intro ax wx hE hR hF
      have e207 : ax.eval (.tmp 207) = _ := hF 14 (det 207 _) (by decide) (.head _)
      refine ⟨e207, ?_⟩
      exact x_move rfl (hE.eval 24 (by rfl) e24)
    apply Build.detg 209 Ext.refl (by rfl) (by rw [k.size]; rfl) rfl rfl
    case h =>
      intro ax wx hE hR hF
      have e207 : ax.eval (.tmp 207) = _ := hF 14 (det 207 _) (by decide) (.tail _ (.head _))
      refine ⟨e207, ?_⟩
      exact x_move rfl (hE.eval 15 (by rfl) e15)
    apply Build.detg 210 Ext.refl (by rfl) (by rw [k.size]; rfl) rfl rfl
    case h =>
      intro ax wx hE hR hF
      have e209 : ax.eval (.tmp 209) = _ := hF 16 (det 209 _) (by decide) (.head _)
      have e207 : ax.eval (.tmp 207) = _ := hF 14 (det 207 _) (by decide) (.tail _ (.tail _ (.head _)))
      refine ⟨e207, ?_⟩
      simp [go_sem, BigFrame.eval_const, BigFrame.eval_global, BigFrame.eval_func, ↓IntWalk.iteOmega, ev e209]
      with_reducible rfl
    apply Build.detg 211 Ext.refl (by rfl) (by rw [k.size]; rfl) rfl rfl
    case h =>
      intro ax wx hE hR hF
      have e210 : ax.eval (.tmp 210) = _ := hF 17 (det 210 _) (by decide) (.head _)
      have e207 : ax.eval (.tmp 207) = _ := hF 14 (det 207 _) (by decide) (.tail _ (.tail _ (.tail _ (.head _))))
      refine ⟨e207, ?_⟩
      have hsp := OwnT.get (OwnT.ext O hR) 5 rfl; have k0 := spot_cell hsp (z := 0) (by decide); have q0 : wx.cell? ⟨g1, 0, none⟩ = some (.int .i64 0) := k0.1; have q1 : wx.cell? ⟨g1, 1, none⟩ = some (.int .i64 0) := k0.2; clear hsp k0
      simp [go_sem, BigFrame.eval_const, BigFrame.eval_global, BigFrame.eval_func, ↓IntWalk.iteOmega, ev e210, q0, q1]
      with_reducible rfl
    apply Build.detg 212 Ext.refl (by rfl) (by rw [k.size]; rfl) rfl rfl
    case h =>
      intro ax wx hE hR hF
      have e207 : ax.eval (.tmp 207) = _ := hF 14 (det 207 _) (by decide) (.tail _ (.tail _ (.tail _ (.tail _ (.head _)))))
      refine ⟨e207, ?_⟩
      exact x_move rfl (hE.eval 15 (by rfl) e15)
    apply Build.detg 213 Ext.refl (by rfl) (by rw [k.size]; rfl) rfl rfl
    case h =>
      intro ax wx hE hR hF
      have e212 : ax.eval (.tmp 212) = _ := hF 19 (det 212 _) (by decide) (.head _)
      have e207 : ax.eval (.tmp 207) = _ := hF 14 (det 207 _) (by decide) (.tail _ (.tail _ (.tail _ (.tail _ (.tail _ (.head _))))))
      refine ⟨e207, ?_⟩
      simp [go_sem, BigFrame.eval_const, BigFrame.eval_global, BigFrame.eval_func, ↓IntWalk.iteOmega, ev e212]
      with_reducible rfl
    apply Build.detg 214 Ext.refl (by rfl) (by rw [k.size]; rfl) rfl rfl
    case h =>
      intro ax wx hE hR hF
      have e213 : ax.eval (.tmp 213) = _ := hF 20 (det 213 _) (by decide) (.head _)
      have e207 : ax.eval (.tmp 207) = _ := hF 14 (det 207 _) (by decide) (.tail _ (.tail _ (.tail _ (.tail _ (.tail _ (.tail _ (.head _)))))))
      refine ⟨e207, ?_⟩
      have hsp := OwnT.get (OwnT.ext O hR) 5 rfl; have k0 := spot_cell hsp (z := 1) (by decide); have q0 : wx.cell? ⟨g1, 2, none⟩ = some (.int .i64 0) := k0.1; have q1 : wx.cell? ⟨g1, 3, none⟩ = some (.int .i64 1) := k0.2; clear hsp k0
      simp [go_sem, BigFrame.eval_const, BigFrame.eval_global, BigFrame.eval_func, ↓IntWalk.iteOmega, ev e213, q0, q1]
      with_reducible rfl
    apply Build.callg 215 Ext.refl (by rfl) (by rw [k.size]; rfl) rfl rfl
    case h =>
      intro ax wx hE hR hF
      have e208 : ax.eval (.tmp 208) = _ := hF 15 (det 208 _) (by decide) (.tail _ (.tail _ (.tail _ (.tail _ (.tail _ (.tail _ (.head _)))))))
      have e211 : ax.eval (.tmp 211) = _ := hF 18 (det 211 _) (by decide) (.tail _ (.tail _ (.tail _ (.head _))))
      have e214 : ax.eval (.tmp 214) = _ := hF 21 (det 214 _) (by decide) (.head _)
      have e207 : ax.eval (.tmp 207) = _ := hF 14 (det 207 _) (by decide) (.tail _ (.tail _ (.tail _ (.tail _ (.tail _ (.tail _ (.tail _ (.head _))))))))
      refine ⟨e207, ?_⟩
      simp [go_sem, BigFrame.eval_const, BigFrame.eval_global, BigFrame.eval_func, ↓IntWalk.iteOmega, ev e208, ev e211, ev e214]
      with_reducible exact ⟨rfl, rfl⟩
    case hc => intro wx hR; exact kcopy_nil 0 0 0 1 wx
    apply Build.detg 216 Ext.refl (by rfl) (by rw [k.size]; rfl) rfl rfl
    case h =>
      intro ax wx hE hR hF
      have e215 : ax.eval (.tmp 215) = _ := hF 22 (det 215 _) (by decide) (.head _)
      have e207 : ax.eval (.tmp 207) = _ := hF 14 (det 207 _) (by decide) (.tail _ (.tail _ (.tail _ (.tail _ (.tail _ (.tail _ (.tail _ (.tail _ (.head _)))))))))
      refine ⟨e207, ?_⟩
      exact x_eql rfl e215 rfl
    apply Build.det 217 Ext.refl (by rfl) (by rw [k.size]; rfl) rfl
    case h =>
      intro ax wx hE hR hF
      have e207 : ax.eval (.tmp 207) = _ := hF 14 (det 207 _) (by decide) (.tail _ (.tail _ (.tail _ (.tail _ (.tail _ (.tail _ (.tail _ (.tail _ (.tail _ (.head _))))))))))
      have e216 : ax.eval (.tmp 216) = _ := hF 23 (det 216 _) (by decide) (.head _)
      exact x_pick_t rfl e207 e216
    apply Build.det 218 Ext.refl (by rfl) (by rw [k.size]; rfl) rfl
    case h =>
      intro ax wx hE hR hF
      have e217 : ax.eval (.tmp 217) = _ := hF 24 (det 217 _) (by decide) (.head _)
      exact x_move rfl e217
    apply Build.detg 219 Ext.refl (by rfl) (by rw [k.size]; rfl) rfl rfl
    case h =>
      intro ax wx hE hR hF
      have e218 : ax.eval (.tmp 218) = _ := hF 25 (det 218 _) (by decide) (.head _)
      refine ⟨e218, ?_⟩
      exact x_move rfl (hE.eval 24 (by rfl) e24)
    apply Build.detg 220 Ext.refl (by rfl) (by rw [k.size]; rfl) rfl rfl
    case h =>
      intro ax wx hE hR hF
      have e218 : ax.eval (.tmp 218) = _ := hF 25 (det 218 _) (by decide) (.tail _ (.head _))
      refine ⟨e218, ?_⟩
      exact x_move rfl (hE.eval 15 (by rfl) e15)
    apply Build.detg 221 Ext.refl (by rfl) (by rw [k.size]; rfl) rfl rfl
    case h =>
      intro ax wx hE hR hF
      have e220 : ax.eval (.tmp 220) = _ := hF 27 (det 220 _) (by decide) (.head _)
      have e218 : ax.eval (.tmp 218) = _ := hF 25 (det 218 _) (by decide) (.tail _ (.tail _ (.head _)))
      refine ⟨e218, ?_⟩
      simp [go_sem, BigFrame.eval_const, BigFrame.eval_global, BigFrame.eval_func, ↓IntWalk.iteOmega, ev e220]
      with_reducible rfl
    apply Build.detg 222 Ext.refl (by rfl) (by rw [k.size]; rfl) rfl rfl
    case h =>
      intro ax wx hE hR hF
      have e221 : ax.eval (.tmp 221) = _ := hF 28 (det 221 _) (by decide) (.head _)
      have e218 : ax.eval (.tmp 218) = _ := hF 25 (det 218 _) (by decide) (.tail _ (.tail _ (.tail _ (.head _))))
      refine ⟨e218, ?_⟩
      have hsp := OwnT.get (OwnT.ext O hR) 5 rfl; have k0 := spot_cell hsp (z := 0) (by decide); have q0 : wx.cell? ⟨g1, 0, none⟩ = some (.int .i64 0) := k0.1; have q1 : wx.cell? ⟨g1, 1, none⟩ = some (.int .i64 0) := k0.2; clear hsp k0
      simp [go_sem, BigFrame.eval_const, BigFrame.eval_global, BigFrame.eval_func, ↓IntWalk.iteOmega, ev e221, q0, q1]
      with_reducible rfl
    apply Build.callg 223 Ext.refl (by rfl) (by rw [k.size]; rfl) rfl rfl
    case h =>
      intro ax wx hE hR hF
      have e219 : ax.eval (.tmp 219) = _ := hF 26 (det 219 _) (by decide) (.tail _ (.tail _ (.tail _ (.head _))))
      have e222 : ax.eval (.tmp 222) = _ := hF 29 (det 222 _) (by decide) (.head _)
      have e218 : ax.eval (.tmp 218) = _ := hF 25 (det 218 _) (by decide) (.tail _ (.tail _ (.tail _ (.tail _ (.head _)))))
      refine ⟨e218, ?_⟩
      simp [go_sem, BigFrame.eval_const, BigFrame.eval_global, BigFrame.eval_func, ↓IntWalk.iteOmega, ev e219, ev e222]
      with_reducible exact ⟨rfl, rfl⟩
    case hc => intro wx hR; exact kzero_nil 0 0 wx
    apply Build.detg 224 Ext.refl (by rfl) (by rw [k.size]; rfl) rfl rfl
    case h =>
      intro ax wx hE hR hF
      have e223 : ax.eval (.tmp 223) = _ := hF 30 (det 223 _) (by decide) (.head _)
      have e218 : ax.eval (.tmp 218) = _ := hF 25 (det 218 _) (by decide) (.tail _ (.tail _ (.tail _ (.tail _ (.tail _ (.head _))))))
      refine ⟨e218, ?_⟩
      exact x_eql rfl e223 rfl
    apply Build.det 225 Ext.refl (by rfl) (by rw [k.size]; rfl) rfl
    case h =>
      intro ax wx hE hR hF
      have e218 : ax.eval (.tmp 218) = _ := hF 25 (det 218 _) (by decide) (.tail _ (.tail _ (.tail _ (.tail _ (.tail _ (.tail _ (.head _)))))))
      have e224 : ax.eval (.tmp 224) = _ := hF 31 (det 224 _) (by decide) (.head _)
      exact x_pick_t rfl e218 e224
    apply Build.det 226 Ext.refl (by rfl) (by rw [k.size]; rfl) rfl
    case h =>
      intro ax wx hE hR hF
      have e225 : ax.eval (.tmp 225) = _ := hF 32 (det 225 _) (by decide) (.head _)
      exact x_move rfl e225
    apply Build.detg 227 Ext.refl (by rfl) (by rw [k.size]; rfl) rfl rfl
    case h =>
      intro ax wx hE hR hF
      have e226 : ax.eval (.tmp 226) = _ := hF 33 (det 226 _) (by decide) (.head _)
      refine ⟨e226, ?_⟩
      exact x_move rfl (hE.eval 24 (by rfl) e24)
    apply Build.callg 228 Ext.refl (by rfl) (by rw [k.size]; rfl) rfl rfl
    case h =>
      intro ax wx hE hR hF
      have e227 : ax.eval (.tmp 227) = _ := hF 34 (det 227 _) (by decide) (.head _)
      have e226 : ax.eval (.tmp 226) = _ := hF 33 (det 226 _) (by decide) (.tail _ (.head _))
      refine ⟨e226, ?_⟩
      simp [go_sem, BigFrame.eval_const, BigFrame.eval_global, BigFrame.eval_func, ↓IntWalk.iteOmega, ev e227]
      with_reducible exact ⟨rfl, rfl⟩
    case hc => intro wx hR; exact ((cflush_nil 0 wx).mono (fun e w' h => ⟨h.1, h.2 ▸ Ext.refl _⟩))
    apply Build.detg 229 Ext.refl (by rfl) (by rw [k.size]; rfl) rfl rfl
    case h =>
      intro ax wx hE hR hF
      have e228 : ax.eval (.tmp 228) = _ := hF 35 (det 228 _) (by decide) (.head _)
      have e226 : ax.eval (.tmp 226) = _ := hF 33 (det 226 _) (by decide) (.tail _ (.tail _ (.head _)))
      refine ⟨e226, ?_⟩
      exact x_eql rfl e228 rfl
    apply Build.det 230 Ext.refl (by rfl) (by rw [k.size]; rfl) rfl
    case h =>
      intro ax wx hE hR hF
      have e226 : ax.eval (.tmp 226) = _ := hF 33 (det 226 _) (by decide) (.tail _ (.tail _ (.tail _ (.head _))))
      have e229 : ax.eval (.tmp 229) = _ := hF 36 (det 229 _) (by decide) (.head _)
      exact x_pick_t rfl e226 e229
    apply Build.det 231 Ext.refl (by rfl) (by rw [k.size]; rfl) rfl
    case h =>
      intro ax wx hE hR hF
      have e230 : ax.eval (.tmp 230) = _ := hF 37 (det 230 _) (by decide) (.head _)
      exact x_move rfl e230
    apply Build.detg 232 Ext.refl (by rfl) (by rw [k.size]; rfl) rfl rfl
    case h =>
      intro ax wx hE hR hF
      have e231 : ax.eval (.tmp 231) = _ := hF 38 (det 231 _) (by decide) (.head _)
      refine ⟨e231, ?_⟩
      exact x_move rfl (hE.eval 24 (by rfl) e24)
    apply Build.callg 233 Ext.refl (by rfl) (by rw [k.size]; rfl) rfl rfl
    case h =>
      intro ax wx hE hR hF
      have e232 : ax.eval (.tmp 232) = _ := hF 39 (det 232 _) (by decide) (.head _)
      have e231 : ax.eval (.tmp 231) = _ := hF 38 (det 231 _) (by decide) (.tail _ (.head _))
      refine ⟨e231, ?_⟩
      simp [go_sem, BigFrame.eval_const, BigFrame.eval_global, BigFrame.eval_func, ↓IntWalk.iteOmega, ev e232]
      with_reducible exact ⟨rfl, rfl⟩
    case hc => intro wx hR; exact ((csize_nil wx).mono (fun e w' h => ⟨h.1, h.2 ▸ Ext.refl _⟩))
    apply Build.detg 234 Ext.refl (by rfl) (by rw [k.size]; rfl) rfl rfl
    case h =>
      intro ax wx hE hR hF
      have e231 : ax.eval (.tmp 231) = _ := hF 38 (det 231 _) (by decide) (.tail _ (.tail _ (.head _)))
      refine ⟨e231, ?_⟩
      exact x_move rfl (hE.eval 24 (by rfl) e24)
    apply Build.callg 235 Ext.refl (by rfl) (by rw [k.size]; rfl) rfl rfl
    case h =>
      intro ax wx hE hR hF
      have e234 : ax.eval (.tmp 234) = _ := hF 41 (det 234 _) (by decide) (.head _)
      have e231 : ax.eval (.tmp 231) = _ := hF 38 (det 231 _) (by decide) (.tail _ (.tail _ (.tail _ (.head _))))
      refine ⟨e231, ?_⟩
      simp [go_sem, BigFrame.eval_const, BigFrame.eval_global, BigFrame.eval_func, ↓IntWalk.iteOmega, ev e234]
      with_reducible exact ⟨rfl, rfl⟩
    case hc => intro wx hR; exact ((cslots_nil 0 wx).mono (fun e w' h => ⟨h.1, h.2 ▸ Ext.refl _⟩))
    apply Build.detg 236 Ext.refl (by rfl) (by rw [k.size]; rfl) rfl rfl
    case h =>
      intro ax wx hE hR hF
      have e233 : ax.eval (.tmp 233) = _ := hF 40 (det 233 _) (by decide) (.tail _ (.tail _ (.head _)))
      have e235 : ax.eval (.tmp 235) = _ := hF 42 (det 235 _) (by decide) (.head _)
      have e231 : ax.eval (.tmp 231) = _ := hF 38 (det 231 _) (by decide) (.tail _ (.tail _ (.tail _ (.tail _ (.head _)))))
      refine ⟨e231, ?_⟩
      exact x_add rfl e233 e235 (by omega)
    apply Build.detg 237 Ext.refl (by rfl) (by rw [k.size]; rfl) rfl rfl
    case h =>
      intro ax wx hE hR hF
      have e231 : ax.eval (.tmp 231) = _ := hF 38 (det 231 _) (by decide) (.tail _ (.tail _ (.tail _ (.tail _ (.tail _ (.head _))))))
      refine ⟨e231, ?_⟩
      exact x_move rfl (hE.eval 24 (by rfl) e24)
    apply Build.callg 238 Ext.refl (by rfl) (by rw [k.size]; rfl) rfl rfl
    case h =>
      intro ax wx hE hR hF
      have e237 : ax.eval (.tmp 237) = _ := hF 44 (det 237 _) (by decide) (.head _)
      have e231 : ax.eval (.tmp 231) = _ := hF 38 (det 231 _) (by decide) (.tail _ (.tail _ (.tail _ (.tail _ (.tail _ (.tail _ (.head _)))))))
      refine ⟨e231, ?_⟩
      simp [go_sem, BigFrame.eval_const, BigFrame.eval_global, BigFrame.eval_func, ↓IntWalk.iteOmega, ev e237]
      with_reducible exact ⟨rfl, rfl⟩
    case hc => intro wx hR; exact ((cloose_nil 0 wx).mono (fun e w' h => ⟨h.1, h.2 ▸ Ext.refl _⟩))
    apply Build.detg 239 Ext.refl (by rfl) (by rw [k.size]; rfl) rfl rfl
    case h =>
      intro ax wx hE hR hF
      have e236 : ax.eval (.tmp 236) = _ := hF 43 (det 236 _) (by decide) (.tail _ (.tail _ (.head _)))
      have e238 : ax.eval (.tmp 238) = _ := hF 45 (det 238 _) (by decide) (.head _)
      have e231 : ax.eval (.tmp 231) = _ := hF 38 (det 231 _) (by decide) (.tail _ (.tail _ (.tail _ (.tail _ (.tail _ (.tail _ (.tail _ (.head _))))))))
      refine ⟨e231, ?_⟩
      exact x_add rfl e236 e238 (by omega)
    apply Build.detg 240 Ext.refl (by rfl) (by rw [k.size]; rfl) rfl rfl
    case h =>
      intro ax wx hE hR hF
      have e239 : ax.eval (.tmp 239) = _ := hF 46 (det 239 _) (by decide) (.head _)
      have e231 : ax.eval (.tmp 231) = _ := hF 38 (det 231 _) (by decide) (.tail _ (.tail _ (.tail _ (.tail _ (.tail _ (.tail _ (.tail _ (.tail _ (.head _)))))))))
      refine ⟨e231, ?_⟩
      exact x_eql rfl e239 rfl
    apply Build.det 241 Ext.refl (by rfl) (by rw [k.size]; rfl) rfl
    case h =>
      intro ax wx hE hR hF
      have e231 : ax.eval (.tmp 231) = _ := hF 38 (det 231 _) (by decide) (.tail _ (.tail _ (.tail _ (.tail _ (.tail _ (.tail _ (.tail _ (.tail _ (.tail _ (.head _))))))))))
      have e240 : ax.eval (.tmp 240) = _ := hF 47 (det 240 _) (by decide) (.head _)
      exact x_pick_t rfl e231 e240
    apply Build.det 10 Ext.refl (by rfl) (by rw [k.size]; rfl) rfl
    case h =>
      intro ax wx hE hR hF
      have e241 : ax.eval (.tmp 241) = _ := hF 48 (det 241 _) (by decide) (.head _)
      exact x_assign rfl e241
    apply Build.stop
    refine ⟨by kernel_rfl, .inl ⟨rfl, ?_⟩⟩
    intro a55 w56 hE R hF
    have e10 : a55.eval (.tmp 10) = _ := hF 49 (det 10 _) (.head _)
    clear hF
    replace O := OwnT.ext O R
    clear R
    replace k := k.env hE
    clear hE e15 e24 e26 e28
    refine then_n ?_
    refine wp_ret ?_
    exact hQ _ _ k e10 O.below
set_option maxRecDepth 100000 in
set_option maxHeartbeats 4000000 in
theorem chunkApart_core (x0 x1 x2 x4 : Int) (b : UInt8) (W0 : World) : Calls Try.prog 11 #[.int .i64 x0, .int .i64 x1, .int .i64 x2, .int .u8 (b.toNat : Int), .int .i64 x4] W0 fun e w' => e = .returned (.bool true) ∧ Below W0.heap.size W0 w' := by
  have O := OwnT.start W0
  obtain ⟨n8, hn8⟩ : ∃ m, uN x0 % 8 = m := ⟨_, rfl⟩
  obtain ⟨kz, hkz⟩ : ∃ k, 1 + n8 = k := ⟨_, rfl⟩
  have hk : 1 ≤ kz ∧ kz ≤ 8 := by omega
  refine calls_F Try.func11 rfl 242 rfl (by rfl) ?_
  intro a1 k hargs
  have e0 : a1.eval (.tmp 0) = .int .i64 x0 := hargs 0 _ rfl
  have e1 : a1.eval (.tmp 1) = .int .i64 x1 := hargs 1 _ rfl
  have e2 : a1.eval (.tmp 2) = .int .i64 x2 := hargs 2 _ rfl
  have e3 : a1.eval (.tmp 3) = .int .u8 ↑b.toNat := hargs 3 _ rfl
  have e4 : a1.eval (.tmp 4) = .int .i64 x4 := hargs 4 _ rfl
  clear hargs
  refine wp_seq ?_
  refine wp_region_lit ?_
  have hE := Env.refl a1 [10]
  apply sq_det 10 hE k rfl (by rfl) (by rfl) rfl
  case h =>
    exact x_assign rfl rfl
  intro a2 hE e10 kp
  refine wpList_nil ?_
  replace e0 := hE.eval 0 (by rfl) e0
  replace e1 := hE.eval 1 (by rfl) e1
  replace e2 := hE.eval 2 (by rfl) e2
  replace e3 := hE.eval 3 (by rfl) e3
  replace e4 := hE.eval 4 (by rfl) e4
  replace k := k.env hE
  clear hE e10
  refine then_n ?_
  refine wp_seq ?_
  refine wp_seq ?_
  refine wp_region_lit ?_
  have hE := Env.refl a2 [29, 30]
  apply sq_call 29 hE k rfl (by rfl) (by rfl) rfl
  case h =>
    simp [go_sem, BigFrame.eval_const, BigFrame.eval_global, BigFrame.eval_func, ↓IntWalk.iteOmega]
    with_reducible exact ⟨rfl, rfl⟩
  case hc => exact awake18 _
  rintro e w4 ⟨rfl, R⟩
  replace O := OwnT.ext O R
  refine ⟨_, rfl, ?_⟩
  intro a3 hE e29 kp
  apply sq_det 30 hE k rfl (by rfl) (by rfl) rfl
  case h =>
    exact x_not rfl e29
  intro a5 hE e30 kp
  refine wpList_nil ?_
  replace e0 := hE.eval 0 (by rfl) e0
  replace e1 := hE.eval 1 (by rfl) e1
  replace e2 := hE.eval 2 (by rfl) e2
  replace e3 := hE.eval 3 (by rfl) e3
  replace e4 := hE.eval 4 (by rfl) e4
  replace k := k.env hE
  clear hE
  refine then_n ?_
  refine cond_f e30 rfl ?_
  refine wp_skip ?_
  refine then_n ?_
  refine wp_seq ?_
  refine wp_region_lit ?_
  have hE := Env.refl a5 [31, 32, 33, 34, 35, 11]
  apply sq_det 31 hE k rfl (by rfl) (by rfl) rfl
  case h =>
    exact x_move rfl (hE.eval 0 (by rfl) e0)
  intro a6 hE e31 kp
  apply sq_det 32 hE k rfl (by rfl) (by rfl) rfl
  case h =>
    exact x_conv rfl e31 (conv_uint x0 _)
  intro a7 hE e32 kp
  apply sq_det 33 hE k rfl (by rfl) (by rfl) rfl
  case h =>
    exact x_remU (m := uN x0) (j := 8) rfl e32 rfl rfl (by decide)
  intro a8 hE e33 kp
  apply sq_det 34 hE k rfl (by rfl) (by rfl) rfl
  case h =>
    exact x_conv rfl e33 (conv_int _ _ (by omega))
  intro a9 hE e34 kp
  replace e34 := e34.trans (int_eq (show ((uN x0 % 8 : Nat) : Int) = (n8 : Int) by rw [hn8]))
  apply sq_det 35 hE k rfl (by rfl) (by rfl) rfl
  case h =>
    exact x_add rfl rfl e34 (by omega)
  intro a10 hE e35 kp
  replace e35 := e35.trans (int_eq (show 1 + (n8 : Int) = (kz : Int) by omega))
  apply sq_det 11 hE k rfl (by rfl) (by rfl) rfl
  case h =>
    exact x_assign rfl e35
  intro a11 hE e11 kp
  refine wpList_nil ?_
  replace e1 := hE.eval 1 (by rfl) e1
  replace e2 := hE.eval 2 (by rfl) e2
  replace e3 := hE.eval 3 (by rfl) e3
  replace e4 := hE.eval 4 (by rfl) e4
  replace k := k.env hE
  clear hE e0 e30
  refine then_n ?_
  refine wp_seq ?_
  refine wp_region_lit ?_
  have hE := Env.refl a11 [36, 12]
  apply sq_call 36 hE k rfl (by rfl) (by rfl) rfl
  case h =>
    simp [go_sem, BigFrame.eval_const, BigFrame.eval_global, BigFrame.eval_func, ↓IntWalk.iteOmega]
    with_reducible exact ⟨rfl, rfl⟩
  case hc => exact new_mn O
  clear O
  rintro e w13 ⟨mb, rfl, O⟩
  refine ⟨_, rfl, ?_⟩
  intro a12 hE e36 kp
  apply sq_det 12 hE k rfl (by rfl) (by rfl) rfl
  case h =>
    exact x_assign rfl e36
  intro a14 hE e12 kp
  refine wpList_nil ?_
  replace e1 := hE.eval 1 (by rfl) e1
  replace e2 := hE.eval 2 (by rfl) e2
  replace e3 := hE.eval 3 (by rfl) e3
  replace e4 := hE.eval 4 (by rfl) e4
  replace e11 := hE.eval 11 (by rfl) e11
  replace k := k.env hE
  clear hE
  refine then_n ?_
  refine wp_seq ?_
  refine wp_region_lit ?_
  have hE := Env.refl a14 [38, 39, 40, 41, 42, 43, 44, 45, 46, 47, 48, 37, 49, 50, 13, 14]
  apply sq_det 38 hE k rfl (by rfl) (by rfl) rfl
  case h =>
    exact x_move rfl (hE.eval 12 (by rfl) e12)
  intro a15 hE e38 kp
  apply sq_det 39 hE k rfl (by rfl) (by rfl) rfl
  case h =>
    exact x_move rfl (hE.eval 11 (by rfl) e11)
  intro a16 hE e39 kp
  replace e38 := (kp 38 rfl).trans e38
  apply sq_det 40 hE k rfl (by rfl) (by rfl) rfl
  case h =>
    exact x_mul rfl rfl e39 (by omega)
  intro a17 hE e40 kp
  replace e38 := (kp 38 rfl).trans e38
  apply sq_call 41 hE k rfl (by rfl) (by rfl) rfl
  case h =>
    simp [go_sem, BigFrame.eval_const, BigFrame.eval_global, BigFrame.eval_func, ↓IntWalk.iteOmega, ev e38, ev e40]
    with_reducible exact ⟨rfl, rfl⟩
  case hc => exact dnew_any _ (10 * kz) _ O (by omega)
  clear O
  rintro e w19 ⟨p, B, cap, bm, rfl, O⟩
  refine ⟨_, rfl, ?_⟩
  intro a18 hE e41 kp
  apply sq_det 42 hE k rfl (by rfl) (by rfl) rfl
  case h =>
    exact x_move rfl (hE.eval 12 (by rfl) e12)
  intro a20 hE e42 kp
  replace e41 := (kp 41 rfl).trans e41
  apply sq_det 43 hE k rfl (by rfl) (by rfl) rfl
  case h =>
    exact x_move rfl (hE.eval 11 (by rfl) e11)
  intro a21 hE e43 kp
  replace e41 := (kp 41 rfl).trans e41
  replace e42 := (kp 42 rfl).trans e42
  apply sq_det 44 hE k rfl (by rfl) (by rfl) rfl
  case h =>
    exact x_mul rfl rfl e43 (by omega)
  intro a22 hE e44 kp
  replace e41 := (kp 41 rfl).trans e41
  replace e42 := (kp 42 rfl).trans e42
  apply sq_det 45 hE k rfl (by rfl) (by rfl) rfl
  case h =>
    exact x_add rfl e44 rfl (by omega)
  intro a23 hE e45 kp
  replace e41 := (kp 41 rfl).trans e41
  replace e42 := (kp 42 rfl).trans e42
  apply sq_call 46 hE k rfl (by rfl) (by rfl) rfl
  case h =>
    simp [go_sem, BigFrame.eval_const, BigFrame.eval_global, BigFrame.eval_func, ↓IntWalk.iteOmega, ev e42, ev e45]
    with_reducible exact ⟨rfl, rfl⟩
  case hc => exact dnew_any _ (10 * kz + 3) _ O (by omega)
  clear O
  rintro e w25 ⟨p2, B2, cap2, bm2, rfl, O⟩
  refine ⟨_, rfl, ?_⟩
  intro a24 hE e46 kp
  replace e41 := (kp 41 rfl).trans e41
  apply sq_det 47 hE k rfl (by rfl) (by rfl) rfl
  case h =>
    exact x_move rfl (hE.eval 11 (by rfl) e11)
  intro a26 hE e47 kp
  replace e41 := (kp 41 rfl).trans e41
  replace e46 := (kp 46 rfl).trans e46
  apply sq_call 48 hE k rfl (by rfl) (by rfl) rfl
  case h =>
    simp [go_sem, BigFrame.eval_const, BigFrame.eval_global, BigFrame.eval_func, ↓IntWalk.iteOmega, ev e41, ev e46, ev e47]
    with_reducible exact ⟨rfl, rfl⟩
  case hc => exact cnew_ok kz _ O (OwnT.discAt O 1 rfl) (OwnT.discAt O 0 rfl) (by omega)
  clear O
  rintro e w28 ⟨db, rfl, O⟩
  refine ⟨_, rfl, ?_⟩
  intro a27 hE e48 kp
  apply sq_det 37 hE k rfl (by rfl) (by rfl) rfl
  case h =>
    exact x_move rfl e48
  intro a29 hE e37 kp
  apply sq_det 49 hE k rfl (by rfl) (by rfl) rfl
  case h =>
    simp [go_sem, BigFrame.eval_const, BigFrame.eval_global, BigFrame.eval_func, ↓IntWalk.iteOmega, ev e37]
    with_reducible rfl
  intro a30 hE e49 kp
  replace e37 := (kp 37 rfl).trans e37
  apply sq_det 50 hE k rfl (by rfl) (by rfl) rfl
  case h =>
    simp [go_sem, BigFrame.eval_const, BigFrame.eval_global, BigFrame.eval_func, ↓IntWalk.iteOmega, ev e37]
    with_reducible rfl
  intro a31 hE e50 kp
  replace e49 := (kp 49 rfl).trans e49
  apply sq_det 13 hE k rfl (by rfl) (by rfl) rfl
  case h =>
    exact x_assign rfl e49
  intro a32 hE e13 kp
  replace e50 := (kp 50 rfl).trans e50
  apply sq_det 14 hE k rfl (by rfl) (by rfl) rfl
  case h =>
    exact x_assign rfl e50
  intro a33 hE e14 kp
  replace e13 := (kp 13 rfl).trans e13
  refine wpList_nil ?_
  replace e1 := hE.eval 1 (by rfl) e1
  replace e2 := hE.eval 2 (by rfl) e2
  replace e3 := hE.eval 3 (by rfl) e3
  replace e4 := hE.eval 4 (by rfl) e4
  replace e11 := hE.eval 11 (by rfl) e11
  replace e12 := hE.eval 12 (by rfl) e12
  replace k := k.env hE
  clear hE
  refine then_n ?_
  refine wp_seq ?_
  refine wp_seq ?_
  refine wp_region_lit ?_
  have hE := Env.refl a33 [51, 52]
  apply sq_det 51 hE k rfl (by rfl) (by rfl) rfl
  case h =>
    exact x_move rfl (hE.eval 14 (by rfl) e14)
  intro a34 hE e51 kp
  apply sq_det 52 hE k rfl (by rfl) (by rfl) rfl
  case h =>
    exact x_dec (x_neq rfl e51 rfl) (decide_eq_false (by omega))
  intro a35 hE e52 kp
  refine wpList_nil ?_
  replace e1 := hE.eval 1 (by rfl) e1
  replace e2 := hE.eval 2 (by rfl) e2
  replace e3 := hE.eval 3 (by rfl) e3
  replace e4 := hE.eval 4 (by rfl) e4
  replace e11 := hE.eval 11 (by rfl) e11
  replace e12 := hE.eval 12 (by rfl) e12
  replace e13 := hE.eval 13 (by rfl) e13
  replace k := k.env hE
  clear hE e14
  refine then_n ?_
  refine cond_f e52 rfl ?_
  refine wp_skip ?_
  refine then_n ?_
  refine wp_seq ?_
  refine wp_region_lit ?_
  have hE := Env.refl a35 [53, 15]
  refine sq_news (m := 0) (c := 0) O (cs := #[]) (t := 90) 53 hE k rfl (by rfl) (by rfl) rfl (by simp [go_sem, BigFrame.eval_const, BigFrame.eval_global, BigFrame.eval_func, ↓IntWalk.iteOmega]) ?_
  clear O
  intro h1 a36 w37 O hE e53 kp
  apply sq_det 15 hE k rfl (by rfl) (by rfl) rfl
  case h =>
    exact x_assign rfl e53
  intro a38 hE e15 kp
  refine wpList_nil ?_
  replace e1 := hE.eval 1 (by rfl) e1
  replace e2 := hE.eval 2 (by rfl) e2
  replace e3 := hE.eval 3 (by rfl) e3
  replace e4 := hE.eval 4 (by rfl) e4
  replace e11 := hE.eval 11 (by rfl) e11
  replace e12 := hE.eval 12 (by rfl) e12
  replace e13 := hE.eval 13 (by rfl) e13
  replace k := k.env hE
  clear hE e52
  refine then_n ?_
  replace O := OwnT.asRow0 (k := 2) O
  refine wp_seq ?_
  refine wp_region_lit ?_
  have hE := Env.refl a38 [54, 16]
  refine sq_news (m := 0) (c := 0) O (cs := #[]) (t := 9) 54 hE k rfl (by rfl) (by rfl) rfl (by simp [go_sem, BigFrame.eval_const, BigFrame.eval_global, BigFrame.eval_func, ↓IntWalk.iteOmega]) ?_
  clear O
  intro h2 a39 w40 O hE e54 kp
  apply sq_det 16 hE k rfl (by rfl) (by rfl) rfl
  case h =>
    exact x_assign rfl e54
  intro a41 hE e16 kp
  refine wpList_nil ?_
  replace e1 := hE.eval 1 (by rfl) e1
  replace e2 := hE.eval 2 (by rfl) e2
  replace e3 := hE.eval 3 (by rfl) e3
  replace e4 := hE.eval 4 (by rfl) e4
  replace e11 := hE.eval 11 (by rfl) e11
  replace e12 := hE.eval 12 (by rfl) e12
  replace e13 := hE.eval 13 (by rfl) e13
  replace e15 := hE.eval 15 (by rfl) e15
  replace k := k.env hE
  clear hE
  refine then_n ?_
  replace O := OwnT.asRow0 (k := 1) O
  replace O : OwnT _ _ ([tDisc p mb B (10 * kz) cap bm (zz (10 * kz)) (fun _ => none), tMn mb mn0, tDisc p2 mb B2 (10 * kz + 3) cap2 bm2 (zz (10 * kz + 3)) (fun _ => none), tBlk db 149 #[.pointer (some ⟨p, 0, none⟩), .pointer (some ⟨p2, 0, none⟩), .int .i64 ↑kz], tRow 90 2 (.slice (some ⟨h1, 0, none⟩) 0 0) 0 ((List.range 0).flatMap encS), tRow 9 1 (.slice (some ⟨h2, 0, none⟩) 0 0) 0 (strsV (txI kz 0))]) w40 := OwnT.pick O [4, 5, 3, 2, 1, 0] (by decide)
  refine wp_seq ?_
  refine wp_seq ?_
  refine wp_region_lit ?_
  have hE := Env.refl a41 [17]
  apply sq_det 17 hE k rfl (by rfl) (by rfl) rfl
  case h =>
    exact x_assign rfl rfl
  intro a42 hE e17 kp
  refine wpList_nil ?_
  replace e1 := hE.eval 1 (by rfl) e1
  replace e2 := hE.eval 2 (by rfl) e2
  replace e3 := hE.eval 3 (by rfl) e3
  replace e4 := hE.eval 4 (by rfl) e4
  replace e11 := hE.eval 11 (by rfl) e11
  replace e12 := hE.eval 12 (by rfl) e12
  replace e13 := hE.eval 13 (by rfl) e13
  replace e15 := hE.eval 15 (by rfl) e15
  replace e16 := hE.eval 16 (by rfl) e16
  replace k := k.env hE
  clear hE
  refine then_n ?_
  refine wp_block ?_
  refine wp_loop (fun a w => Fr 242 a ∧ a.eval (.tmp 1) = .int .i64 x1 ∧ a.eval (.tmp 2) = .int .i64 x2 ∧ a.eval (.tmp 3) = .int .u8 ↑b.toNat ∧ a.eval (.tmp 4) = .int .i64 x4 ∧ a.eval (.tmp 11) = .int .i64 ↑kz ∧ a.eval (.tmp 12) = .pointer (some ⟨mb, 0, none⟩) ∧ a.eval (.tmp 13) = .pointer (some ⟨db, 0, none⟩) ∧ ∃ (i : Nat) (La Lb : Int → Option Sec) (M : Mn) (D1 D2 : Option Addr) (c1 c2 : Nat), a.eval (.tmp 15) = .slice D1 i c1 ∧ a.eval (.tmp 16) = .slice D2 i c2 ∧ a.eval (.tmp 17) = .int .i64 ↑i ∧ i ≤ 20 ∧ M.Free ∧ M.Ok (1 + 9 * (i : Int)) ∧ (∀ z, z < i → ckC kz La Lb z = List.replicate (16 * kz) (UInt8.ofNat (z + 1))) ∧ OwnT W0.heap.size W0 [tDisc p mb B (10 * kz) cap bm (zz (10 * kz)) La, tMn mb M, tDisc p2 mb B2 (10 * kz + 3) cap2 bm2 (zz (10 * kz + 3)) Lb, tBlk db 149 #[.pointer (some ⟨p, 0, none⟩), .pointer (some ⟨p2, 0, none⟩), .int .i64 ↑kz], tRow 90 2 (.slice D1 i c1) i ((List.range i).flatMap encS), tRow 9 1 (.slice D2 i c2) i (strsV (txI kz i))] w) (fun a w => 20 - (intOf (a.eval (.tmp 17))).toNat) ?_ ?_
  · exact ⟨k, e1, e2, e3, e4, e11, e12, e13, 0, _, _, _, _, _, _, _, e15, e16, e17, Nat.zero_le _, mn0_free, mn0_ok.mono (by omega), (fun z hz => absurd hz (Nat.not_lt_zero _)), O⟩
  intro a43 w44 hI
  clear k e1 e2 e3 e4 e11 e12 e13
  obtain ⟨k, e1, e2, e3, e4, e11, e12, e13, h_⟩ := hI
  clear O e15 e16 e17
  obtain ⟨i, La, Lb, M, D1, D2, c1, c2, e15, e16, e17, hi, hF, hM, hinv, O⟩ := h_
  have mi := e17
  by_cases hlt : i < 20
  · have hltI : (i : Int) < 20 := by omega
    obtain ⟨t, ht⟩ : ∃ y, i / 10 = y := ⟨_, rfl⟩
    obtain ⟨s, hs⟩ : ∃ y, i % 10 = y := ⟨_, rfl⟩
    obtain ⟨bb, hb1, hbb⟩ : ∃ b : UInt8, UInt8.ofNat (i + 1) = b ∧ (b.toNat : Int) = (i : Int) + 1 := ⟨_, rfl, by simp; omega⟩
    
    refine wp_seq ?_
    refine wp_seq ?_
    refine wp_region_lit ?_
    have hE := Env.refl a43 [55, 56]
    apply sq_det 55 hE k rfl (by rfl) (by rfl) rfl
    case h =>
      exact x_move rfl (hE.eval 17 (by rfl) e17)
    intro a45 hE e55 kp
    apply sq_det 56 hE k rfl (by rfl) (by rfl) rfl
    case h =>
      exact x_dec (x_lss rfl e55 rfl) (decide_eq_true (by omega))
    intro a46 hE e56 kp
    refine wpList_nil ?_
    replace e1 := hE.eval 1 (by rfl) e1
    replace e2 := hE.eval 2 (by rfl) e2
    replace e3 := hE.eval 3 (by rfl) e3
    replace e4 := hE.eval 4 (by rfl) e4
    replace e11 := hE.eval 11 (by rfl) e11
    replace e12 := hE.eval 12 (by rfl) e12
    replace e13 := hE.eval 13 (by rfl) e13
    replace e15 := hE.eval 15 (by rfl) e15
    replace e16 := hE.eval 16 (by rfl) e16
    replace e17 := hE.eval 17 (by rfl) e17
    replace k := k.env hE
    clear hE
    refine then_n ?_
    refine cond_t e56 rfl ?_
    refine wp_skip ?_
    refine then_n ?_
    refine wp_seq ?_
    refine wp_block ?_
    refine wp_seq ?_
    refine wp_region_lit ?_
    have hE := Env.refl a46 [59, 60, 61, 62, 63, 18]
    apply sq_det 59 hE k rfl (by rfl) (by rfl) rfl
    case h =>
      exact x_move rfl (hE.eval 17 (by rfl) e17)
    intro a47 hE e59 kp
    apply sq_det 60 hE k rfl (by rfl) (by rfl) rfl
    case h =>
      exact x_quoN (m := i) (j := 10) rfl e59 rfl rfl (by decide) (by omega)
    intro a48 hE e60 kp
    replace e60 := e60.trans (int_eq (show ((i / 10 : Nat) : Int) = (t : Int) by rw [ht]))
    apply sq_det 61 hE k rfl (by rfl) (by rfl) rfl
    case h =>
      exact x_move rfl (hE.eval 17 (by rfl) e17)
    intro a49 hE e61 kp
    replace e60 := (kp 60 rfl).trans e60
    apply sq_det 62 hE k rfl (by rfl) (by rfl) rfl
    case h =>
      exact x_remN (m := i) (j := 10) rfl e61 rfl rfl (by decide)
    intro a50 hE e62 kp
    replace e60 := (kp 60 rfl).trans e60
    replace e62 := e62.trans (int_eq (show ((i % 10 : Nat) : Int) = (s : Int) by rw [hs]))
    apply sq_det 63 hE k rfl (by rfl) (by rfl) rfl
    case h =>
      simp [go_sem, BigFrame.eval_const, BigFrame.eval_global, BigFrame.eval_func, ↓IntWalk.iteOmega, ev e60, ev e62]
      with_reducible rfl
    intro a51 hE e63 kp
    refine sq_new O (cs := #[.int .i64 0, .int .i64 0]) (t := 90) 18 hE k rfl (by rfl) (by rfl) rfl (by simp [go_sem, BigFrame.eval_const, BigFrame.eval_global, BigFrame.eval_func, ↓IntWalk.iteOmega]) ?_
    clear O
    intro sb a52 w53 O hE e18 kp
    replace e63 := (kp 63 rfl).trans e63
    have q0 : w53.cell? ⟨sb, 0, none⟩ = some (.int .i64 0) := (OwnT.blk O 0 rfl).cell 0
    have z0 : w53.frozen? ⟨sb, 0, none⟩ = false := (OwnT.blk O 0 rfl).frozen 0
    have q1 : w53.cell? ⟨sb, 1, none⟩ = some (.int .i64 0) := (OwnT.blk O 0 rfl).cell 1
    have z1 : w53.frozen? ⟨sb, 1, none⟩ = false := (OwnT.blk O 0 rfl).frozen 1
    refine sq_unit (w' := ((w53.setCell ⟨sb, 0, none⟩ (.int .i64 ↑t)).setCell ⟨sb, 1, none⟩ (.int .i64 ↑s))) hE rfl rfl (by simp [go_sem, BigFrame.eval_const, BigFrame.eval_global, BigFrame.eval_func, ↓IntWalk.iteOmega, ev e18, ev e63, q0, z0, q1, z1]) ?_
    replace O := OwnT.push 0 rfl (((OwnT.pull O 0 rfl).set 0 (.int .i64 ↑t)).set 1 (.int .i64 ↑s))
    clear q0 z0 q1 z1
    generalize ((w53.setCell ⟨sb, 0, none⟩ (.int .i64 ↑t)).setCell ⟨sb, 1, none⟩ (.int .i64 ↑s)) = w54 at O ⊢
    replace O : OwnT _ _ ([tBlk sb 90 #[.int .i64 ↑t, .int .i64 ↑s], tDisc p mb B (10 * kz) cap bm (zz (10 * kz)) La, tMn mb M, tDisc p2 mb B2 (10 * kz + 3) cap2 bm2 (zz (10 * kz + 3)) Lb, tBlk db 149 #[.pointer (some ⟨p, 0, none⟩), .pointer (some ⟨p2, 0, none⟩), .int .i64 ↑kz], tRow 90 2 (.slice D1 i c1) i ((List.range i).flatMap encS), tRow 9 1 (.slice D2 i c2) i (strsV (txI kz i))]) w54 := O
    refine wpList_nil ?_
    replace e1 := hE.eval 1 (by rfl) e1
    replace e2 := hE.eval 2 (by rfl) e2
    replace e3 := hE.eval 3 (by rfl) e3
    replace e4 := hE.eval 4 (by rfl) e4
    replace e11 := hE.eval 11 (by rfl) e11
    replace e12 := hE.eval 12 (by rfl) e12
    replace e13 := hE.eval 13 (by rfl) e13
    replace e15 := hE.eval 15 (by rfl) e15
    replace e16 := hE.eval 16 (by rfl) e16
    replace e17 := hE.eval 17 (by rfl) e17
    replace k := k.env hE
    clear hE e56 e63
    refine then_n ?_
    replace O : OwnT _ _ ([tDisc p mb B (10 * kz) cap bm (zz (10 * kz)) La, tMn mb M, tDisc p2 mb B2 (10 * kz + 3) cap2 bm2 (zz (10 * kz + 3)) Lb, tBlk db 149 #[.pointer (some ⟨p, 0, none⟩), .pointer (some ⟨p2, 0, none⟩), .int .i64 ↑kz], tBlk sb 90 #[.int .i64 ↑t, .int .i64 ↑s], tRow 90 2 (.slice D1 i c1) i ((List.range i).flatMap encS), tRow 9 1 (.slice D2 i c2) i (strsV (txI kz i))]) w54 := OwnT.pick O [1, 2, 3, 4, 0, 5, 6] (by decide)
    refine wp_seq ?_
    refine wp_seq ?_
    refine wp_tail (w0 := w54) [[], [], [], [2], [2, 3], [], [2, 3, 4, 5], [0, 1, 2, 3, 4, 5, 6], [0, 1, 2, 3, 4, 5, 6, 7]] [64, 65, 66, 67, 68, 69, 70] (by kernel_rfl) ?_
    apply BuildL.det 64 (fun _ w_ => Ext.refl w_) (fun _ _ h => h) (by rfl) (by rw [k.size]; rfl) rfl
    case h =>
      intro lx ax wx hE hR hF
      exact x_move rfl (hE.eval 13 (by rfl) e13)
    apply BuildL.det 65 (fun _ w_ => Ext.refl w_) (fun _ _ h => h) (by rfl) (by rw [k.size]; rfl) rfl
    case h =>
      intro lx ax wx hE hR hF
      have q0 : wx.cell? ⟨sb, 0, none⟩ = some (.int .i64 ↑t) := (OwnT.blk (OwnT.ext O hR) 4 rfl).cell 0
      have q1 : wx.cell? ⟨sb, 1, none⟩ = some (.int .i64 ↑s) := (OwnT.blk (OwnT.ext O hR) 4 rfl).cell 1
      simp [go_sem, BigFrame.eval_const, BigFrame.eval_global, BigFrame.eval_func, ↓IntWalk.iteOmega, ev (hE.eval 18 (by rfl) e18), q0, q1]
      with_reducible rfl
    apply BuildL.det 66 (fun _ w_ => Ext.refl w_) (fun _ _ h => h) (by rfl) (by rw [k.size]; rfl) rfl
    case h =>
      intro lx ax wx hE hR hF
      exact x_move rfl (hE.eval 17 (by rfl) e17)
    apply BuildL.det 67 (fun _ w_ => Ext.refl w_) (fun _ _ h => h) (by rfl) (by rw [k.size]; rfl) rfl
    case h =>
      intro lx ax wx hE hR hF
      have e66 : ax.eval (.tmp 66) = _ := hF 2 (detL 2 66 _) (by decide) (.head _)
      exact x_add rfl e66 rfl (by omega)
    apply BuildL.det 68 (fun _ w_ => Ext.refl w_) (fun _ _ h => h) (by rfl) (by rw [k.size]; rfl) rfl
    case h =>
      intro lx ax wx hE hR hF
      have e67 : ax.eval (.tmp 67) = _ := hF 3 (detL 3 67 _) (by decide) (.head _)
      exact x_val (v := .int .u8 (bb.toNat : Int)) (x_conv rfl e67 (conv_u8i ((i : Int) + 1) _ (by omega))) (int_eq hbb.symm)
    apply BuildL.det 69 (fun _ w_ => Ext.refl w_) (fun _ _ h => h) (by rfl) (by rw [k.size]; rfl) rfl
    case h =>
      intro lx ax wx hE hR hF
      exact x_move rfl (hE.eval 11 (by rfl) e11)
    apply BuildL.call 70 (by rfl) (by rw [k.size]; rfl) rfl
    case h =>
      intro lx ax wx hE hR hF
      have e68 : ax.eval (.tmp 68) = _ := hF 4 (detL 4 68 _) (by decide) (.tail _ (.head _))
      have e69 : ax.eval (.tmp 69) = _ := hF 5 (detL 5 69 _) (by decide) (.head _)
      simp [go_sem, BigFrame.eval_const, BigFrame.eval_global, BigFrame.eval_func, ↓IntWalk.iteOmega, ev e68, ev e69]
      with_reducible exact ⟨rfl, rfl⟩
    case hc => intro lx wx hR _ _; exact (fill18_any bb kz (by omega) wx).mono (fun e w' h => ⟨h.1, h.2, Ext.trans hR h.2⟩)
    apply BuildL.stop
    refine ⟨by kernel_rfl, ?_⟩
    intro lx a55 w56 hE R hL hF
    have e64 : a55.eval (.tmp 64) = _ := hF 0 (detL 0 64 _) (.tail _ (.tail _ (.tail _ (.tail _ (.tail _ (.tail _ (.head _)))))))
    have e65 : a55.eval (.tmp 65) = _ := hF 1 (detL 1 65 _) (.tail _ (.tail _ (.tail _ (.tail _ (.tail _ (.head _))))))
    have e70 : a55.eval (.tmp 70) = _ := hF 6 (detL 6 70 _) (.head _)
    clear hF hL
    replace O := OwnT.ext O R
    clear R
    simp only [List.length_cons, List.length_nil, Nat.zero_add, Nat.reduceAdd, List.drop_succ_cons, List.drop_zero, List.drop_nil, tailOps]
    apply tail_call 71 [64, 65, 66, 67, 68, 69, 70, 71] hE k rfl (by rfl) (by rfl) (by rfl)
    case h =>
      simp [go_sem, BigFrame.eval_const, BigFrame.eval_global, BigFrame.eval_func, ↓IntWalk.iteOmega, ev e64, ev e65, ev e70]
      with_reducible exact ⟨rfl, rfl⟩
    case hc => exact kwrite i t s 0 kz (List.replicate (16 * kz) bb) _ O hlt ht hs hk List.length_replicate (by omega) hM (by omega) hF
    clear O
    rintro e w57 ⟨rfl, La', Lb', M', hF', hM', hW, O⟩
    refine ⟨_, rfl, ?_⟩
    intro a58 hE e71 kp
    apply tail_val (w' := w57) 72 [64, 65, 66, 67, 68, 69, 70, 71, 72] hE k rfl (by rfl) (by rfl) (by rfl)
    case h =>
      exact x_neq rfl e71 rfl
    intro a59 hE e72 kp
    replace e1 := hE.eval 1 (by rfl) e1
    replace e2 := hE.eval 2 (by rfl) e2
    replace e3 := hE.eval 3 (by rfl) e3
    replace e4 := hE.eval 4 (by rfl) e4
    replace e11 := hE.eval 11 (by rfl) e11
    replace e12 := hE.eval 12 (by rfl) e12
    replace e13 := hE.eval 13 (by rfl) e13
    replace e15 := hE.eval 15 (by rfl) e15
    replace e16 := hE.eval 16 (by rfl) e16
    replace e17 := hE.eval 17 (by rfl) e17
    replace e18 := hE.eval 18 (by rfl) e18
    replace k := k.env hE
    clear hE
    refine then_n ?_
    refine cond_f e72 rfl ?_
    refine wp_skip ?_
    refine then_n ?_
    replace O : OwnT _ _ ([tRow 90 2 (.slice D1 i c1) i ((List.range i).flatMap encS), tRow 9 1 (.slice D2 i c2) i (strsV (txI kz i)), tDisc p mb B (10 * kz) cap bm (zz (10 * kz)) La', tMn mb M', tDisc p2 mb B2 (10 * kz + 3) cap2 bm2 (zz (10 * kz + 3)) Lb', tBlk db 149 #[.pointer (some ⟨p, 0, none⟩), .pointer (some ⟨p2, 0, none⟩), .int .i64 ↑kz], tBlk sb 90 #[.int .i64 ↑t, .int .i64 ↑s]]) w57 := OwnT.pick O [5, 6, 0, 1, 2, 3, 4] (by decide)
    refine wp_seq ?_
    refine wp_region_lit ?_
    have hE := Env.refl a59 [73, 74, 75, 76, 15]
    apply sq_det 73 hE k rfl (by rfl) (by rfl) rfl
    case h =>
      exact x_move rfl e15
    intro a60 hE e73 kp
    replace e15 := (kp 15 rfl).trans e15
    apply sq_det 74 hE k rfl (by rfl) (by rfl) rfl
    case h =>
      have q0 : w57.cell? ⟨sb, 0, none⟩ = some (.int .i64 ↑t) := (OwnT.blk O 6 rfl).cell 0
      have q1 : w57.cell? ⟨sb, 1, none⟩ = some (.int .i64 ↑s) := (OwnT.blk O 6 rfl).cell 1
      simp [go_sem, BigFrame.eval_const, BigFrame.eval_global, BigFrame.eval_func, ↓IntWalk.iteOmega, ev (hE.eval 18 (by rfl) e18), q0, q1]
      with_reducible rfl
    intro a61 hE e74 kp
    replace e15 := (kp 15 rfl).trans e15
    replace e73 := (kp 73 rfl).trans e73
    refine sq_news (m := 1) (c := 1) O (cs := #[.int .i64 ↑t, .int .i64 ↑s]) (t := 90) 75 hE k rfl (by rfl) (by rfl) rfl (by simp [go_sem, BigFrame.eval_const, BigFrame.eval_global, BigFrame.eval_func, ↓IntWalk.iteOmega, ev e74]) ?_
    clear O
    intro g3 a62 w63 O hE e75 kp
    replace e15 := (kp 15 rfl).trans e15
    replace e73 := (kp 73 rfl).trans e73
    obtain ⟨gr1, cr1, w64, hrun, O⟩ := app_seq O elemP (by decide) rfl (by intro u hu; simp at hu; rcases hu with rfl | rfl <;> rfl) (by unfold maxLen; omega) (by omega)
    apply sq_val 76 hE k rfl (by rfl) (by rfl) rfl
    case h => exact x_append rfl e73 e75 (hrun _)
    clear hrun
    intro a65 hE e76 kp
    replace e15 := (kp 15 rfl).trans e15
    apply sq_det 15 hE k rfl (by rfl) (by rfl) rfl
    case h =>
      exact x_assign rfl e76
    intro a66 hE e15 kp
    refine wpList_nil ?_
    replace e1 := hE.eval 1 (by rfl) e1
    replace e2 := hE.eval 2 (by rfl) e2
    replace e3 := hE.eval 3 (by rfl) e3
    replace e4 := hE.eval 4 (by rfl) e4
    replace e11 := hE.eval 11 (by rfl) e11
    replace e12 := hE.eval 12 (by rfl) e12
    replace e13 := hE.eval 13 (by rfl) e13
    replace e16 := hE.eval 16 (by rfl) e16
    replace e17 := hE.eval 17 (by rfl) e17
    replace k := k.env hE
    clear hE e18 e72
    refine then_n ?_
    replace O : OwnT _ _ ([tRow 9 1 (.slice D2 i c2) i (strsV (txI kz i)), tRow 90 2 (.slice (some ⟨gr1, 0, none⟩) ((i + 1)) cr1) (i + 1) (((List.range i).flatMap encS) ++ [Value.int .i64 (t : Int), Value.int .i64 (s : Int)]), tDisc p mb B (10 * kz) cap bm (zz (10 * kz)) La', tMn mb M', tDisc p2 mb B2 (10 * kz + 3) cap2 bm2 (zz (10 * kz + 3)) Lb', tBlk db 149 #[.pointer (some ⟨p, 0, none⟩), .pointer (some ⟨p2, 0, none⟩), .int .i64 ↑kz]]) w64 := OwnT.pick O [1, 0, 2, 3, 4, 5] (by decide)
    refine wp_region_lit ?_
    have hE := Env.refl a66 [77, 78, 79, 80, 81, 82, 83, 84, 16]
    apply sq_det 77 hE k rfl (by rfl) (by rfl) rfl
    case h =>
      exact x_move rfl e16
    intro a67 hE e77 kp
    replace e16 := (kp 16 rfl).trans e16
    apply sq_det 78 hE k rfl (by rfl) (by rfl) rfl
    case h =>
      exact x_move rfl (hE.eval 17 (by rfl) e17)
    intro a68 hE e78 kp
    replace e16 := (kp 16 rfl).trans e16
    replace e77 := (kp 77 rfl).trans e77
    apply sq_det 79 hE k rfl (by rfl) (by rfl) rfl
    case h =>
      exact x_add rfl e78 rfl (by omega)
    intro a69 hE e79 kp
    replace e16 := (kp 16 rfl).trans e16
    replace e77 := (kp 77 rfl).trans e77
    apply sq_det 80 hE k rfl (by rfl) (by rfl) rfl
    case h =>
      exact x_conv rfl e79 (conv_u8i ((i : Int) + 1) _ (by omega))
    intro a70 hE e80 kp
    replace e16 := (kp 16 rfl).trans e16
    replace e77 := (kp 77 rfl).trans e77
    replace e80 := e80.trans (int_eq hbb.symm)
    apply sq_det 81 hE k rfl (by rfl) (by rfl) rfl
    case h =>
      exact x_move rfl (hE.eval 11 (by rfl) e11)
    intro a71 hE e81 kp
    replace e16 := (kp 16 rfl).trans e16
    replace e77 := (kp 77 rfl).trans e77
    replace e80 := (kp 80 rfl).trans e80
    apply sq_call 82 hE k rfl (by rfl) (by rfl) rfl
    case h =>
      simp [go_sem, BigFrame.eval_const, BigFrame.eval_global, BigFrame.eval_func, ↓IntWalk.iteOmega, ev e80, ev e81]
      with_reducible exact ⟨rfl, rfl⟩
    case hc => exact fill18_any bb kz (by omega) _
    rintro e w73 ⟨rfl, R⟩
    replace O := OwnT.ext O R
    refine ⟨_, rfl, ?_⟩
    intro a72 hE e82 kp
    replace e16 := (kp 16 rfl).trans e16
    replace e77 := (kp 77 rfl).trans e77
    refine sq_news (m := 1) (c := 1) O (cs := #[.string (sB (List.replicate (16 * kz) bb))]) (t := 9) 83 hE k rfl (by rfl) (by rfl) rfl (by simp [go_sem, BigFrame.eval_const, BigFrame.eval_global, BigFrame.eval_func, ↓IntWalk.iteOmega, ev e82]) ?_
    clear O
    intro g4 a74 w75 O hE e83 kp
    replace e16 := (kp 16 rfl).trans e16
    replace e77 := (kp 77 rfl).trans e77
    obtain ⟨gr2, cr2, w76, hrun, O⟩ := app_seq O elemS' (by decide) rfl (by intro u hu; simp at hu; subst hu; rfl) (by unfold maxLen; omega) (by omega)
    apply sq_val 84 hE k rfl (by rfl) (by rfl) rfl
    case h => exact x_append rfl e77 e83 (hrun _)
    clear hrun
    intro a77 hE e84 kp
    replace e16 := (kp 16 rfl).trans e16
    apply sq_det 16 hE k rfl (by rfl) (by rfl) rfl
    case h =>
      exact x_assign rfl e84
    intro a78 hE e16 kp
    refine wpList_nil ?_
    replace e1 := hE.eval 1 (by rfl) e1
    replace e2 := hE.eval 2 (by rfl) e2
    replace e3 := hE.eval 3 (by rfl) e3
    replace e4 := hE.eval 4 (by rfl) e4
    replace e11 := hE.eval 11 (by rfl) e11
    replace e12 := hE.eval 12 (by rfl) e12
    replace e13 := hE.eval 13 (by rfl) e13
    replace e15 := hE.eval 15 (by rfl) e15
    replace e17 := hE.eval 17 (by rfl) e17
    replace k := k.env hE
    clear hE
    refine block_n ?_
    refine then_n ?_
    replace O : OwnT _ _ ([tDisc p mb B (10 * kz) cap bm (zz (10 * kz)) La', tMn mb M', tDisc p2 mb B2 (10 * kz + 3) cap2 bm2 (zz (10 * kz + 3)) Lb', tBlk db 149 #[.pointer (some ⟨p, 0, none⟩), .pointer (some ⟨p2, 0, none⟩), .int .i64 ↑kz], tRow 90 2 (.slice (some ⟨gr1, 0, none⟩) ((i + 1)) cr1) (i + 1) (((List.range i).flatMap encS) ++ [Value.int .i64 (t : Int), Value.int .i64 (s : Int)]), tRow 9 1 (.slice (some ⟨gr2, 0, none⟩) ((i + 1)) cr2) (i + 1) ((strsV (txI kz i)) ++ [Value.string (sB (List.replicate (16 * kz) bb))])]) w76 := OwnT.pick O [2, 3, 4, 5, 1, 0] (by decide)
    refine wp_region_lit ?_
    have hE := Env.refl a78 [57, 58, 17]
    apply sq_det 57 hE k rfl (by rfl) (by rfl) rfl
    case h =>
      exact x_move rfl e17
    intro a79 hE e57 kp
    replace e17 := (kp 17 rfl).trans e17
    apply sq_det 58 hE k rfl (by rfl) (by rfl) rfl
    case h =>
      exact x_add rfl e57 rfl (by omega)
    intro a80 hE e58 kp
    replace e17 := (kp 17 rfl).trans e17
    apply sq_det 17 hE k rfl (by rfl) (by rfl) rfl
    case h =>
      exact x_assign rfl e58
    intro a81 hE e17 kp
    refine wpList_nil ?_
    replace e1 := hE.eval 1 (by rfl) e1
    replace e2 := hE.eval 2 (by rfl) e2
    replace e3 := hE.eval 3 (by rfl) e3
    replace e4 := hE.eval 4 (by rfl) e4
    replace e11 := hE.eval 11 (by rfl) e11
    replace e12 := hE.eval 12 (by rfl) e12
    replace e13 := hE.eval 13 (by rfl) e13
    replace e15 := hE.eval 15 (by rfl) e15
    replace e16 := hE.eval 16 (by rfl) e16
    replace k := k.env hE
    clear hE
    refine then_n ?_
    rw [show (List.range i).flatMap encS ++ [Value.int .i64 (t : Int), Value.int .i64 (s : Int)] = (List.range (i + 1)).flatMap encS by rw [List.range_succ, List.flatMap_append, ← ht, ← hs]; simp [encS], show strsV (txI kz i) ++ [Value.string (sB (List.replicate (16 * kz) bb))] = strsV (txI kz (i + 1)) by rw [txI_succ, strsV_app, hb1]; rfl] at O
    
    refine ⟨⟨k, e1, e2, e3, e4, e11, e12, e13, i + 1, La', Lb', M', some ⟨gr1, 0, none⟩, some ⟨gr2, 0, none⟩, cr1, cr2, e15, e16, e17, by omega, hF', hM'.mono (by omega), fun z hz => ?_, O⟩, ?_⟩
    · by_cases e : z = i
      · subst e; rw [ck_all hW List.length_replicate, hb1]
      · rw [ck_other hW (by omega) e]; exact hinv z (by omega)
    · rw [e17, mi]; simp only [intOf]; omega
  · have hltI : ¬ (i : Int) < 20 := by omega
    obtain rfl : i = 20 := by omega
    obtain ⟨Tx, hTx, hT, hTl⟩ : ∃ Tx : List Sec, txI kz 20 = Tx ∧ (∀ z, z < 20 → Tx[z]? = some (ckC kz La Lb z)) ∧ Tx.length = 20 := ⟨_, rfl, fun z hz => by rw [txI_at hz, hinv z hz], by simp [txI]⟩
    rw [hTx] at O
    obtain ⟨g1, z1, cur, h1, -⟩ := row_some (OwnT.get O 4 rfl) (by decide)
    injection h1 with h1 _ h1'
    subst h1 h1'
    obtain ⟨g2, z2, h2, -⟩ := row1_some (OwnT.get O 5 rfl) (by decide)
    injection h2 with h2 _ h2'
    subst h2 h2'
    clear hinv hTx
    obtain ⟨wz, hwz⟩ : ∃ m, uN x1 % 20 = m := ⟨_, rfl⟩
    obtain ⟨oz, hoz⟩ : ∃ m, uN x2 % 20 = m := ⟨_, rfl⟩
    obtain ⟨q3, hq3⟩ : ∃ m, uN x4 % 3 = m := ⟨_, rfl⟩
    have hw20 : wz < 20 := by omega
    have ho20 : oz < 20 := by omega
    obtain ⟨wzt, hwzt⟩ : ∃ y, wz / 10 = y := ⟨_, rfl⟩
    obtain ⟨wzs, hwzs⟩ : ∃ y, wz % 10 = y := ⟨_, rfl⟩
    obtain ⟨ozt, hozt⟩ : ∃ y, oz / 10 = y := ⟨_, rfl⟩
    obtain ⟨ozs, hozs⟩ : ∃ y, oz % 10 = y := ⟨_, rfl⟩
    
    refine wp_seq ?_
    refine wp_seq ?_
    refine wp_region_lit ?_
    have hE := Env.refl a43 [55, 56]
    apply sq_det 55 hE k rfl (by rfl) (by rfl) rfl
    case h =>
      exact x_move rfl (hE.eval 17 (by rfl) e17)
    intro a82 hE e55 kp
    apply sq_det 56 hE k rfl (by rfl) (by rfl) rfl
    case h =>
      exact x_dec (x_lss rfl e55 rfl) (decide_eq_false (by omega))
    intro a83 hE e56 kp
    refine wpList_nil ?_
    replace e1 := hE.eval 1 (by rfl) e1
    replace e2 := hE.eval 2 (by rfl) e2
    replace e3 := hE.eval 3 (by rfl) e3
    replace e4 := hE.eval 4 (by rfl) e4
    replace e11 := hE.eval 11 (by rfl) e11
    replace e12 := hE.eval 12 (by rfl) e12
    replace e13 := hE.eval 13 (by rfl) e13
    replace e15 := hE.eval 15 (by rfl) e15
    replace e16 := hE.eval 16 (by rfl) e16
    replace e17 := hE.eval 17 (by rfl) e17
    replace k := k.env hE
    clear hE
    refine then_n ?_
    refine cond_f e56 rfl ?_
    refine wp_exit ?_
    refine then_x ?_
    refine then_x ?_
    refine block_x ?_
    refine then_n ?_
    refine wp_seq ?_
    refine wp_region_lit ?_
    have hE := Env.refl a83 [85, 86, 87, 88, 19]
    apply sq_det 85 hE k rfl (by rfl) (by rfl) rfl
    case h =>
      exact x_move rfl (hE.eval 1 (by rfl) e1)
    intro a84 hE e85 kp
    apply sq_det 86 hE k rfl (by rfl) (by rfl) rfl
    case h =>
      exact x_conv rfl e85 (conv_uint x1 _)
    intro a85 hE e86 kp
    apply sq_det 87 hE k rfl (by rfl) (by rfl) rfl
    case h =>
      exact x_remU (m := uN x1) (j := 20) rfl e86 rfl rfl (by decide)
    intro a86 hE e87 kp
    apply sq_det 88 hE k rfl (by rfl) (by rfl) rfl
    case h =>
      exact x_conv rfl e87 (conv_int _ _ (by omega))
    intro a87 hE e88 kp
    replace e88 := e88.trans (int_eq (show ((uN x1 % 20 : Nat) : Int) = (wz : Int) by rw [hwz]))
    apply sq_det 19 hE k rfl (by rfl) (by rfl) rfl
    case h =>
      exact x_assign rfl e88
    intro a88 hE e19 kp
    refine wpList_nil ?_
    replace e2 := hE.eval 2 (by rfl) e2
    replace e3 := hE.eval 3 (by rfl) e3
    replace e4 := hE.eval 4 (by rfl) e4
    replace e11 := hE.eval 11 (by rfl) e11
    replace e12 := hE.eval 12 (by rfl) e12
    replace e13 := hE.eval 13 (by rfl) e13
    replace e15 := hE.eval 15 (by rfl) e15
    replace e16 := hE.eval 16 (by rfl) e16
    replace k := k.env hE
    clear hE e1 e17 e56
    refine then_n ?_
    refine wp_seq ?_
    refine wp_region_lit ?_
    have hE := Env.refl a88 [89, 90, 91, 92, 20]
    apply sq_det 89 hE k rfl (by rfl) (by rfl) rfl
    case h =>
      exact x_move rfl (hE.eval 2 (by rfl) e2)
    intro a89 hE e89 kp
    apply sq_det 90 hE k rfl (by rfl) (by rfl) rfl
    case h =>
      exact x_conv rfl e89 (conv_uint x2 _)
    intro a90 hE e90 kp
    apply sq_det 91 hE k rfl (by rfl) (by rfl) rfl
    case h =>
      exact x_remU (m := uN x2) (j := 20) rfl e90 rfl rfl (by decide)
    intro a91 hE e91 kp
    apply sq_det 92 hE k rfl (by rfl) (by rfl) rfl
    case h =>
      exact x_conv rfl e91 (conv_int _ _ (by omega))
    intro a92 hE e92 kp
    replace e92 := e92.trans (int_eq (show ((uN x2 % 20 : Nat) : Int) = (oz : Int) by rw [hoz]))
    apply sq_det 20 hE k rfl (by rfl) (by rfl) rfl
    case h =>
      exact x_assign rfl e92
    intro a93 hE e20 kp
    refine wpList_nil ?_
    replace e3 := hE.eval 3 (by rfl) e3
    replace e4 := hE.eval 4 (by rfl) e4
    replace e11 := hE.eval 11 (by rfl) e11
    replace e12 := hE.eval 12 (by rfl) e12
    replace e13 := hE.eval 13 (by rfl) e13
    replace e15 := hE.eval 15 (by rfl) e15
    replace e16 := hE.eval 16 (by rfl) e16
    replace e19 := hE.eval 19 (by rfl) e19
    replace k := k.env hE
    clear hE e2
    refine then_n ?_
    refine wp_seq ?_
    refine wp_seq ?_
    refine wp_region_lit ?_
    have hE := Env.refl a93 [93, 94, 95]
    apply sq_det 93 hE k rfl (by rfl) (by rfl) rfl
    case h =>
      exact x_move rfl (hE.eval 4 (by rfl) e4)
    intro a94 hE e93 kp
    apply sq_det 94 hE k rfl (by rfl) (by rfl) rfl
    case h =>
      exact x_conv rfl e93 (conv_uint x4 _)
    intro a95 hE e94 kp
    apply sq_det 95 hE k rfl (by rfl) (by rfl) rfl
    case h =>
      exact x_remU (m := uN x4) (j := 3) rfl e94 rfl rfl (by decide)
    intro a96 hE e95 kp
    replace e95 := e95.trans (int_eq (show ((uN x4 % 3 : Nat) : Int) = (q3 : Int) by rw [hq3]))
    refine wpList_nil ?_
    replace e3 := hE.eval 3 (by rfl) e3
    replace e11 := hE.eval 11 (by rfl) e11
    replace e12 := hE.eval 12 (by rfl) e12
    replace e13 := hE.eval 13 (by rfl) e13
    replace e15 := hE.eval 15 (by rfl) e15
    replace e16 := hE.eval 16 (by rfl) e16
    replace e19 := hE.eval 19 (by rfl) e19
    replace e20 := hE.eval 20 (by rfl) e20
    replace k := k.env hE
    clear hE e4
    refine then_n ?_
    refine wp_block ?_
    have hDA := (OwnT.discAt O 0 rfl).ok
    have hDB := (OwnT.discAt O 2 rfl).ok
    have h3 : q3 = 0 ∨ q3 = 1 ∨ q3 = 2 := by omega
    rcases h3 with rfl | rfl | rfl
    · skip
      obtain ⟨k1, hk1⟩ : ∃ y, kz - 1 = y := ⟨_, rfl⟩
      refine wp_seq ?_
      refine wp_region_lit ?_
      have hE := Env.refl a96 [109, 108]
      apply sq_det 109 hE k rfl (by rfl) (by rfl) rfl
      case h =>
        exact x_eql rfl (hE.eval 95 (by rfl) e95) rfl
      intro a97 hE e109 kp
      apply sq_det 108 hE k rfl (by rfl) (by rfl) rfl
      case h =>
        exact x_assign rfl e109
      intro a98 hE e108 kp
      refine wpList_nil ?_
      replace e3 := hE.eval 3 (by rfl) e3
      replace e11 := hE.eval 11 (by rfl) e11
      replace e12 := hE.eval 12 (by rfl) e12
      replace e13 := hE.eval 13 (by rfl) e13
      replace e15 := hE.eval 15 (by rfl) e15
      replace e16 := hE.eval 16 (by rfl) e16
      replace e19 := hE.eval 19 (by rfl) e19
      replace e20 := hE.eval 20 (by rfl) e20
      replace e95 := hE.eval 95 (by rfl) e95
      replace k := k.env hE
      clear hE
      refine then_n ?_
      refine cond_t e108 rfl ?_
      refine wp_seq ?_
      refine wp_seq ?_
      refine wp_tail (w0 := w44) [[], [], [], [1, 2], [1, 2, 3], [], [5], [], [7], [0, 1, 2, 3, 4, 5, 6, 7, 8], [0, 1, 2, 3, 4, 5, 6, 7, 8, 9]] [110, 111, 112, 113, 114, 115, 116, 117, 118] (by kernel_rfl) ?_
      apply BuildL.det 110 (fun _ w_ => Ext.refl w_) (fun _ _ h => h) (by rfl) (by rw [k.size]; rfl) rfl
      case h =>
        intro lx ax wx hE hR hF
        exact x_move rfl (hE.eval 13 (by rfl) e13)
      apply BuildL.det 111 (fun _ w_ => Ext.refl w_) (fun _ _ h => h) (by rfl) (by rw [k.size]; rfl) rfl
      case h =>
        intro lx ax wx hE hR hF
        exact x_move rfl (hE.eval 15 (by rfl) e15)
      apply BuildL.det 112 (fun _ w_ => Ext.refl w_) (fun _ _ h => h) (by rfl) (by rw [k.size]; rfl) rfl
      case h =>
        intro lx ax wx hE hR hF
        exact x_move rfl (hE.eval 19 (by rfl) e19)
      apply BuildL.det 113 (fun _ w_ => Ext.refl w_) (fun _ _ h => h) (by rfl) (by rw [k.size]; rfl) rfl
      case h =>
        intro lx ax wx hE hR hF
        have e111 : ax.eval (.tmp 111) = _ := hF 1 (detL 1 111 _) (by decide) (.tail _ (.head _))
        have e112 : ax.eval (.tmp 112) = _ := hF 2 (detL 2 112 _) (by decide) (.head _)
        simp [go_sem, BigFrame.eval_const, BigFrame.eval_global, BigFrame.eval_func, ↓IntWalk.iteOmega, ev e111, ev e112]
        with_reducible rfl
      apply BuildL.det 114 (fun _ w_ => Ext.refl w_) (fun _ _ h => h) (by rfl) (by rw [k.size]; rfl) rfl
      case h =>
        intro lx ax wx hE hR hF
        have e113 : ax.eval (.tmp 113) = _ := hF 3 (detL 3 113 _) (by decide) (.head _)
        have cs : wx.cell? ⟨g1, wz * 2, none⟩ = some (.int .i64 (wzt : Int)) ∧ wx.cell? ⟨g1, wz * 2 + 1, none⟩ = some (.int .i64 (wzs : Int)) := by have h := spot_cell (OwnT.get (OwnT.ext O hR) 4 rfl) (z := wz) hw20; rw [hwzt, hwzs] at h; exact h
        simp [go_sem, BigFrame.eval_const, BigFrame.eval_global, BigFrame.eval_func, ↓IntWalk.iteOmega, ev e113, cs.1, cs.2]
        with_reducible rfl
      apply BuildL.det 115 (fun _ w_ => Ext.refl w_) (fun _ _ h => h) (by rfl) (by rw [k.size]; rfl) rfl
      case h =>
        intro lx ax wx hE hR hF
        exact x_move rfl (hE.eval 11 (by rfl) e11)
      apply BuildL.det 116 (fun _ w_ => Ext.refl w_) (fun _ _ h => h) (by rfl) (by rw [k.size]; rfl) rfl
      case h =>
        intro lx ax wx hE hR hF
        have e115 : ax.eval (.tmp 115) = _ := hF 5 (detL 5 115 _) (by decide) (.head _)
        exact x_val (v := .int .i64 (k1 : Int)) (x_sub rfl e115 rfl (by omega)) (int_eq (by omega))
      apply BuildL.det 117 (fun _ w_ => Ext.refl w_) (fun _ _ h => h) (by rfl) (by rw [k.size]; rfl) rfl
      case h =>
        intro lx ax wx hE hR hF
        exact x_move rfl (hE.eval 3 (by rfl) e3)
      apply BuildL.call 118 (by rfl) (by rw [k.size]; rfl) rfl
      case h =>
        intro lx ax wx hE hR hF
        have e117 : ax.eval (.tmp 117) = _ := hF 7 (detL 7 117 _) (by decide) (.head _)
        simp [go_sem, BigFrame.eval_const, BigFrame.eval_global, BigFrame.eval_func, ↓IntWalk.iteOmega, ev e117]
        with_reducible exact ⟨rfl, rfl⟩
      case hc => intro lx wx hR _ _; exact (fill18_any b 1 (by decide) wx).mono (fun e w' h => ⟨h.1, h.2, Ext.trans hR h.2⟩)
      apply BuildL.stop
      refine ⟨by kernel_rfl, ?_⟩
      intro lx a99 w100 hE R hL hF
      have e110 : a99.eval (.tmp 110) = _ := hF 0 (detL 0 110 _) (.tail _ (.tail _ (.tail _ (.tail _ (.tail _ (.tail _ (.tail _ (.tail _ (.head _)))))))))
      have e114 : a99.eval (.tmp 114) = _ := hF 4 (detL 4 114 _) (.tail _ (.tail _ (.tail _ (.tail _ (.head _)))))
      have e116 : a99.eval (.tmp 116) = _ := hF 6 (detL 6 116 _) (.tail _ (.tail _ (.head _)))
      have e118 : a99.eval (.tmp 118) = _ := hF 8 (detL 8 118 _) (.head _)
      clear hF hL
      replace O := OwnT.ext O R
      clear R
      simp only [List.length_cons, List.length_nil, Nat.zero_add, Nat.reduceAdd, List.drop_succ_cons, List.drop_zero, List.drop_nil, tailOps]
      apply tail_call 119 [110, 111, 112, 113, 114, 115, 116, 117, 118, 119] hE k rfl (by rfl) (by rfl) (by rfl)
      case h =>
        simp [go_sem, BigFrame.eval_const, BigFrame.eval_global, BigFrame.eval_func, ↓IntWalk.iteOmega, ev e110, ev e114, ev e116, ev e118]
        with_reducible exact ⟨rfl, rfl⟩
      case hc => exact kwrite wz wzt wzs k1 1 (List.replicate (16 * 1) b) _ O hw20 hwzt hwzs hk rfl (by omega) hM (by omega) hF
      clear O
      rintro e w101 ⟨rfl, La', Lb', M', hF', hM', hW, O⟩
      refine ⟨_, rfl, ?_⟩
      intro a102 hE e119 kp
      apply tail_val (w' := w101) 120 [110, 111, 112, 113, 114, 115, 116, 117, 118, 119, 120] hE k rfl (by rfl) (by rfl) (by rfl)
      case h =>
        exact x_neq rfl e119 rfl
      intro a103 hE e120 kp
      replace e3 := hE.eval 3 (by rfl) e3
      replace e11 := hE.eval 11 (by rfl) e11
      replace e12 := hE.eval 12 (by rfl) e12
      replace e13 := hE.eval 13 (by rfl) e13
      replace e15 := hE.eval 15 (by rfl) e15
      replace e16 := hE.eval 16 (by rfl) e16
      replace e19 := hE.eval 19 (by rfl) e19
      replace k := k.env hE
      clear hE e20 e95 e108
      refine then_n ?_
      refine cond_f e120 rfl ?_
      refine wp_skip ?_
      refine then_n ?_
      obtain ⟨hA, hB⟩ : DOk (10 * kz) (zz (10 * kz)) La ∧ DOk (10 * kz + 3) (zz (10 * kz + 3)) Lb := ⟨hDA, hDB⟩
      have hlast := ck_last (hk1 ▸ hW) hk.1 hw20 rfl hA hB
      rw [hk1] at hlast
      obtain ⟨hT', hTl'⟩ := tx_set hT hTl hw20 hW (by omega) hlast
      have hcl := ck_len hw20 hA hB
      
      refine wp_typed (R := Ext) (w0 := w101) [[], [], [], [], [2, 3], [2, 3, 4], [], [6], [6, 7], [2, 3, 4, 5, 6, 7, 8], [], [10], [2, 3, 4, 5, 6, 7, 8, 9, 10, 11], [0, 1, 2, 3, 4, 5, 6, 7, 8, 9, 10, 11, 12], [0, 1, 2, 3, 4, 5, 6, 7, 8, 9, 10, 11, 12, 13]] [121, 122, 123, 124, 125, 126, 127, 128, 129, 130, 131, 132, 133, 134] Ext.refl (fun _ _ _ => Ext.trans) (Ext.drew _) (by kernel_rfl) ?_
      apply Build.det 121 Ext.refl (by rfl) (by rw [k.size]; rfl) rfl
      case h =>
        intro ax wx hE hR hF
        exact x_move rfl (hE.eval 16 (by rfl) e16)
      apply Build.det 122 Ext.refl (by rfl) (by rw [k.size]; rfl) rfl
      case h =>
        intro ax wx hE hR hF
        exact x_move rfl (hE.eval 19 (by rfl) e19)
      apply Build.det 123 Ext.refl (by rfl) (by rw [k.size]; rfl) rfl
      case h =>
        intro ax wx hE hR hF
        exact x_move rfl (hE.eval 16 (by rfl) e16)
      apply Build.det 124 Ext.refl (by rfl) (by rw [k.size]; rfl) rfl
      case h =>
        intro ax wx hE hR hF
        exact x_move rfl (hE.eval 19 (by rfl) e19)
      apply Build.det 125 Ext.refl (by rfl) (by rw [k.size]; rfl) rfl
      case h =>
        intro ax wx hE hR hF
        have e123 : ax.eval (.tmp 123) = _ := hF 2 (det 123 _) (by decide) (.tail _ (.head _))
        have e124 : ax.eval (.tmp 124) = _ := hF 3 (det 124 _) (by decide) (.head _)
        simp [go_sem, BigFrame.eval_const, BigFrame.eval_global, BigFrame.eval_func, ↓IntWalk.iteOmega, ev e123, ev e124]
        with_reducible rfl
      apply Build.det 126 Ext.refl (by rfl) (by rw [k.size]; rfl) rfl
      case h =>
        intro ax wx hE hR hF
        have e125 : ax.eval (.tmp 125) = _ := hF 4 (det 125 _) (by decide) (.head _)
        have ct := (text_cell (OwnT.get (OwnT.ext O hR) 5 rfl) (hT wz hw20)).1
        simp [go_sem, BigFrame.eval_const, BigFrame.eval_global, BigFrame.eval_func, ↓IntWalk.iteOmega, ev e125, ct]
        with_reducible rfl
      apply Build.det 127 Ext.refl (by rfl) (by rw [k.size]; rfl) rfl
      case h =>
        intro ax wx hE hR hF
        exact x_move rfl (hE.eval 11 (by rfl) e11)
      apply Build.det 128 Ext.refl (by rfl) (by rw [k.size]; rfl) rfl
      case h =>
        intro ax wx hE hR hF
        have e127 : ax.eval (.tmp 127) = _ := hF 6 (det 127 _) (by decide) (.head _)
        exact x_val (v := .int .i64 (k1 : Int)) (x_sub rfl e127 rfl (by omega)) (int_eq (by omega))
      apply Build.det 129 Ext.refl (by rfl) (by rw [k.size]; rfl) rfl
      case h =>
        intro ax wx hE hR hF
        have e128 : ax.eval (.tmp 128) = _ := hF 7 (det 128 _) (by decide) (.head _)
        exact x_val (v := .int .i64 ((16 * k1 : Nat) : Int)) (x_mul rfl rfl e128 (by omega)) (int_eq (by omega))
      apply Build.det 130 Ext.refl (by rfl) (by rw [k.size]; rfl) rfl
      case h =>
        intro ax wx hE hR hF
        have e126 : ax.eval (.tmp 126) = _ := hF 5 (det 126 _) (by decide) (.tail _ (.tail _ (.tail _ (.head _))))
        have e129 : ax.eval (.tmp 129) = _ := hF 8 (det 129 _) (by decide) (.head _)
        exact x_cut_hi (l := ckC kz La Lb wz) Try.underlying9 rfl e126 e129 (16 * k1) rfl (by omega)
      apply Build.det 131 Ext.refl (by rfl) (by rw [k.size]; rfl) rfl
      case h =>
        intro ax wx hE hR hF
        exact x_move rfl (hE.eval 3 (by rfl) e3)
      apply Build.call 132 Ext.refl (by rfl) (by rw [k.size]; rfl) rfl
      case h =>
        intro ax wx hE hR hF
        have e131 : ax.eval (.tmp 131) = _ := hF 10 (det 131 _) (by decide) (.head _)
        simp [go_sem, BigFrame.eval_const, BigFrame.eval_global, BigFrame.eval_func, ↓IntWalk.iteOmega, ev e131]
        with_reducible exact ⟨rfl, rfl⟩
      case hc => intro wx hR; exact fill18_any b 1 (by decide) wx
      apply Build.det 133 Ext.refl (by rfl) (by rw [k.size]; rfl) rfl
      case h =>
        intro ax wx hE hR hF
        have e130 : ax.eval (.tmp 130) = _ := hF 9 (det 130 _) (by decide) (.tail _ (.tail _ (.head _)))
        have e132 : ax.eval (.tmp 132) = _ := hF 11 (det 132 _) (by decide) (.head _)
        exact x_cat rfl e130 e132 (by rw [List.length_take, List.length_replicate]; omega)
      apply Build.det 134 Ext.refl (by rfl) (by rw [k.size]; rfl) rfl
      case h =>
        intro ax wx hE hR hF
        have e121 : ax.eval (.tmp 121) = _ := hF 0 (det 121 _) (by decide) (.tail _ (.tail _ (.tail _ (.tail _ (.tail _ (.tail _ (.tail _ (.tail _ (.tail _ (.tail _ (.tail _ (.tail _ (.head _)))))))))))))
        have e122 : ax.eval (.tmp 122) = _ := hF 1 (det 122 _) (by decide) (.tail _ (.tail _ (.tail _ (.tail _ (.tail _ (.tail _ (.tail _ (.tail _ (.tail _ (.tail _ (.tail _ (.head _))))))))))))
        simp [go_sem, BigFrame.eval_const, BigFrame.eval_global, BigFrame.eval_func, ↓IntWalk.iteOmega, ev e121, ev e122]
        with_reducible rfl
      apply Build.stop
      refine ⟨by kernel_rfl, .inr ⟨by kernel_rfl, _, rfl, rfl, ?_⟩⟩
      intro a104 w105 hE R hF
      have e133 : a104.eval (.tmp 133) = _ := hF 12 (det 133 _) (.tail _ (.head _))
      have e134 : a104.eval (.tmp 134) = _ := hF 13 (det 134 _) (.head _)
      clear hF
      replace O := OwnT.ext O R
      clear R
      obtain ⟨hc, hfz⟩ := text_cell (OwnT.get O 5 rfl) (hT wz hw20)
      obtain ⟨sv, hsv⟩ : ∃ sv, (ckC kz La Lb wz).take (16 * k1) ++ List.replicate (16 * 1) b = sv := ⟨_, rfl⟩
      rw [hsv] at e133 hT' hTl'
      refine last_skip (w' := w105.setCell ⟨g2, wz, none⟩ (.string (sB sv))) rfl (by simp [go_sem, BigFrame.eval_const, BigFrame.eval_global, BigFrame.eval_func, ↓IntWalk.iteOmega, ev e134, ev e133, hc, hfz]) ?_
      replace O := OwnT.push (L := [_, _, _, _, _, _]) 5 rfl ((OwnT.pull O 5 rfl).setRow1 (i := wz) hw20 (.string (sB sv)))
      clear hc hfz
      generalize (w105.setCell ⟨g2, wz, none⟩ (.string (sB sv))) = w106 at O ⊢
      rw [← strsV_set] at O
      replace e11 := hE.eval 11 (by rfl) e11
      replace e12 := hE.eval 12 (by rfl) e12
      replace e13 := hE.eval 13 (by rfl) e13
      replace e15 := hE.eval 15 (by rfl) e15
      replace e16 := hE.eval 16 (by rfl) e16
      replace k := k.env hE
      clear hE e3 e19 e120 e133 e134
      refine block_n ?_
      refine then_n ?_
      refine apart_end _ _ k e11 e12 e13 e15 e16 O hk hF' hT' ?_
      intro a9 w9 k e10 hb
      refine ret_F1 rfl k e10 ?_
      exact ⟨rfl, hb⟩
    · skip
      refine wp_seq ?_
      refine wp_region_lit ?_
      have hE := Env.refl a96 [109, 108]
      apply sq_det 109 hE k rfl (by rfl) (by rfl) rfl
      case h =>
        exact x_eql rfl (hE.eval 95 (by rfl) e95) rfl
      intro a107 hE e109 kp
      apply sq_det 108 hE k rfl (by rfl) (by rfl) rfl
      case h =>
        exact x_assign rfl e109
      intro a108 hE e108 kp
      refine wpList_nil ?_
      replace e3 := hE.eval 3 (by rfl) e3
      replace e11 := hE.eval 11 (by rfl) e11
      replace e12 := hE.eval 12 (by rfl) e12
      replace e13 := hE.eval 13 (by rfl) e13
      replace e15 := hE.eval 15 (by rfl) e15
      replace e16 := hE.eval 16 (by rfl) e16
      replace e19 := hE.eval 19 (by rfl) e19
      replace e20 := hE.eval 20 (by rfl) e20
      replace e95 := hE.eval 95 (by rfl) e95
      replace k := k.env hE
      clear hE
      refine then_n ?_
      refine cond_f e108 rfl ?_
      refine wp_seq ?_
      refine wp_region_lit ?_
      have hE := Env.refl a108 [136, 135]
      apply sq_det 136 hE k rfl (by rfl) (by rfl) rfl
      case h =>
        exact x_eql rfl (hE.eval 95 (by rfl) e95) rfl
      intro a109 hE e136 kp
      apply sq_det 135 hE k rfl (by rfl) (by rfl) rfl
      case h =>
        exact x_assign rfl e136
      intro a110 hE e135 kp
      refine wpList_nil ?_
      replace e11 := hE.eval 11 (by rfl) e11
      replace e12 := hE.eval 12 (by rfl) e12
      replace e13 := hE.eval 13 (by rfl) e13
      replace e15 := hE.eval 15 (by rfl) e15
      replace e16 := hE.eval 16 (by rfl) e16
      replace e19 := hE.eval 19 (by rfl) e19
      replace e20 := hE.eval 20 (by rfl) e20
      replace k := k.env hE
      clear hE e3 e95 e108
      refine then_n ?_
      refine cond_t e135 rfl ?_
      refine wp_seq ?_
      refine wp_seq ?_
      refine wp_tail (w0 := w44) [[], [], [], [1, 2], [1, 2, 3], [], [], [5, 6], [5, 6, 7], [0, 1, 2, 3, 4, 5, 6, 7, 8], [0, 1, 2, 3, 4, 5, 6, 7, 8, 9]] [137, 138, 139, 140, 141, 142, 143, 144, 145] (by kernel_rfl) ?_
      apply BuildL.det 137 (fun _ w_ => Ext.refl w_) (fun _ _ h => h) (by rfl) (by rw [k.size]; rfl) rfl
      case h =>
        intro lx ax wx hE hR hF
        exact x_move rfl (hE.eval 13 (by rfl) e13)
      apply BuildL.det 138 (fun _ w_ => Ext.refl w_) (fun _ _ h => h) (by rfl) (by rw [k.size]; rfl) rfl
      case h =>
        intro lx ax wx hE hR hF
        exact x_move rfl (hE.eval 15 (by rfl) e15)
      apply BuildL.det 139 (fun _ w_ => Ext.refl w_) (fun _ _ h => h) (by rfl) (by rw [k.size]; rfl) rfl
      case h =>
        intro lx ax wx hE hR hF
        exact x_move rfl (hE.eval 20 (by rfl) e20)
      apply BuildL.det 140 (fun _ w_ => Ext.refl w_) (fun _ _ h => h) (by rfl) (by rw [k.size]; rfl) rfl
      case h =>
        intro lx ax wx hE hR hF
        have e138 : ax.eval (.tmp 138) = _ := hF 1 (detL 1 138 _) (by decide) (.tail _ (.head _))
        have e139 : ax.eval (.tmp 139) = _ := hF 2 (detL 2 139 _) (by decide) (.head _)
        simp [go_sem, BigFrame.eval_const, BigFrame.eval_global, BigFrame.eval_func, ↓IntWalk.iteOmega, ev e138, ev e139]
        with_reducible rfl
      apply BuildL.det 141 (fun _ w_ => Ext.refl w_) (fun _ _ h => h) (by rfl) (by rw [k.size]; rfl) rfl
      case h =>
        intro lx ax wx hE hR hF
        have e140 : ax.eval (.tmp 140) = _ := hF 3 (detL 3 140 _) (by decide) (.head _)
        have cs : wx.cell? ⟨g1, oz * 2, none⟩ = some (.int .i64 (ozt : Int)) ∧ wx.cell? ⟨g1, oz * 2 + 1, none⟩ = some (.int .i64 (ozs : Int)) := by have h := spot_cell (OwnT.get (OwnT.ext O hR) 4 rfl) (z := oz) ho20; rw [hozt, hozs] at h; exact h
        simp [go_sem, BigFrame.eval_const, BigFrame.eval_global, BigFrame.eval_func, ↓IntWalk.iteOmega, ev e140, cs.1, cs.2]
        with_reducible rfl
      apply BuildL.det 142 (fun _ w_ => Ext.refl w_) (fun _ _ h => h) (by rfl) (by rw [k.size]; rfl) rfl
      case h =>
        intro lx ax wx hE hR hF
        exact x_move rfl (hE.eval 15 (by rfl) e15)
      apply BuildL.det 143 (fun _ w_ => Ext.refl w_) (fun _ _ h => h) (by rfl) (by rw [k.size]; rfl) rfl
      case h =>
        intro lx ax wx hE hR hF
        exact x_move rfl (hE.eval 19 (by rfl) e19)
      apply BuildL.det 144 (fun _ w_ => Ext.refl w_) (fun _ _ h => h) (by rfl) (by rw [k.size]; rfl) rfl
      case h =>
        intro lx ax wx hE hR hF
        have e142 : ax.eval (.tmp 142) = _ := hF 5 (detL 5 142 _) (by decide) (.tail _ (.head _))
        have e143 : ax.eval (.tmp 143) = _ := hF 6 (detL 6 143 _) (by decide) (.head _)
        simp [go_sem, BigFrame.eval_const, BigFrame.eval_global, BigFrame.eval_func, ↓IntWalk.iteOmega, ev e142, ev e143]
        with_reducible rfl
      apply BuildL.det 145 (fun _ w_ => Ext.refl w_) (fun _ _ h => h) (by rfl) (by rw [k.size]; rfl) rfl
      case h =>
        intro lx ax wx hE hR hF
        have e144 : ax.eval (.tmp 144) = _ := hF 7 (detL 7 144 _) (by decide) (.head _)
        have cs : wx.cell? ⟨g1, wz * 2, none⟩ = some (.int .i64 (wzt : Int)) ∧ wx.cell? ⟨g1, wz * 2 + 1, none⟩ = some (.int .i64 (wzs : Int)) := by have h := spot_cell (OwnT.get (OwnT.ext O hR) 4 rfl) (z := wz) hw20; rw [hwzt, hwzs] at h; exact h
        simp [go_sem, BigFrame.eval_const, BigFrame.eval_global, BigFrame.eval_func, ↓IntWalk.iteOmega, ev e144, cs.1, cs.2]
        with_reducible rfl
      apply BuildL.stop
      refine ⟨by kernel_rfl, ?_⟩
      intro lx a111 w112 hE R hL hF
      have e137 : a111.eval (.tmp 137) = _ := hF 0 (detL 0 137 _) (.tail _ (.tail _ (.tail _ (.tail _ (.tail _ (.tail _ (.tail _ (.tail _ (.head _)))))))))
      have e141 : a111.eval (.tmp 141) = _ := hF 4 (detL 4 141 _) (.tail _ (.tail _ (.tail _ (.tail _ (.head _)))))
      have e145 : a111.eval (.tmp 145) = _ := hF 8 (detL 8 145 _) (.head _)
      clear hF hL
      replace O := OwnT.ext O R
      clear R
      simp only [List.length_cons, List.length_nil, Nat.zero_add, Nat.reduceAdd, List.drop_succ_cons, List.drop_zero, List.drop_nil, tailOps]
      apply tail_call 146 [137, 138, 139, 140, 141, 142, 143, 144, 145, 146] hE k rfl (by rfl) (by rfl) (by rfl)
      case h =>
        simp [go_sem, BigFrame.eval_const, BigFrame.eval_global, BigFrame.eval_func, ↓IntWalk.iteOmega, ev e137, ev e141, ev e145]
        with_reducible exact ⟨rfl, rfl⟩
      case hc => exact kcopy oz ozt ozs wz wzt wzs _ O ho20 hozt hozs hw20 hwzt hwzs hk hM (by omega) hF
      clear O
      rintro e w113 ⟨r, rfl, rfl, La', Lb', M', hF', hM', hW, O⟩
      refine ⟨_, rfl, ?_⟩
      intro a114 hE e146 kp
      apply tail_val (w' := w113) 147 [137, 138, 139, 140, 141, 142, 143, 144, 145, 146, 147] hE k rfl (by rfl) (by rfl) (by rfl)
      case h =>
        exact x_neq rfl e146 rfl
      intro a115 hE e147 kp
      replace e11 := hE.eval 11 (by rfl) e11
      replace e12 := hE.eval 12 (by rfl) e12
      replace e13 := hE.eval 13 (by rfl) e13
      replace e15 := hE.eval 15 (by rfl) e15
      replace e16 := hE.eval 16 (by rfl) e16
      replace e19 := hE.eval 19 (by rfl) e19
      replace e20 := hE.eval 20 (by rfl) e20
      replace k := k.env hE
      clear hE e135
      refine then_n ?_
      refine cond_f e147 rfl ?_
      refine wp_skip ?_
      refine then_n ?_
      have hall := ck_all hW (ck_len ho20 hDA hDB)
      obtain ⟨hT', hTl'⟩ := tx_set hT hTl hw20 hW (by omega) hall
      have ct := (text_cell (OwnT.get O 5 rfl) (hT oz ho20)).1
      obtain ⟨hc, hfz⟩ := text_cell (OwnT.get O 5 rfl) (hT wz hw20)
      refine wp_region_lit ?_
      have hE := Env.refl a115 [148, 149, 150, 151, 152, 153, 154]
      apply sq_det 148 hE k rfl (by rfl) (by rfl) rfl
      case h =>
        exact x_move rfl (hE.eval 16 (by rfl) e16)
      intro a116 hE e148 kp
      apply sq_det 149 hE k rfl (by rfl) (by rfl) rfl
      case h =>
        exact x_move rfl (hE.eval 19 (by rfl) e19)
      intro a117 hE e149 kp
      replace e148 := (kp 148 rfl).trans e148
      apply sq_det 150 hE k rfl (by rfl) (by rfl) rfl
      case h =>
        exact x_move rfl (hE.eval 16 (by rfl) e16)
      intro a118 hE e150 kp
      replace e148 := (kp 148 rfl).trans e148
      replace e149 := (kp 149 rfl).trans e149
      apply sq_det 151 hE k rfl (by rfl) (by rfl) rfl
      case h =>
        exact x_move rfl (hE.eval 20 (by rfl) e20)
      intro a119 hE e151 kp
      replace e148 := (kp 148 rfl).trans e148
      replace e149 := (kp 149 rfl).trans e149
      replace e150 := (kp 150 rfl).trans e150
      apply sq_det 152 hE k rfl (by rfl) (by rfl) rfl
      case h =>
        simp [go_sem, BigFrame.eval_const, BigFrame.eval_global, BigFrame.eval_func, ↓IntWalk.iteOmega, ev e150, ev e151]
        with_reducible rfl
      intro a120 hE e152 kp
      replace e148 := (kp 148 rfl).trans e148
      replace e149 := (kp 149 rfl).trans e149
      apply sq_det 153 hE k rfl (by rfl) (by rfl) rfl
      case h =>
        simp [go_sem, BigFrame.eval_const, BigFrame.eval_global, BigFrame.eval_func, ↓IntWalk.iteOmega, ev e152, ct]
        with_reducible rfl
      intro a121 hE e153 kp
      replace e148 := (kp 148 rfl).trans e148
      replace e149 := (kp 149 rfl).trans e149
      apply sq_det 154 hE k rfl (by rfl) (by rfl) rfl
      case h =>
        simp [go_sem, BigFrame.eval_const, BigFrame.eval_global, BigFrame.eval_func, ↓IntWalk.iteOmega, ev e148, ev e149]
        with_reducible rfl
      intro a122 hE e154 kp
      replace e153 := (kp 153 rfl).trans e153
      refine sq_unit (w' := (w113.setCell ⟨g2, wz, none⟩ (.string (sB (ckC kz La Lb oz))))) hE rfl rfl ?_ ?_
      · simp [go_sem, BigFrame.eval_const, BigFrame.eval_global, BigFrame.eval_func, ↓IntWalk.iteOmega, ev e154, ev e153, hc, hfz]
      replace O := OwnT.push (L := [_, _, _, _, _, _]) 5 rfl ((OwnT.pull O 5 rfl).setRow1 (i := wz) hw20 (.string (sB (ckC kz La Lb oz))))
      clear hc hfz
      rw [← strsV_set] at O
      generalize (w113.setCell ⟨g2, wz, none⟩ (.string (sB (ckC kz La Lb oz)))) = w123 at O ⊢
      refine wpList_nil ?_
      replace e11 := hE.eval 11 (by rfl) e11
      replace e12 := hE.eval 12 (by rfl) e12
      replace e13 := hE.eval 13 (by rfl) e13
      replace e15 := hE.eval 15 (by rfl) e15
      replace e16 := hE.eval 16 (by rfl) e16
      replace k := k.env hE
      clear hE e19 e20 e147 e153 e154
      refine block_n ?_
      refine then_n ?_
      refine apart_end _ _ k e11 e12 e13 e15 e16 O hk hF' hT' ?_
      intro a9 w9 k e10 hb
      refine ret_F1 rfl k e10 ?_
      exact ⟨rfl, hb⟩
    · skip
      refine wp_seq ?_
      refine wp_region_lit ?_
      have hE := Env.refl a96 [109, 108]
      apply sq_det 109 hE k rfl (by rfl) (by rfl) rfl
      case h =>
        exact x_eql rfl (hE.eval 95 (by rfl) e95) rfl
      intro a124 hE e109 kp
      apply sq_det 108 hE k rfl (by rfl) (by rfl) rfl
      case h =>
        exact x_assign rfl e109
      intro a125 hE e108 kp
      refine wpList_nil ?_
      replace e3 := hE.eval 3 (by rfl) e3
      replace e11 := hE.eval 11 (by rfl) e11
      replace e12 := hE.eval 12 (by rfl) e12
      replace e13 := hE.eval 13 (by rfl) e13
      replace e15 := hE.eval 15 (by rfl) e15
      replace e16 := hE.eval 16 (by rfl) e16
      replace e19 := hE.eval 19 (by rfl) e19
      replace e20 := hE.eval 20 (by rfl) e20
      replace e95 := hE.eval 95 (by rfl) e95
      replace k := k.env hE
      clear hE
      refine then_n ?_
      refine cond_f e108 rfl ?_
      refine wp_seq ?_
      refine wp_region_lit ?_
      have hE := Env.refl a125 [136, 135]
      apply sq_det 136 hE k rfl (by rfl) (by rfl) rfl
      case h =>
        exact x_eql rfl (hE.eval 95 (by rfl) e95) rfl
      intro a126 hE e136 kp
      apply sq_det 135 hE k rfl (by rfl) (by rfl) rfl
      case h =>
        exact x_assign rfl e136
      intro a127 hE e135 kp
      refine wpList_nil ?_
      replace e11 := hE.eval 11 (by rfl) e11
      replace e12 := hE.eval 12 (by rfl) e12
      replace e13 := hE.eval 13 (by rfl) e13
      replace e15 := hE.eval 15 (by rfl) e15
      replace e16 := hE.eval 16 (by rfl) e16
      replace e19 := hE.eval 19 (by rfl) e19
      replace e20 := hE.eval 20 (by rfl) e20
      replace k := k.env hE
      clear hE e3 e95 e108
      refine then_n ?_
      refine cond_f e135 rfl ?_
      have cs : w44.cell? ⟨g1, wz * 2, none⟩ = some (.int .i64 (wzt : Int)) ∧ w44.cell? ⟨g1, wz * 2 + 1, none⟩ = some (.int .i64 (wzs : Int)) := by have h := spot_cell (OwnT.get O 4 rfl) (z := wz) hw20; rw [hwzt, hwzs] at h; exact h
      refine wp_seq ?_
      refine wp_seq ?_
      refine wp_region_lit ?_
      have hE := Env.refl a127 [96, 97, 98, 99, 100, 101, 102]
      apply sq_det 96 hE k rfl (by rfl) (by rfl) rfl
      case h =>
        exact x_move rfl (hE.eval 13 (by rfl) e13)
      intro a128 hE e96 kp
      apply sq_det 97 hE k rfl (by rfl) (by rfl) rfl
      case h =>
        exact x_move rfl (hE.eval 15 (by rfl) e15)
      intro a129 hE e97 kp
      replace e96 := (kp 96 rfl).trans e96
      apply sq_det 98 hE k rfl (by rfl) (by rfl) rfl
      case h =>
        exact x_move rfl (hE.eval 19 (by rfl) e19)
      intro a130 hE e98 kp
      replace e96 := (kp 96 rfl).trans e96
      replace e97 := (kp 97 rfl).trans e97
      apply sq_det 99 hE k rfl (by rfl) (by rfl) rfl
      case h =>
        simp [go_sem, BigFrame.eval_const, BigFrame.eval_global, BigFrame.eval_func, ↓IntWalk.iteOmega, ev e97, ev e98]
        with_reducible rfl
      intro a131 hE e99 kp
      replace e96 := (kp 96 rfl).trans e96
      apply sq_det 100 hE k rfl (by rfl) (by rfl) rfl
      case h =>
        simp [go_sem, BigFrame.eval_const, BigFrame.eval_global, BigFrame.eval_func, ↓IntWalk.iteOmega, ev e99, cs.1, cs.2]
        with_reducible rfl
      intro a132 hE e100 kp
      replace e96 := (kp 96 rfl).trans e96
      apply sq_call 101 hE k rfl (by rfl) (by rfl) rfl
      case h =>
        simp [go_sem, BigFrame.eval_const, BigFrame.eval_global, BigFrame.eval_func, ↓IntWalk.iteOmega, ev e96, ev e100]
        with_reducible exact ⟨rfl, rfl⟩
      case hc => exact kzero wz wzt wzs _ O hw20 hwzt hwzs hk hM (by omega) hF
      clear O
      rintro e w134 ⟨r, rfl, rfl, La', Lb', M', hF', hM', hW, O⟩
      refine ⟨_, rfl, ?_⟩
      intro a133 hE e101 kp
      apply sq_det 102 hE k rfl (by rfl) (by rfl) rfl
      case h =>
        exact x_neq rfl e101 rfl
      intro a135 hE e102 kp
      refine wpList_nil ?_
      replace e11 := hE.eval 11 (by rfl) e11
      replace e12 := hE.eval 12 (by rfl) e12
      replace e13 := hE.eval 13 (by rfl) e13
      replace e15 := hE.eval 15 (by rfl) e15
      replace e16 := hE.eval 16 (by rfl) e16
      replace e19 := hE.eval 19 (by rfl) e19
      replace k := k.env hE
      clear hE e20 e135
      refine then_n ?_
      refine cond_f e102 rfl ?_
      refine wp_skip ?_
      refine then_n ?_
      have hall := ck_all hW List.length_replicate
      obtain ⟨hT', hTl'⟩ := tx_set hT hTl hw20 hW (by omega) hall
      refine wp_region_lit ?_
      have hE := Env.refl a135 [103, 104, 105, 106, 107]
      apply sq_det 103 hE k rfl (by rfl) (by rfl) rfl
      case h =>
        exact x_move rfl (hE.eval 16 (by rfl) e16)
      intro a136 hE e103 kp
      apply sq_det 104 hE k rfl (by rfl) (by rfl) rfl
      case h =>
        exact x_move rfl (hE.eval 19 (by rfl) e19)
      intro a137 hE e104 kp
      replace e103 := (kp 103 rfl).trans e103
      apply sq_det 105 hE k rfl (by rfl) (by rfl) rfl
      case h =>
        exact x_move rfl (hE.eval 11 (by rfl) e11)
      intro a138 hE e105 kp
      replace e103 := (kp 103 rfl).trans e103
      replace e104 := (kp 104 rfl).trans e104
      apply sq_call 106 hE k rfl (by rfl) (by rfl) rfl
      case h =>
        simp [go_sem, BigFrame.eval_const, BigFrame.eval_global, BigFrame.eval_func, ↓IntWalk.iteOmega, ev e105]
        with_reducible exact ⟨rfl, rfl⟩
      case hc => exact fill18_any 0 kz (by omega) _
      rintro e w140 ⟨rfl, R⟩
      replace O := OwnT.ext O R
      refine ⟨_, rfl, ?_⟩
      intro a139 hE e106 kp
      replace e103 := (kp 103 rfl).trans e103
      replace e104 := (kp 104 rfl).trans e104
      apply sq_det 107 hE k rfl (by rfl) (by rfl) rfl
      case h =>
        simp [go_sem, BigFrame.eval_const, BigFrame.eval_global, BigFrame.eval_func, ↓IntWalk.iteOmega, ev e103, ev e104]
        with_reducible rfl
      intro a141 hE e107 kp
      replace e106 := (kp 106 rfl).trans e106
      refine sq_unit (w' := (w140.setCell ⟨g2, wz, none⟩ (.string (sB (List.replicate (16 * kz) 0))))) hE rfl rfl ?_ ?_
      · (obtain ⟨hc, hfz⟩ := text_cell (OwnT.get O 5 rfl) (hT wz hw20); simp [go_sem, BigFrame.eval_const, BigFrame.eval_global, BigFrame.eval_func, ↓IntWalk.iteOmega, ev e107, ev e106, hc, hfz])
      replace O := OwnT.push (L := [_, _, _, _, _, _]) 5 rfl ((OwnT.pull O 5 rfl).setRow1 (i := wz) hw20 (.string (sB (List.replicate (16 * kz) 0))))
      rw [← strsV_set] at O
      generalize (w140.setCell ⟨g2, wz, none⟩ (.string (sB (List.replicate (16 * kz) 0)))) = w142 at O ⊢
      refine wpList_nil ?_
      replace e11 := hE.eval 11 (by rfl) e11
      replace e12 := hE.eval 12 (by rfl) e12
      replace e13 := hE.eval 13 (by rfl) e13
      replace e15 := hE.eval 15 (by rfl) e15
      replace e16 := hE.eval 16 (by rfl) e16
      replace k := k.env hE
      clear hE e19 e102 e106 e107
      refine block_n ?_
      refine then_n ?_
      refine apart_end _ _ k e11 e12 e13 e15 e16 O hk hF' hT' ?_
      intro a9 w9 k e10 hb
      refine ret_F1 rfl k e10 ?_
      exact ⟨rfl, hb⟩
theorem chunkApart_walk (w : World) (v0 v1 v2 v3 v4 : Value) (h0 : Arg Try.prog w 3 v0) (h1 : Arg Try.prog w 3 v1) (h2 : Arg Try.prog w 3 v2) (h3 : Arg Try.prog w 5 v3) (h4 : Arg Try.prog w 3 v4) :
    Calls Try.prog 11 #[v0, v1, v2, v3, v4] w fun e w' => e = .returned (.bool true) ∧ Below w.heap.size w w' := by
  obtain ⟨x0, rfl, _⟩ := arg_int Try.underlying3 h0
  obtain ⟨x1, rfl, _⟩ := arg_int Try.underlying3 h1
  obtain ⟨x2, rfl, _⟩ := arg_int Try.underlying3 h2
  obtain ⟨x3, rfl, w3⟩ := arg_int Try.underlying5 h3
  obtain ⟨x4, rfl, _⟩ := arg_int Try.underlying3 h4
  have hd := bounds_u8 w3
  have e : ((UInt8.ofNat x3.toNat).toNat : Int) = x3 := by simp; omega
  rw [← e]
  exact chunkApart_core x0 x1 x2 x4 _ w
end Go.Proofs.Ytdpohbaeopidmaa
